/-
  JOINED: Q1 Q2 Q3 Q4 Q5 P14 M1A M8J P20 P21 T1 T2 T3 T4 (tools/joint.py).
-/
import Derived.Test.YtihhinbjhiankaaGreatDoorLawSetAP3
import Derived.Test.YtihhinbjhiankaaGreatDoorLawSetAP4
import Derived.Test.YtihhinbjhiankaaGreatDoorLawSetAP6
import Derived.Test.YtihhinbjhiankaaGreatDoorLawSetAP8
set_option linter.unusedSimpArgs false
set_option linter.unusedVariables false
namespace Go.Proofs.YtihhinbjhiankaaGreatDoor.Al

def vput (n : Int) : List Int := if n < 0 ∨ n > 1073741823 then [] else if n < 64 then [n] else if n < 16384 then [64 + n / 256, n % 256] else [128 + n / 16777216, n / 65536 % 256, n / 256 % 256, n % 256]
/-- Octets: each from 0 to 255. -/
def Bytes (b : List Int) : Prop := ∀ x ∈ b, 0 ≤ x ∧ x ≤ 255
theorem Bytes.app {a b : List Int} : Bytes (a ++ b) ↔ Bytes a ∧ Bytes b := by
  simp only [Bytes, List.mem_append]
  exact ⟨fun h => ⟨fun x hx => h x (.inl hx), fun x hx => h x (.inr hx)⟩, fun h x hx => hx.elim (h.1 x) (h.2 x)⟩
/-! Numbers of four octets -/
def be4 (n : Int) : List Int := [n / 16777216 % 256, n / 65536 % 256, n / 256 % 256, n % 256]
end Go.Proofs.YtihhinbjhiankaaGreatDoor.Al
namespace Go.Proofs.YtihhinbjhiankaaGreatDoor.Al

def f1 (v : List Int) : List Int := vput v.length ++ v
end Go.Proofs.YtihhinbjhiankaaGreatDoor.Al
namespace Go.Proofs.YtihhinbjhiankaaGreatDoor.Al

def joinL (l : List Int) (i : Int) : List Int := rise (l ++ [i])
def cutL (l i : List Int) : List Int := l.filter fun x => !i.contains x
theorem mem_joinL {l : List Int} {i x : Int} : x ∈ joinL l i ↔ x ∈ l ∨ x = i := by simp [joinL, mem_rise]
theorem rises_joinL (l : List Int) (i : Int) : Rises (joinL l i) := rises_rise _
theorem joinL_len (l : List Int) (i : Int) : (joinL l i).length ≤ l.length + 1 := by
  have := length_rise_le (l ++ [i])
  simpa [joinL] using this
theorem mem_cutL {l i : List Int} {x : Int} : x ∈ cutL l i ↔ x ∈ l ∧ ¬ x ∈ i := by simp [cutL]
theorem cutL_joinL (l : List Int) (i : Int) : joinL (cutL (joinL l i) [i]) i = joinL l i := rises_ext (rises_joinL _ _) (rises_joinL _ _) fun x => by
  simp only [mem_joinL, mem_cutL, List.mem_singleton]
  constructor
  · rintro (h | h)
    · exact h.1
    · exact .inr h
  · intro h
    by_cases e : x = i
    · exact .inr e
    · exact .inl ⟨h, e⟩
end Go.Proofs.YtihhinbjhiankaaGreatDoor.Al
namespace Go.Proofs.YtihhinbjhiankaaGreatDoor.Al
open Go

end Go.Proofs.YtihhinbjhiankaaGreatDoor.Al
namespace Go.Proofs.YtihhinbjhiankaaGreatDoor.Al
open Go

theorem be4_bytes (n : Int) : Bytes (be4 n) := by
  intro x hx
  simp only [be4, List.mem_cons, List.not_mem_nil, or_false] at hx
  omega
end Go.Proofs.YtihhinbjhiankaaGreatDoor.Al
namespace Go.Proofs.YtihhinbjhiankaaGreatDoor.Al
open Go

theorem nodeAt_of {t : List Node} {x : Nat} (h : x < t.length) : nodeAt t x = t[x] := by simp [nodeAt, h]
theorem zeroAt_at (t : List Node) (L : List Int) (hL : ∀ p ∈ L, 0 ≤ p) {x : Nat} (h : x < (zeroAt t L).length) : (zeroAt t L)[x] = if (x : Int) ∈ L then .zero else t[x]'(by rw [← zeroAt_len t L]; exact h) := by
  have hx : x < t.length := by rw [← zeroAt_len t L]; exact h
  rw [← nodeAt_of h, zeroAt_get L t x hx hL, nodeAt_of hx]
theorem zeroAt_sane {t : List Node} (h : Sane t) (L : List Int) (hL : ∀ p ∈ L, 0 ≤ p) : Sane (zeroAt t L) := by
  refine ⟨fun x hx => ?_, by rw [zeroAt_len]; exact h.2⟩
  rw [zeroAt_at t L hL hx]
  split
  · exact good_zero x
  · exact h.1 x _
theorem zeroAt_ok {t : List Node} (h : Tree.Ok t) (L : List Int) : Tree.Ok (zeroAt t L) := by
  have : ∀ (L : List Int) (t : List Node), (∀ n ∈ t, n.Ok) → ∀ n ∈ zeroAt t L, n.Ok := by
    intro L
    induction L with
    | nil => intro t h; exact h
    | cons p L ih =>
      intro t h
      refine ih _ fun n hn => ?_
      rcases List.mem_or_eq_of_mem_set hn with hn | rfl
      · exact h n hn
      · exact .zero
  refine ⟨?_, this L t h.2⟩
  have := h.1
  simp only [Small] at this ⊢
  rw [zeroAt_len]; exact this
/-- The places that are made blank. -/
def blanks (w : Nat) (i : Int) : List Int := directI (2 * i) w ++ [2 * i]
theorem clear_in {t : List Node} (hs : Sane t) {i : Int} (h0 : 0 ≤ i) (h1 : i < leaves_ t) : IsN (2 * i) t.length ∧ clearT t i = (zeroAt t (blanks t.length i), 0) ∧ (∀ p ∈ blanks t.length i, 0 ≤ p) ∧ ∀ x : Int, x ∈ blanks t.length i ↔ x ∈ ups (2 * i) t.length := by
  have lv : leaves_ t = (t.length + 1) / 2 := by unfold leaves_; rw [known_of hs]
  have hne : ¬ t.length = 0 := by omega
  have hw : Whole t.length := hs.2.resolve_left hne
  have hodd : (t.length : Int) % 2 = 1 := by unfold Whole at hw; omega
  have hN : IsN (2 * i) t.length := ⟨hw, by omega, by omega⟩
  have hm : ∀ x : Int, x ∈ blanks t.length i ↔ x ∈ ups (2 * i) t.length := by
    intro x
    unfold blanks directI
    rw [ups_step hN]
    simp only [List.tail_cons, List.mem_append, List.mem_cons, List.not_mem_nil, or_false]
    exact Or.comm
  refine ⟨hN, ?_, fun p hp => (ups_is ((hm p).1 hp)).2.1, hm⟩
  unfold clearT blanks
  rw [if_neg (by omega), known_of hs]
theorem clear_out {t : List Node} {i : Int} (h : i < 0 ∨ i ≥ leaves_ t) : clearT t i = ([], 3) := if_pos h
theorem clear_sane (t : List Node) (i : Int) : Sane (clearT t i).1 := by
  by_cases h : i < 0 ∨ i ≥ leaves_ t
  · rw [clear_out h]; exact .nil
  · have hk := known_sane t
    have e : leaves_ (known t) = leaves_ t := by unfold leaves_; rw [known_known]
    have e2 : clearT t i = clearT (known t) i := by unfold clearT; rw [e, known_known]
    obtain ⟨_, h1, h2, _⟩ := clear_in hk (i := i) (by omega) (by omega)
    rw [e2, h1]
    exact zeroAt_sane hk _ h2
theorem clear_ok {t : List Node} (ht : Tree.Ok t) (i : Int) : Tree.Ok (clearT t i).1 := by
  unfold clearT
  split
  · exact .nil
  · exact zeroAt_ok (known_ok ht) _
end Go.Proofs.YtihhinbjhiankaaGreatDoor.Al
namespace Go.Proofs.YtihhinbjhiankaaGreatDoor.Al
open Go
attribute [local go_sem] W_mv W_pick W_alloc W_box W_build W_bslice W_load W_store W_bin W_isnil W_un W_convI W_convS W_mkfunc W_mkslice W_slice W_faddr W_field W_iaddr W_extract W_len W_min W_append W_appendZ W_copy W_invoke thenQ_normal thenQ_exit thenQ_goto thenQ_ret blockQ_normal blockQ_ret blockQ_goto blockQ_exit wpc_skip wpc_region wpc_draw wpc_seq wpc_cond wpc_block wpc_exit wpc_goto wpc_label wpc_ret wpc_loop wpc_range wpc_scope condW_true condW_false condW_dec condW_any W_nil W_call resW_some evalOp Opd.ev updo_envL updo_none setL_cons setL_nil envL_cons Option.map_some Option.bind_some evBin evInt List.map_cons List.map_nil Option.pure_def Option.bind_eq_bind W_grd' grdW_tt grdW_ff grdW_tf grdW_ft grdW_tup grdW_dt grdW_df lgrdW_tup L_mv L_load L_bin L_un L_faddr L_iaddr L_nil L_call lresW_some upd_envL evUn beq_dec bne_dec leaves_ret1 leaves_ret0 leaves_end0 rowLen_ints load_iptr0 not_dec heap_get0 heap_get1 heap_set0 heap_set1 heap_len1 heap_app bslice1_int seen_ints seen_one0 Nat.sub_zero Bool.not_true Bool.not_false List.length_nil List.length_cons List.nil_append List.cons_append Nat.zero_add load_iptrA canon_ptrI canon_bool canon_tup canon_agg canon_ints' canon_ints0 rowLen_octs seen_octs canon_octs' seen_intss seen_octss rowLen_nodes seen_nodes canon_nodes' rowLen_nodes0 rowLen_nodes1 seen_list cells_int oneIn_int cells_bool oneIn_bool cells_str oneIn_str cells_list oneIn_list cells_func oneIn_func cells_nilfunc oneIn_nilfunc cells_iptr oneIn_iptr cells_iface oneIn_iface cells_nilIface oneIn_nilIface cells_own cells_ptr cells_anybool oneIn_anybool cells_agg oneIn_own0 oneIn_own1 oneIn_own3 oneIn_own4 oneIn_own5 cells_ints oneIn_ints cells_octs oneIn_octs cells_intss oneIn_intss cells_octss oneIn_octss cells_nodes oneIn_nodes ldB0 ldA0 adB0 stB0 ldB1 ldA1 adB1 stB1 ldB2 ldA2 adB2 stB2 ldB3 ldA3 adB3 stB3 ldB4 ldA4 adB4 stB4 ldB5 ldA5 adB5 stB5 List.getElem?_cons_zero List.getElem?_cons_succ beq_self_eq_true splice List.take_zero List.take_succ_cons List.drop_zero List.drop_succ_cons List.append_nil List.set_cons_zero List.set_cons_succ List.all_cons List.all_nil Bool.and_self and_self and_true true_and Nat.lt_irrefl Nat.zero_lt_one Nat.le_refl fillA evNil notA Bool.false_eq_true evMin_int evMax_int Option.map_none freezeP_all_nil freezeP_all_cons frzE_box frzE_arr frzE_dead foldA List.foldlM_cons List.foldlM_nil callW_f lcallW_f ansW_fn ansW_own lansW_fn lansW_own ansW_none lansW_none tab_cons tab_nil dI_int dB_bool dO_octs dO_ints dO_nil dOs_nil dN_nodeA dLf_agg dIn_agg dN_agg dNs_nodes dNs_nil isI_int isO_octs isO_nil isS_ints isS_nil isNs_nodes isNs_nil isLf_agg isIn_agg isN_agg leaf_eta inner_eta node_eta leaf_zero inner_zero node_zero dP_agg isP_agg patch_eta decide_eq_true_eq decide_eq_false_iff_not eq_self forall_const true_implies false_implies Bool.not_eq_true' Bool.not_eq_false' Bool.true_eq_false implies_true ne_eq ldI ldIA adI AV.tup.injEq AV.agg.injEq List.cons.injEq AV.int.injEq AV.bool.injEq nodes_inj octs_inj ints_inj nil_nodes nil_octs nil_ints canon_nilL decide_eq_decide two_ne lendA_fn lendA_own lendA_none llendA_fn llendA_none plain_bool plain_int isNs_own isS_own false_and and_false Q_nil Q_l Q_g Q_h qgrdW_b qgrdW_tup lightD_some heavyD_some readD_some fnD_some fnD_own fnD_none callL_f ownH_some callH_f litD_some litE_some Q_call Q_bslice H_call pendOk_nil pendOk_cons pastOk_nil pastOk_cons Q_mv Q_pick Q_bin Q_un Q_convI Q_mkfunc Q_extract Q_min Q_max Q_lenS Q_lenA Q_field Q_idxA Q_mkiface Q_tassert Q_alloc Q_box Q_store Q_mkslice Q_append Q_appendZ Q_copy Q_clear Q_build Q_load Q_nilck Q_isnil Q_convS Q_slice Q_faddr Q_iaddr Q_iaddrA Q_len H_alloc H_box H_bslice H_store H_mkslice H_append H_appendZ H_copy H_clear free_mv free_pick free_bin free_un free_convI free_mkfunc free_extract free_min free_max free_lenS free_lenA free_field free_idxA free_mkiface free_tassert free_build free_load free_nilck free_isnil free_convS free_slice free_faddr free_iaddr free_iaddrA free_len callW_y List.length_map List.length_set leaves_r evR_some evRess1 evRess2 evRess3 evRes_t evRes_c nz_kind nz_enc nz_cred nz_source nz_parent nz_ienc nz_hash nz_un true_or or_true bsl_node idbs_node idbs_int appN appI ixo_nodes canon_row canon_rowI canon_rowO not_false_eq_true not_true_eq_false ldE_a ldE_c adE_b stE_b onE_a onP_b bsl_zero idbs_zero appN_zero
attribute [local go_sem low] condW_b grdW_b lgrdW_b ldP adP stP onO onPt
attribute [local simp] envL_cons envL_nil idb_int idb_bool idb_ints idb_nil idb_own idb_ptr idb_octs idb_nodes idb_leafA idb_innerA idb_nodeA idb_agg idb_tup idb_iptr idb_fn entB_dead entB_box
theorem cloneI_spec (b : List Int) (hl : b.length ≤ 4294967295) : FunOwn seat 201 [ints b] 1 (b.map (AV.int .i64)) := by
  refine FunOwn.of0W told201 (by simp [il201]) (by simp ) (encI64.xs_idb b) (wpc_sound ?_)
  simp only [il201, List.zipIdx_cons, List.zipIdx_nil, Nat.zero_add, go_sem, Nat.reduceEqDiff, reduceIte, Nat.reduceAdd, Nat.reduceLeDiff, Nat.reduceLT, Nat.reduceSub, ints]
  have app : ∀ r : List Int, r.length ≤ 4294967295 → ∃ v, evAppend [Entry.arr 1 0 (([] : List Int).map (AV.int .i64))] 1 8 (.own 0 0 0 ([] : List Int).length) (r.map (AV.int .i64)) = some (.own 0 v 0 r.length, [.arr 1 v (r.map (AV.int .i64))]) := by
    intro r hr
    obtain ⟨v, hv⟩ := encI64.app_any (H := [Entry.arr 1 0 (([] : List Int).map (AV.int .i64))]) (id := 0) (ver := 0) (l := []) (ys := r) (bytes := 8) rfl (by unfold maxRow; simp; omega) (by decide)
    exact ⟨v, by simpa [encI64] using hv⟩
  have hb : evBslice ([] : List Entry) 1 0 (.int .i64 0) [] = some (.own 0 0 0 0, [.arr 1 0 []]) := rfl
  cases b with
  | nil =>
    obtain ⟨v, hv⟩ := app [] (by simp)
    simp only [List.map_nil, List.length_nil] at hv
    simp only [List.map_nil, go_sem, Nat.reduceEqDiff, reduceIte, Nat.reduceAdd, Nat.reduceLeDiff, Nat.reduceLT, Nat.reduceSub, hv, hb]
    exact .inl ⟨0, v, rfl, rfl⟩
  | cons x r =>
    obtain ⟨v, hv⟩ := app (x :: r) hl
    simp only [List.map_nil, List.length_nil, List.map_cons, List.length_cons] at hv
    simp only [List.map_cons, go_sem, Nat.reduceEqDiff, reduceIte, Nat.reduceAdd, Nat.reduceLeDiff, Nat.reduceLT, Nat.reduceSub, hv, hb]
    exact .inl ⟨0, v, by simp, rfl⟩
noncomputable def r201 : Reg seat := .of told201 (ask1 (fun a0' => isS a0' ∧ (dO a0').length ≤ 4294967295) fun a0' => .own 1 ((dO a0').map (AV.int .i64))) (ask1_ok fun a0' h => SaidOk.own (FunOwn.weak (.cons (isS.weak h.1) .nil) (cloneI_spec _ h.2)) (by first | exact encU8.xs_idb _ | exact encI64.xs_idb _ | exact encNode.xs_idb _))
theorem r201_c : r201.c = 201 := rfl
open Classical in
theorem r201_ask (a0' : AV) : r201.ask [a0'] = if isS a0' ∧ (dO a0').length ≤ 4294967295 then some (Said.own 1 ((dO a0').map (AV.int .i64))) else none := by unfold r201 Reg.of ask1; exact ite_cl
end Go.Proofs.YtihhinbjhiankaaGreatDoor.Al
namespace Go.Proofs.YtihhinbjhiankaaGreatDoor.Al
open Go
attribute [local go_sem] W_mv W_pick W_alloc W_box W_build W_bslice W_load W_store W_bin W_isnil W_un W_convI W_convS W_mkfunc W_mkslice W_slice W_faddr W_field W_iaddr W_extract W_len W_min W_append W_appendZ W_copy W_invoke thenQ_normal thenQ_exit thenQ_goto thenQ_ret blockQ_normal blockQ_ret blockQ_goto blockQ_exit wpc_skip wpc_region wpc_draw wpc_seq wpc_cond wpc_block wpc_exit wpc_goto wpc_label wpc_ret wpc_loop wpc_range wpc_scope condW_true condW_false condW_dec condW_any W_nil W_call resW_some evalOp Opd.ev updo_envL updo_none setL_cons setL_nil envL_cons Option.map_some Option.bind_some evBin evInt List.map_cons List.map_nil Option.pure_def Option.bind_eq_bind W_grd' grdW_tt grdW_ff grdW_tf grdW_ft grdW_tup grdW_dt grdW_df lgrdW_tup L_mv L_load L_bin L_un L_faddr L_iaddr L_nil L_call lresW_some upd_envL evUn beq_dec bne_dec leaves_ret1 leaves_ret0 leaves_end0 rowLen_ints load_iptr0 not_dec heap_get0 heap_get1 heap_set0 heap_set1 heap_len1 heap_app bslice1_int seen_ints seen_one0 Nat.sub_zero Bool.not_true Bool.not_false List.length_nil List.length_cons List.nil_append List.cons_append Nat.zero_add load_iptrA canon_ptrI canon_bool canon_tup canon_agg canon_ints' canon_ints0 rowLen_octs seen_octs canon_octs' seen_intss seen_octss rowLen_nodes seen_nodes canon_nodes' rowLen_nodes0 rowLen_nodes1 seen_list cells_int oneIn_int cells_bool oneIn_bool cells_str oneIn_str cells_list oneIn_list cells_func oneIn_func cells_nilfunc oneIn_nilfunc cells_iptr oneIn_iptr cells_iface oneIn_iface cells_nilIface oneIn_nilIface cells_own cells_ptr cells_anybool oneIn_anybool cells_agg oneIn_own0 oneIn_own1 oneIn_own3 oneIn_own4 oneIn_own5 cells_ints oneIn_ints cells_octs oneIn_octs cells_intss oneIn_intss cells_octss oneIn_octss cells_nodes oneIn_nodes ldB0 ldA0 adB0 stB0 ldB1 ldA1 adB1 stB1 ldB2 ldA2 adB2 stB2 ldB3 ldA3 adB3 stB3 ldB4 ldA4 adB4 stB4 ldB5 ldA5 adB5 stB5 List.getElem?_cons_zero List.getElem?_cons_succ beq_self_eq_true splice List.take_zero List.take_succ_cons List.drop_zero List.drop_succ_cons List.append_nil List.set_cons_zero List.set_cons_succ List.all_cons List.all_nil Bool.and_self and_self and_true true_and Nat.lt_irrefl Nat.zero_lt_one Nat.le_refl fillA evNil notA Bool.false_eq_true evMin_int evMax_int Option.map_none freezeP_all_nil freezeP_all_cons frzE_box frzE_arr frzE_dead foldA List.foldlM_cons List.foldlM_nil callW_f lcallW_f ansW_fn ansW_own lansW_fn lansW_own ansW_none lansW_none tab_cons tab_nil dI_int dB_bool dO_octs dO_ints dO_nil dOs_nil dN_nodeA dLf_agg dIn_agg dN_agg dNs_nodes dNs_nil isI_int isO_octs isO_nil isS_ints isS_nil isNs_nodes isNs_nil isLf_agg isIn_agg isN_agg leaf_eta inner_eta node_eta leaf_zero inner_zero node_zero dP_agg isP_agg patch_eta decide_eq_true_eq decide_eq_false_iff_not eq_self forall_const true_implies false_implies Bool.not_eq_true' Bool.not_eq_false' Bool.true_eq_false implies_true ne_eq ldI ldIA adI AV.tup.injEq AV.agg.injEq List.cons.injEq AV.int.injEq AV.bool.injEq nodes_inj octs_inj ints_inj nil_nodes nil_octs nil_ints canon_nilL decide_eq_decide two_ne lendA_fn lendA_own lendA_none llendA_fn llendA_none plain_bool plain_int isNs_own isS_own false_and and_false Q_nil Q_l Q_g Q_h qgrdW_b qgrdW_tup lightD_some heavyD_some readD_some fnD_some fnD_own fnD_none callL_f ownH_some callH_f litD_some litE_some Q_call Q_bslice H_call pendOk_nil pendOk_cons pastOk_nil pastOk_cons Q_mv Q_pick Q_bin Q_un Q_convI Q_mkfunc Q_extract Q_min Q_max Q_lenS Q_lenA Q_field Q_idxA Q_mkiface Q_tassert Q_alloc Q_box Q_store Q_mkslice Q_append Q_appendZ Q_copy Q_clear Q_build Q_load Q_nilck Q_isnil Q_convS Q_slice Q_faddr Q_iaddr Q_iaddrA Q_len H_alloc H_box H_bslice H_store H_mkslice H_append H_appendZ H_copy H_clear free_mv free_pick free_bin free_un free_convI free_mkfunc free_extract free_min free_max free_lenS free_lenA free_field free_idxA free_mkiface free_tassert free_build free_load free_nilck free_isnil free_convS free_slice free_faddr free_iaddr free_iaddrA free_len callW_y List.length_map List.length_set leaves_r evR_some evRess1 evRess2 evRess3 evRes_t evRes_c nz_kind nz_enc nz_cred nz_source nz_parent nz_ienc nz_hash nz_un true_or or_true bsl_node idbs_node idbs_int appN appI ixo_nodes canon_row canon_rowI canon_rowO not_false_eq_true not_true_eq_false ldE_a ldE_c adE_b stE_b onE_a onP_b bsl_zero idbs_zero appN_zero
attribute [local go_sem low] condW_b grdW_b lgrdW_b ldP adP stP onO onPt
attribute [local simp] envL_cons envL_nil idb_int idb_bool idb_ints idb_nil idb_own idb_ptr idb_octs idb_nodes idb_leafA idb_innerA idb_nodeA idb_agg idb_tup idb_iptr idb_fn entB_dead entB_box
theorem numsJoin_spec (l : List Int) (i : Int) (hl : l.length ≤ 4294960000) : Fun seat 185 [ints l, .int .i64 i] (ints (joinL l i)) := by
  have hl' : l.length ≤ 4294967295 := by omega
  have m1 : l.length + 1 ≤ maxRow := by unfold maxRow; omega
  refine Fun.of0R [r201] told185 (by simp [il185]) (by simp [idb_patchA]) (by simp [idb_patchA]) 4 ?_
  simp -implicitDefEqProofs only [il185, List.zipIdx_cons, List.zipIdx_nil, leafA, innerA, nodeA, patchA, Leaf.cells, Inner.cells, Node.cells, r201_c, r201_ask, decide_true, decide_false, hl', m1, go_sem, Nat.reduceEqDiff, reduceIte, Nat.reduceAdd, Nat.reduceLeDiff, Nat.reduceLT, Nat.reduceSub]
  refine Callee.frz 1 told163 (by
    rw [List.map_cons, List.map_nil, canon_rowI (H := [Entry.arr 1 1 (List.map (AV.int .i64) (l ++ [i])), Entry.arr 1 0 [AV.int .i64 i]]) (id := 0) (ver := 1) (k := 0) (l := l ++ [i]) rfl]
    exact thin_spec (l ++ [i]) (by simp; omega)) ?_
  exact encI64.canon_row _ _ _
noncomputable def r185 : Reg seat := .of told185 (ask2 (fun a0' a1' => isS a0' ∧ isI a1' ∧ (dO a0').length ≤ 4294960000) fun a0' a1' => .fn (ints (joinL (dO a0') (dI a1')))) (ask2_ok fun a0' a1' h => SaidOk.fn (Fun.weak (.cons (isS.weak h.1) (.cons (isI.weak h.2.1) .nil)) (numsJoin_spec _ _ h.2.2)))
theorem r185_c : r185.c = 185 := rfl
open Classical in
theorem r185_ask (a0' a1' : AV) : r185.ask [a0', a1'] = if isS a0' ∧ isI a1' ∧ (dO a0').length ≤ 4294960000 then some (Said.fn (ints (joinL (dO a0') (dI a1')))) else none := by unfold r185 Reg.of ask2; exact ite_cl

end Go.Proofs.YtihhinbjhiankaaGreatDoor.Al
namespace Go.Proofs.YtihhinbjhiankaaGreatDoor.Al

/-- What is wrong with a leaf that is to come from somewhere. -/
def srcOf (l : Leaf) (f : Int) : Int := if leafCheck l = 0 ∧ l.source ≠ f then 7 else leafCheck l
def leafN (l : Leaf) : Node := ⟨1, l, .zero⟩
def laidT (t : List Node) (i : Int) (l : Leaf) : List Node := t.set (2 * i).toNat (leafN l)
def joinU (n : Node) (i : Int) : Node := ⟨n.kind, n.leaf, ⟨n.inner.enc, n.inner.hash, joinL n.inner.unmerged i⟩⟩
/-- A leaf is laid to the unmerged ones of all inner nodes at some places. -/
def joinW (t : List Node) (L : List Int) (i : Int) : List Node := t.mapIdx fun x n => if (x : Int) ∈ L ∧ n.kind = 2 then joinU n i else n
/-- What is wrong with a leaf's number. -/
def haveT (t : List Node) (i : Int) : Int := if i < 0 ∨ i ≥ leaves_ t then 3 else if (nodeAt (known t) (2 * i).toNat).kind = 0 then 9 else 0
def roomT (t : List Node) : List Node × Int := if freeT t = -1 then growT t else (known t, 0)
def addT (t : List Node) (l : Leaf) : List Node × Int × Int :=
  if srcOf l 1 ≠ 0 then ([], -1, srcOf l 1) else if (roomT t).2 ≠ 0 then ([], -1, (roomT t).2)
  else (joinW (laidT (roomT t).1 (freeT (roomT t).1) l) (directI (2 * freeT (roomT t).1) (roomT t).1.length) (freeT (roomT t).1), freeT (roomT t).1, 0)
def remT (t : List Node) (i : Int) : List Node × Int := if haveT t i ≠ 0 then ([], haveT t i) else (trimT (clearT t i).1, 0)
def chgT (t : List Node) (i : Int) (l : Leaf) : List Node × Int :=
  if haveT t i ≠ 0 then ([], haveT t i) else if srcOf l 2 ≠ 0 then ([], srcOf l 2) else (laidT (clearT t i).1 i l, 0)

theorem leafN_ok {l : Leaf} (h : l.Ok) : (leafN l).Ok := ⟨h, .zero, by simp only [leafN]; exact ⟨by decide, by decide⟩⟩
theorem laidT_ok {t : List Node} (ht : Tree.Ok t) {l : Leaf} (hl : l.Ok) (i : Int) : Tree.Ok (laidT t i l) := by
  refine ⟨by unfold laidT Small; rw [List.length_set]; exact ht.1, fun n hn => ?_⟩
  rcases List.mem_or_eq_of_mem_set hn with h | rfl
  · exact ht.2 n h
  · exact leafN_ok hl
theorem laidT_len (t : List Node) (i : Int) (l : Leaf) : (laidT t i l).length = t.length := by unfold laidT; simp
theorem joinW_len (t : List Node) (L : List Int) (i : Int) : (joinW t L i).length = t.length := by unfold joinW; simp
theorem joinW_at (t : List Node) (L : List Int) (i : Int) {x : Nat} (hx : x < t.length) : nodeAt (joinW t L i) x = if (x : Int) ∈ L ∧ (nodeAt t x).kind = 2 then joinU (nodeAt t x) i else nodeAt t x := by
  rw [nodeAt_lt (by rw [joinW_len]; exact hx), nodeAt_lt hx]
  unfold joinW
  rw [List.getElem_mapIdx]
theorem laidT_at (t : List Node) (i : Int) (l : Leaf) (h : (2 * i).toNat < t.length) (x : Nat) : nodeAt (laidT t i l) x = if x = (2 * i).toNat then leafN l else nodeAt t x := nodeAt_set t _ _ x h
theorem joinL_nums {l : List Int} {i : Int} (h : Nums l) (hl : l.length ≤ 4294960000) (hi : In64 i) : Nums (joinL l i) := by
  refine ⟨?_, fun x hx => ?_⟩
  · have := joinL_len l i; unfold Small; omega
  · rcases mem_joinL.1 hx with h1 | rfl
    · exact h.2 x h1
    · exact hi
theorem joinU_ok {n : Node} (h : n.Ok) (hl : n.inner.unmerged.length ≤ 4294960000) {i : Int} (hi : In64 i) : (joinU n i).Ok := ⟨h.leaf, ⟨h.inner.enc, h.inner.hash, joinL_nums h.inner.unmerged hl hi⟩, h.kind⟩
theorem unm_len {n : Node} (h : nodeCheck n = 0) : n.inner.unmerged.length ≤ 64 := by
  unfold nodeCheck at h
  split at h
  · cases h
  · split at h
    · cases h
    · rename_i h1 h2
      by_cases hk : n.kind = 2
      · rw [if_neg (by omega), if_pos hk] at h
        unfold innerCheck at h
        split at h
        · cases h
        · split at h
          · cases h
          · omega
      · have : n.inner = .zero := Classical.byContradiction fun hn => h2 (.inr ⟨hk, hn⟩)
        rw [this]; exact Nat.zero_le _
theorem joinW_ok {t : List Node} (ht : Tree.Ok t) (hu : ∀ n ∈ t, n.inner.unmerged.length ≤ 4294960000) (L : List Int) {i : Int} (hi : In64 i) : Tree.Ok (joinW t L i) := by
  refine ⟨by unfold Small; rw [joinW_len]; exact ht.1, fun n hn => ?_⟩
  unfold joinW at hn
  obtain ⟨x, hx, rfl⟩ := List.mem_mapIdx.1 hn
  split
  · exact joinU_ok (ht.2 _ (List.getElem_mem _)) (hu _ (List.getElem_mem _)) hi
  · exact ht.2 _ (List.getElem_mem _)

theorem rises_bound : ∀ {l : List Int} {m : Int}, Rises l → (∀ x ∈ l, m ≤ x ∧ x ≤ 63) → m ≤ 64 → (l.length : Int) ≤ 64 - m
  | [], m, _, _, hm => by simp; omega
  | x :: r, m, h, hb, hm => by
    have h1 := hb x (by simp)
    have h2 := rises_bound (l := r) (m := x + 1) (List.pairwise_cons.1 h).2 (fun y hy => ⟨by have := (List.pairwise_cons.1 h).1 y hy; omega, (hb y (by simp [hy])).2⟩) (by omega)
    simp only [List.length_cons]; omega
theorem joinU_check {n : Node} (hn : nodeCheck n = 0) (hk : n.kind = 2) {i : Int} (h0 : 0 ≤ i) (h1 : i ≤ 63) : nodeCheck (joinU n i) = 0 := by
  have hl := unm_len hn
  rcases n with ⟨kd, lf, enc, hash, un⟩
  simp only at hk hl
  subst hk
  simp only [joinU, nodeCheck] at hn ⊢
  have k0 : ¬ ((2 : Int) < 0 ∨ (2 : Int) > 2) := by decide
  rw [if_neg k0] at hn ⊢
  by_cases hc : (2 : Int) ≠ 1 ∧ lf ≠ .zero ∨ (2 : Int) ≠ 2 ∧ (⟨enc, hash, un⟩ : Inner) ≠ .zero
  · rw [if_pos hc] at hn; cases hn
  rw [if_neg hc] at hn
  have hc' : ¬ ((2 : Int) ≠ 1 ∧ lf ≠ .zero ∨ (2 : Int) ≠ 2 ∧ (⟨enc, hash, joinL un i⟩ : Inner) ≠ .zero) := by
    rintro (h | h)
    · exact hc (.inl h)
    · exact h.1 rfl
  rw [if_neg hc', if_neg (by decide), if_true]
  rw [if_neg (by decide), if_true] at hn
  unfold innerCheck at hn ⊢
  simp only at hn ⊢
  split at hn
  · cases hn
  rename_i c1
  rw [if_neg c1]
  split at hn
  · cases hn
  rename_i c2
  split at hn
  · cases hn
  rename_i c3
  have hb : ∀ x ∈ joinL un i, 0 ≤ x ∧ x ≤ 63 := by
    intro x hx
    rcases mem_joinL.1 hx with h | rfl
    · have : ¬ (x < 0 ∨ x > 63) := fun hh => c3 ⟨x, h, hh⟩
      omega
    · omega
  have hle := rises_bound (rises_joinL un i) hb (by omega)
  rw [if_neg (by omega), if_neg (by rintro ⟨x, hx, hh⟩; have := hb x hx; omega)]
  rw [if_neg (not_not_intro (rise_of_rises (rises_joinL _ _)))]
theorem leafN_check {l : Leaf} (h : leafCheck l = 0) : nodeCheck (leafN l) = 0 := by
  unfold nodeCheck leafN
  rw [if_neg (by simp), if_neg (by simp), if_pos rfl]
  exact h
theorem srcOf_zero {l : Leaf} {f : Int} (h : srcOf l f = 0) : leafCheck l = 0 ∧ l.source = f := by
  unfold srcOf at h
  split at h
  · cases h
  · rename_i hn
    exact ⟨h, Classical.byContradiction fun hs => hn ⟨h, hs⟩⟩

theorem ups_self {x w : Int} (h : IsN x w) : x ∈ ups x w := by rw [ups_step h]; simp
theorem direct_ups {x w y : Int} (h : y ∈ directI x w) : y ∈ ups x w := List.mem_of_mem_tail h
theorem even_is {t : List Node} (hs : Sane t) {k : Nat} (h : 2 * k < t.length) : IsN ((2 * k : Nat) : Int) t.length := ⟨hs.2.resolve_left (by omega), by omega, by omega⟩

theorem joinW_sane {t : List Node} (h : Sane t) (L : List Int) {i : Int} (h0 : 0 ≤ i) (h1 : i ≤ 63) : Sane (joinW t L i) := by
  refine ⟨fun x hx => ?_, by rw [joinW_len]; exact h.2⟩
  have hx' : x < t.length := by rwa [joinW_len] at hx
  have hg := h.1 x hx'
  have e := joinW_at t L i hx'
  rw [nodeAt_lt hx, nodeAt_lt hx'] at e
  rw [e]
  split
  · rename_i hc
    exact ⟨hg.1, joinU_check hg.2 hc.2 h0 h1⟩
  · exact hg
theorem laidT_sane {t : List Node} (h : Sane t) {k : Nat} (hk : 2 * k < t.length) {l : Leaf} (hl : leafCheck l = 0) : Sane (laidT t (k : Int) l) := by
  have e : (2 * (k : Int)).toNat = 2 * k := by omega
  unfold laidT
  rw [e]
  refine set_sane h hk (leafN_check hl) ?_
  unfold Stands leafN
  have : ((2 * k : Nat) : Int).tmod 2 = 0 := by rw [Int.tmod_eq_emod_of_nonneg (by omega)]; omega
  rw [if_pos this]
  simp

theorem room_in {t g : List Node} (hs : Sane t) (h : roomT t = (g, 0)) :
    Sane g ∧ t.length ≤ g.length ∧ (∀ x, nodeAt g x = nodeAt t x) ∧ ∃ k : Nat, freeT g = k ∧ 2 * k < g.length ∧ (nodeAt g (2 * k)).kind = 0 ∧ (freeT t < 0 → (k : Int) = leaves_ t) ∧ (¬ freeT t < 0 → (k : Int) = freeT t) := by
  have bk : ∀ {t : List Node} {j : Nat}, blankEven t (2 * j) = true → (nodeAt t (2 * j)).kind = 0 := fun h => by
    unfold blankEven at h; exact (of_decide_eq_true h).2
  unfold roomT at h
  split at h
  · rename_i hf
    by_cases h7 : t.length = 127
    · rw [growT_full hs h7] at h
      have := congrArg Prod.snd h; cases this
    · rw [growT_grown hs h7] at h
      cases h
      have hg : Sane (grown t) := grow_sane hs h7
      have f1 := (freeT_grow hs h7).1 (by omega)
      have l0 : 0 ≤ leaves_ t := by unfold leaves_; omega
      obtain ⟨k, e1, e2, e3, _⟩ := freeT_pos hg (by omega)
      exact ⟨hg, by rw [grown_len]; omega, grown_at t, k, e1, e2, bk e3, fun _ => by omega, fun hn => by omega⟩
  · rename_i hf
    rw [known_of hs] at h
    cases h
    have hp : ¬ freeT t < 0 := fun hn => hf (freeT_neg hs hn).1
    obtain ⟨k, e1, e2, e3, _⟩ := freeT_pos hs hp
    exact ⟨hs, Nat.le_refl _, fun _ => rfl, k, e1, e2, bk e3, fun h => absurd h hp, fun _ => by omega⟩

theorem addT_in {t a : List Node} {l : Leaf} {n : Int} (hs : Sane t) (h : addT t l = (a, n, 0)) :
    ∃ k : Nat, n = k ∧ 2 * k < a.length ∧ t.length ≤ a.length ∧ Sane a ∧ nodeAt a (2 * k) = leafN l ∧ (leafCheck l = 0 ∧ l.source = 1) ∧ (∀ x : Nat, ¬ (x : Int) ∈ ups ((2 * k : Nat) : Int) a.length → nodeAt a x = nodeAt t x) ∧ (freeT t < 0 → n = leaves_ t) ∧ (¬ freeT t < 0 → n = freeT t) := by
  unfold addT at h
  split at h
  · rename_i hn
    have := congrArg (fun x : List Node × Int × Int => x.2.2) h
    exact absurd this hn
  · rename_i h1
    have hl := srcOf_zero (Classical.not_not.1 h1)
    split at h
    · rename_i hn
      have := congrArg (fun x : List Node × Int × Int => x.2.2) h
      exact absurd this hn
    · rename_i h2
      rcases hr : roomT t with ⟨g, e⟩
      rw [hr] at h h2
      simp only [ne_eq, Classical.not_not] at h2
      subst h2
      obtain ⟨hg, hle, hat, k, hk, hkl, hz, f1, f2⟩ := room_in hs hr
      simp only [Prod.mk.injEq, and_true] at h
      obtain ⟨ha, hn⟩ := h
      rw [hk] at ha hn
      have hlen : a.length = g.length := by rw [← ha, joinW_len, laidT_len]
      have e2 : (2 * (k : Int)).toNat = 2 * k := by omega
      have e3 : (2 * (k : Int)) = ((2 * k : Nat) : Int) := by omega
      have hN : IsN ((2 * k : Nat) : Int) g.length := even_is hg hkl
      have hk63 : (k : Int) ≤ 63 := by have := hg.len; omega
      refine ⟨k, hn.symm, by omega, by omega, ?_, ?_, hl, fun x hx => ?_, fun h => by rw [← hn]; exact f1 h, fun h => by rw [← hn]; exact f2 h⟩
      · rw [← ha]; exact joinW_sane (laidT_sane hg hkl hl.1) _ (by omega) hk63
      · rw [← ha, joinW_at _ _ _ (by rw [laidT_len]; exact hkl), laidT_at _ _ _ (by omega), e2, if_pos rfl]
        rw [if_neg (by unfold leafN; simp)]
      · rw [hlen] at hx
        have hx2 : x ≠ 2 * k := by rintro rfl; exact hx (ups_self hN)
        rw [← hat x]
        rcases Nat.lt_or_ge x g.length with hxl | hxl
        · rw [← ha, joinW_at _ _ _ (by rw [laidT_len]; exact hxl), laidT_at _ _ _ (by omega), e2, if_neg hx2]
          rw [if_neg]
          rintro ⟨hm, _⟩
          rw [e3] at hm
          exact hx (direct_ups hm)
        · rw [nodeAt_ge (by omega), nodeAt_ge hxl]

theorem haveT_zero {t : List Node} (hs : Sane t) {i : Int} : haveT t i = 0 ↔ ∃ k : Nat, i = k ∧ 2 * k < t.length ∧ (nodeAt t (2 * k)).kind ≠ 0 := by
  unfold haveT
  rw [leaves_of hs, known_of hs]
  constructor
  · intro h
    split at h
    · cases h
    · split at h
      · cases h
      · rename_i h1 h2
        obtain ⟨k, rfl⟩ : ∃ k : Nat, i = k := ⟨i.toNat, by omega⟩
        have e : (2 * (k : Int)).toNat = 2 * k := by omega
        rw [e] at h2
        have hodd : t.length = 0 ∨ t.length % 2 = 1 := by
          rcases hs.2 with h | h
          · exact .inl h
          · have := h.odd; omega
        exact ⟨k, rfl, by omega, h2⟩
  · rintro ⟨k, rfl, h1, h2⟩
    have e : (2 * (k : Int)).toNat = 2 * k := by omega
    rw [e, if_neg (by omega), if_neg h2]
theorem haveT_is (t : List Node) (i : Int) : haveT t i = 0 ∨ haveT t i = 3 ∨ haveT t i = 9 := by
  unfold haveT
  split
  · exact .inr (.inl rfl)
  · split
    · exact .inr (.inr rfl)
    · exact .inl rfl
theorem clear_at {t : List Node} (hs : Sane t) {k : Nat} (h : 2 * k < t.length) :
    IsN ((2 * k : Nat) : Int) t.length ∧ Sane (clearT t k).1 ∧ (clearT t k).2 = 0 ∧ (clearT t k).1.length = t.length ∧ ∀ x : Nat, nodeAt (clearT t k).1 x = if (x : Int) ∈ ups ((2 * k : Nat) : Int) t.length then .zero else nodeAt t x := by
  have hN := even_is hs h
  have lv := leaves_of hs
  obtain ⟨_, c1, c2, c3⟩ := clear_in hs (i := (k : Int)) (by omega) (by omega)
  have e3 : (2 * (k : Int)) = ((2 * k : Nat) : Int) := by omega
  rw [e3] at c3
  refine ⟨hN, clear_sane t k, by rw [c1], by rw [c1]; exact zeroAt_len _ _, fun x => ?_⟩
  rw [c1]
  simp only
  rcases Nat.lt_or_ge x t.length with hx | hx
  · rw [zeroAt_get _ _ _ hx c2]
    simp only [c3]
  · rw [nodeAt_ge (by rw [zeroAt_len]; exact hx), nodeAt_ge hx]
    split <;> rfl
theorem remT_in {t b : List Node} {i : Int} (hs : Sane t) (h : remT t i = (b, 0)) :
    ∃ k : Nat, i = k ∧ 2 * k < t.length ∧ Sane b ∧ b.length ≤ t.length ∧ trimT b = b ∧ ∀ x : Nat, x < b.length → nodeAt b x = if (x : Int) ∈ ups ((2 * k : Nat) : Int) t.length then .zero else nodeAt t x := by
  unfold remT at h
  split at h
  · rename_i hn
    have := congrArg Prod.snd h
    exact absurd this hn
  · rename_i h0
    obtain ⟨k, rfl, hk, _⟩ := (haveT_zero hs).1 (Classical.not_not.1 h0)
    obtain ⟨hN, c1, c2, c3, c4⟩ := clear_at hs hk
    simp only [Prod.mk.injEq, and_true] at h
    subst h
    obtain ⟨t1, t2⟩ := trim_take c1
    refine ⟨k, rfl, hk, trimT_sane c1, by omega, trim_trim c1, fun x hx => ?_⟩
    rw [← c4 x]
    have : nodeAt (trimT (clearT t k).1) x = nodeAt (clearT t k).1 x := by
      rw [nodeAt_lt hx, nodeAt_lt (by omega)]
      have e := congrArg (fun l : List Node => l[x]?) t2
      simp only [List.getElem?_take, hx, if_true] at e
      rw [List.getElem?_eq_getElem (by omega), List.getElem?_eq_getElem hx] at e
      exact (Option.some.inj e).symm
    exact this
theorem chgT_in {t a : List Node} {i : Int} {l : Leaf} (hs : Sane t) (h : chgT t i l = (a, 0)) :
    ∃ k : Nat, i = k ∧ 2 * k < t.length ∧ (nodeAt t (2 * k)).kind ≠ 0 ∧ srcOf l 2 = 0 ∧ Sane a ∧ a.length = t.length ∧ ∀ x : Nat, nodeAt a x = if x = 2 * k then leafN l else if (x : Int) ∈ ups ((2 * k : Nat) : Int) t.length then .zero else nodeAt t x := by
  unfold chgT at h
  split at h
  · rename_i hn
    have := congrArg Prod.snd h
    exact absurd this hn
  · rename_i h0
    split at h
    · rename_i hn
      have := congrArg Prod.snd h
      exact absurd this hn
    · rename_i h1
      obtain ⟨k, rfl, hk, hkind⟩ := (haveT_zero hs).1 (Classical.not_not.1 h0)
      obtain ⟨hN, c1, c2, c3, c4⟩ := clear_at hs hk
      have hsrc := Classical.not_not.1 h1
      simp only [Prod.mk.injEq, and_true] at h
      subst h
      have e2 : (2 * (k : Int)).toNat = 2 * k := by omega
      refine ⟨k, rfl, hk, hkind, hsrc, laidT_sane c1 (by omega) (srcOf_zero hsrc).1, by rw [laidT_len, c3], fun x => ?_⟩
      rw [laidT_at _ _ _ (by omega), e2, c4]
/-- EditBack. -/
theorem edit_back {t a : List Node} {l : Leaf} {n : Int} (hs : Sane t) (h : addT t l = (a, n, 0)) :
    ∃ b, remT a n = (b, 0) ∧ b.length ≤ a.length ∧ 0 ≤ n ∧ trimT b = b ∧ ∀ x : Nat, x < b.length → nodeAt b x = if x < t.length ∧ ¬ (x : Int) ∈ ups (2 * n) a.length then nodeAt t x else .zero := by
  obtain ⟨k, rfl, hk, hle, ha, hl, hsrc, hat, _, _⟩ := addT_in hs h
  have h0 : haveT a k = 0 := (haveT_zero ha).2 ⟨k, rfl, hk, by rw [hl]; unfold leafN; simp⟩
  have hr : remT a k = (trimT (clearT a k).1, 0) := by unfold remT; rw [if_neg (not_not_intro h0)]
  obtain ⟨k', he, _, _, b1, b2, b3⟩ := remT_in ha hr
  have : k' = k := by omega
  subst this
  refine ⟨_, hr, b1, by omega, b2, fun x hx => ?_⟩
  have e3 : (2 * (k' : Int)) = ((2 * k' : Nat) : Int) := by omega
  rw [b3 x hx, e3]
  by_cases hu : (x : Int) ∈ ups ((2 * k' : Nat) : Int) a.length
  · rw [if_pos hu, if_neg fun h => h.2 hu]
  · rw [if_neg hu, hat x hu]
    by_cases hx2 : x < t.length
    · rw [if_pos ⟨hx2, hu⟩]
    · rw [if_neg fun h => hx2 h.1, nodeAt_ge (by omega)]
/-- EditGone. -/
theorem edit_gone {t b : List Node} {i : Int} (hs : Sane t) (h : remT t i = (b, 0)) : Sane b ∧ haveT b i ≠ 0 := by
  obtain ⟨k, rfl, hk, hb, hle, _, hat⟩ := remT_in hs h
  refine ⟨hb, fun h0 => ?_⟩
  obtain ⟨k', e, hk', hz⟩ := (haveT_zero hb).1 h0
  have : k' = k := by omega
  subst this
  rw [hat _ hk', if_pos (ups_self (even_is hs hk))] at hz
  exact hz rfl
theorem remT_no {t : List Node} {i : Int} (h : haveT t i ≠ 0) : remT t i = ([], haveT t i) := if_pos h
theorem chgT_no {t : List Node} {i : Int} (l : Leaf) (h : haveT t i ≠ 0) : chgT t i l = ([], haveT t i) := if_pos h
theorem addT_want {t a : List Node} {l : Leaf} {n : Int} (hs : Sane t) (h : addT t l = (a, n, 0)) : n = if freeT t < 0 then leaves_ t else freeT t := by
  obtain ⟨_, _, _, _, _, _, _, _, f1, f2⟩ := addT_in hs h
  split
  · exact f1 (by assumption)
  · exact f2 (by assumption)
end Go.Proofs.YtihhinbjhiankaaGreatDoor.Al
namespace Go.Proofs.YtihhinbjhiankaaGreatDoor.Al

/-- What is done to a leaf is small. -/
theorem small_add {t a : List Node} {l : Leaf} {n : Int} (hs : Sane t) (h : addT t l = (a, n, 0)) : ∀ x ∈ placesT t a, x ∈ ups (2 * n) a.length := by
  obtain ⟨k, rfl, hk, hle, ha, hl, hsrc, hat, _, _⟩ := addT_in hs h
  intro x hx
  obtain ⟨j, rfl, hj, hd⟩ := mem_upI.1 hx
  rw [known_of hs, known_of ha] at hd
  unfold differ at hd
  have e3 : (2 * (k : Int)) = ((2 * k : Nat) : Int) := by omega
  rw [e3]
  exact Classical.byContradiction fun hn => (of_decide_eq_true hd) (hat j hn).symm
theorem small_rem {t b : List Node} {i : Int} (hs : Sane t) (h : remT t i = (b, 0)) : ∀ x ∈ placesT t b, x ∈ ups (2 * i) t.length := by
  obtain ⟨k, rfl, hk, hb, hle, _, hat⟩ := remT_in hs h
  intro x hx
  obtain ⟨j, rfl, hj, hd⟩ := mem_upI.1 hx
  rw [known_of hb] at hj
  rw [known_of hs, known_of hb] at hd
  unfold differ at hd
  have e3 : (2 * (k : Int)) = ((2 * k : Nat) : Int) := by omega
  rw [e3]
  refine Classical.byContradiction fun hn => (of_decide_eq_true hd) ?_
  rw [hat j hj, if_neg hn]
theorem small_chg {t a : List Node} {i : Int} {l : Leaf} (hs : Sane t) (h : chgT t i l = (a, 0)) : ∀ x ∈ placesT t a, x ∈ ups (2 * i) t.length := by
  obtain ⟨k, rfl, hk, hz, hl, ha, hlen, hat⟩ := chgT_in hs h
  intro x hx
  obtain ⟨j, rfl, hj, hd⟩ := mem_upI.1 hx
  rw [known_of hs, known_of ha] at hd
  unfold differ at hd
  have e3 : (2 * (k : Int)) = ((2 * k : Nat) : Int) := by omega
  rw [e3]
  refine Classical.byContradiction fun hn => (of_decide_eq_true hd) ?_
  rw [hat j, if_neg hn, if_neg]
  rintro rfl
  exact hn (ups_self (even_is hs hk))
end Go.Proofs.YtihhinbjhiankaaGreatDoor.Al
namespace Go.Proofs.YtihhinbjhiankaaGreatDoor.Al
open Go
attribute [local go_sem] W_mv W_pick W_alloc W_box W_build W_bslice W_load W_store W_bin W_isnil W_un W_convI W_convS W_mkfunc W_mkslice W_slice W_faddr W_field W_iaddr W_extract W_len W_min W_append W_appendZ W_copy W_invoke thenQ_normal thenQ_exit thenQ_goto thenQ_ret blockQ_normal blockQ_ret blockQ_goto blockQ_exit wpc_skip wpc_region wpc_draw wpc_seq wpc_cond wpc_block wpc_exit wpc_goto wpc_label wpc_ret wpc_loop wpc_range wpc_scope condW_true condW_false condW_dec condW_any W_nil W_call resW_some evalOp Opd.ev updo_envL updo_none setL_cons setL_nil envL_cons Option.map_some Option.bind_some evBin evInt List.map_cons List.map_nil Option.pure_def Option.bind_eq_bind W_grd' grdW_tt grdW_ff grdW_tf grdW_ft grdW_tup grdW_dt grdW_df lgrdW_tup L_mv L_load L_bin L_un L_faddr L_iaddr L_nil L_call lresW_some upd_envL evUn beq_dec bne_dec leaves_ret1 leaves_ret0 leaves_end0 rowLen_ints load_iptr0 not_dec heap_get0 heap_get1 heap_set0 heap_set1 heap_len1 heap_app bslice1_int seen_ints seen_one0 Nat.sub_zero Bool.not_true Bool.not_false List.length_nil List.length_cons List.nil_append List.cons_append Nat.zero_add load_iptrA canon_ptrI canon_bool canon_tup canon_agg canon_ints' canon_ints0 rowLen_octs seen_octs canon_octs' seen_intss seen_octss rowLen_nodes seen_nodes canon_nodes' rowLen_nodes0 rowLen_nodes1 seen_list cells_int oneIn_int cells_bool oneIn_bool cells_str oneIn_str cells_list oneIn_list cells_func oneIn_func cells_nilfunc oneIn_nilfunc cells_iptr oneIn_iptr cells_iface oneIn_iface cells_nilIface oneIn_nilIface cells_own cells_ptr cells_anybool oneIn_anybool cells_agg oneIn_own0 oneIn_own1 oneIn_own3 oneIn_own4 oneIn_own5 cells_ints oneIn_ints cells_octs oneIn_octs cells_intss oneIn_intss cells_octss oneIn_octss cells_nodes oneIn_nodes ldB0 ldA0 adB0 stB0 ldB1 ldA1 adB1 stB1 ldB2 ldA2 adB2 stB2 ldB3 ldA3 adB3 stB3 ldB4 ldA4 adB4 stB4 ldB5 ldA5 adB5 stB5 List.getElem?_cons_zero List.getElem?_cons_succ beq_self_eq_true splice List.take_zero List.take_succ_cons List.drop_zero List.drop_succ_cons List.append_nil List.set_cons_zero List.set_cons_succ List.all_cons List.all_nil Bool.and_self and_self and_true true_and Nat.lt_irrefl Nat.zero_lt_one Nat.le_refl fillA evNil notA Bool.false_eq_true evMin_int evMax_int Option.map_none freezeP_all_nil freezeP_all_cons frzE_box frzE_arr frzE_dead foldA List.foldlM_cons List.foldlM_nil callW_f lcallW_f ansW_fn ansW_own lansW_fn lansW_own ansW_none lansW_none tab_cons tab_nil dI_int dB_bool dO_octs dO_ints dO_nil dOs_nil dN_nodeA dLf_agg dIn_agg dN_agg dNs_nodes dNs_nil isI_int isO_octs isO_nil isS_ints isS_nil isNs_nodes isNs_nil isLf_agg isIn_agg isN_agg leaf_eta inner_eta node_eta leaf_zero inner_zero node_zero dP_agg isP_agg patch_eta decide_eq_true_eq decide_eq_false_iff_not eq_self forall_const true_implies false_implies Bool.not_eq_true' Bool.not_eq_false' Bool.true_eq_false implies_true ne_eq ldI ldIA adI AV.tup.injEq AV.agg.injEq List.cons.injEq AV.int.injEq AV.bool.injEq nodes_inj octs_inj ints_inj nil_nodes nil_octs nil_ints canon_nilL decide_eq_decide two_ne lendA_fn lendA_own lendA_none llendA_fn llendA_none plain_bool plain_int isNs_own isS_own false_and and_false Q_nil Q_l Q_g Q_h qgrdW_b qgrdW_tup lightD_some heavyD_some readD_some fnD_some fnD_own fnD_none callL_f ownH_some callH_f litD_some litE_some Q_call Q_bslice H_call pendOk_nil pendOk_cons pastOk_nil pastOk_cons Q_mv Q_pick Q_bin Q_un Q_convI Q_mkfunc Q_extract Q_min Q_max Q_lenS Q_lenA Q_field Q_idxA Q_mkiface Q_tassert Q_alloc Q_box Q_store Q_mkslice Q_append Q_appendZ Q_copy Q_clear Q_build Q_load Q_nilck Q_isnil Q_convS Q_slice Q_faddr Q_iaddr Q_iaddrA Q_len H_alloc H_box H_bslice H_store H_mkslice H_append H_appendZ H_copy H_clear free_mv free_pick free_bin free_un free_convI free_mkfunc free_extract free_min free_max free_lenS free_lenA free_field free_idxA free_mkiface free_tassert free_build free_load free_nilck free_isnil free_convS free_slice free_faddr free_iaddr free_iaddrA free_len callW_y List.length_map List.length_set leaves_r evR_some evRess1 evRess2 evRess3 evRes_t evRes_c nz_kind nz_enc nz_cred nz_source nz_parent nz_ienc nz_hash nz_un true_or or_true bsl_node idbs_node idbs_int appN appI ixo_nodes canon_row canon_rowI canon_rowO not_false_eq_true not_true_eq_false ldE_a ldE_c adE_b stE_b onE_a onP_b bsl_zero idbs_zero appN_zero
attribute [local go_sem low] condW_b grdW_b lgrdW_b ldP adP stP onO onPt
attribute [local simp] envL_cons envL_nil idb_int idb_bool idb_ints idb_nil idb_own idb_ptr idb_octs idb_nodes idb_leafA idb_innerA idb_nodeA idb_agg idb_tup idb_iptr idb_fn entB_dead entB_box
/-- An element of a row of one's own is told in other words. -/
theorem WP.weakR {S : Seat} {r : Option Nat} {N b : Nat} {ic : IC} {Q : Exit → St → Prop} {env : Env} {H : List Entry} (id k : Nat) {sz ver : Nat} {xs : List AV} {x : AV} (y : AV) (hH : H[id]? = some (.arr sz ver xs)) (hk : xs[k]? = some x) (hw : Weaks x.cells y.cells)
    (h : WP S r N b ic Q ⟨env, H.set id (.arr sz ver (xs.set k y))⟩) : WP S r N b ic Q ⟨env, H⟩ := by
  refine WP.ghost ?_ h
  intro m I X w n0 a hs hfr
  refine ⟨m, I, .refl m, fun _ hb => hb, hs.retell (e1 := .arr sz ver (xs.set k y)) hH rfl ?_, hfr⟩
  obtain ⟨e, h1, h2, h3, h4, h5, h6, h7⟩ := hs.hok id _ hH
  refine ⟨e, h1, h2, h3, by rw [List.length_set]; exact h4, h5, fun z hz => ?_, ?_⟩
  · rcases List.mem_or_eq_of_mem_set hz with hz | rfl
    · exact h6 z hz
    · rw [← hw.get.1]; exact h6 x (List.mem_of_getElem? hk)
  · rcases h7 with h7 | ⟨h8, arr, T, h9, h10, h11⟩
    · exact .inl h7
    · refine .inr ⟨h8, arr, T, h9, h10, fun i z hz j u hu => ?_⟩
      by_cases hik : i = k
      · subst hik
        have hlt : i < xs.length := (List.getElem?_eq_some_iff.1 hk).1
        rw [List.getElem?_set_self hlt] at hz
        cases hz
        obtain ⟨u', hu', hw'⟩ := hw.get.2 j u hu
        exact hw' _ _ _ _ _ (h11 i x hk j u' hu')
      · rw [List.getElem?_set_ne (Ne.symm hik)] at hz
        exact h11 i z hz j u hu

def leafZ (l : Leaf) : AV := .agg [.int .i64 1, octs l.enc, octs l.cred, .int .i64 l.source, octs l.parent, .list true [], .list true [], .list true []]
theorem leafZ_weak (l : Leaf) : Weaks (leafZ l).cells (nodeA (leafN l)).cells :=
  .cons (.refl _) (.cons (.refl _) (.cons (.refl _) (.cons (.refl _) (.cons (.refl _) (.cons (.list true []) (.cons (.list true []) (.cons (.list true []) .nil)))))))
theorem st_leafZ {ver k : Nat} {G : List Entry} {e0 : Entry} {l : List Node} (f : Leaf) (hk : k < l.length) :
    evStore (e0 :: .arr 8 ver (l.map nodeA) :: G) 8 (.eptr 1 ver k 0) (leafZ f) = some (e0 :: .arr 8 ver ((l.map nodeA).set k (leafZ f)) :: G) := by
  have h1 : (leafZ f).cells.length = 8 := rfl
  have h2 : (leafZ f).cells.all (AV.oneIn (e0 :: .arr 8 ver (l.map nodeA) :: G)) = true := rfl
  have h3 : (l.map nodeA)[k]? = some (nodeA l[k]) := by simp [hk]
  have h4 : setPart (nodeA l[k]) 0 (leafZ f) = leafZ f := rfl
  have h5 : (nodeA l[k]).cells.length = 8 := rfl
  simp only [evStore, h1, h2, List.getElem?_cons_succ, List.getElem?_cons_zero, h3, h4, h5, true_and, and_self, if_true, show (0 : Nat) < 8 by decide, show 0 + 8 ≤ 8 by decide, List.set_cons_succ, List.set_cons_zero]
theorem laid_spec (t : List Node) (i : Int) (l : Leaf) (hl : l.Ok) (h : t.length ≤ 127) (h0 : 0 ≤ i) (h1 : 2 * i < t.length) : FunOwn seat 339 [nodes t, .int .i64 i, leafA l] 8 ((laidT t i l).map nodeA) := by
  have hc : t.length ≤ 4294967295 := by omega
  obtain ⟨k, hk⟩ : ∃ k : Nat, 2 * i = k := ⟨(2 * i).toNat, by omega⟩
  have w1 : IntKind.i64.wrap (k : Int) = k := wrap64 _ (by omega) (by omega)
  have hkt : k < t.length := by omega
  have hst := fun (e0 : Entry) => st_leafZ (ver := 0) (k := k) (G := []) (e0 := e0) (l := t) l hkt
  unfold leafZ at hst
  have e : laidT t i l = t.set k (leafN l) := by unfold laidT; rw [hk, Int.toNat_natCast]
  rw [e]
  refine FunOwn.of0W told339 (by simp [il339]) (by simp [leafA, Leaf.cells]) (encNode.xs_idb _) ?_
  simp only [il339, List.zipIdx_cons, List.zipIdx_nil, Nat.zero_add]
  refine WP.seqR [] fun K hK => ?_
  simp -implicitDefEqProofs only [leafA, innerA, nodeA, patchA, Leaf.cells, Inner.cells, Node.cells, decide_true, decide_false, go_sem, Nat.reduceEqDiff, reduceIte, Nat.reduceAdd, Nat.reduceLeDiff, Nat.reduceLT, Nat.reduceSub]
  refine hK _ ?_
  clear hK K
  refine WP.seqR [r129] fun K hK => ?_
  simp -implicitDefEqProofs only [leafA, innerA, nodeA, patchA, Leaf.cells, Inner.cells, Node.cells, r129_c, r129_ask, decide_true, decide_false, hc, go_sem, Nat.reduceEqDiff, reduceIte, Nat.reduceAdd, Nat.reduceLeDiff, Nat.reduceLT, Nat.reduceSub]
  refine hK _ ?_
  clear hK K
  refine WP.seqR [] fun K hK => ?_
  simp -implicitDefEqProofs only [leafA, innerA, nodeA, patchA, Leaf.cells, Inner.cells, Node.cells, decide_true, decide_false, w1, hk, ixo_nodes, hkt, hst, go_sem, Nat.reduceEqDiff, reduceIte, Nat.reduceAdd, Nat.reduceLeDiff, Nat.reduceLT, Nat.reduceSub]
  refine hK _ ?_
  clear hK K
  refine WP.weakR 1 k (nodeA (leafN l)) rfl (x := leafZ l) (by simp [leafZ, hkt]) (leafZ_weak l) ?_
  simp only [List.set_cons_succ, List.set_cons_zero, List.set_set]
  refine wpc_soundR [] ?_
  simp -implicitDefEqProofs only [leafA, innerA, nodeA, patchA, Leaf.cells, Inner.cells, Node.cells, decide_true, decide_false, go_sem, Nat.reduceEqDiff, reduceIte, Nat.reduceAdd, Nat.reduceLeDiff, Nat.reduceLT, Nat.reduceSub]
  exact .inl ⟨1, 0, by simp, by rw [List.map_set]; rfl⟩
noncomputable def r339 : Reg seat := .of told339 (ask3 (fun a0' a1' a2' => isNs a0' ∧ isI a1' ∧ isLf a2' ∧ (dLf a2').Ok ∧ (dNs a0').length ≤ 127 ∧ 0 ≤ (dI a1') ∧ 2 * (dI a1') < (dNs a0').length) fun a0' a1' a2' => .own 8 ((laidT (dNs a0') (dI a1') (dLf a2')).map nodeA)) (ask3_ok fun a0' a1' a2' h => SaidOk.own (FunOwn.weak (.cons (isNs.weak h.1) (.cons (isI.weak h.2.1) (.cons (isLf.weak h.2.2.1) .nil))) (laid_spec _ _ _ h.2.2.2.1 h.2.2.2.2.1 h.2.2.2.2.2.1 h.2.2.2.2.2.2)) (by first | exact encU8.xs_idb _ | exact encI64.xs_idb _ | exact encNode.xs_idb _))
theorem r339_c : r339.c = 339 := rfl
open Classical in
theorem r339_ask (a0' a1' a2' : AV) : r339.ask [a0', a1', a2'] = if isNs a0' ∧ isI a1' ∧ isLf a2' ∧ (dLf a2').Ok ∧ (dNs a0').length ≤ 127 ∧ 0 ≤ (dI a1') ∧ 2 * (dI a1') < (dNs a0').length then some (Said.own 8 ((laidT (dNs a0') (dI a1') (dLf a2')).map nodeA)) else none := by unfold r339 Reg.of ask3; exact ite_cl

theorem eknown_spec (t : List Node) (ht : Tree.Ok t) : Fun seat 337 [nodes t] (nodes (known t)) := by
  unfold known
  by_cases hs : Sane t
  · rw [if_pos hs]
    refine Fun.of0R [r101] told337 (by simp [il337]) (by simp [idb_patchA]) (by simp [idb_patchA]) 4 ?_
    simp -implicitDefEqProofs only [il337, List.zipIdx_cons, List.zipIdx_nil, leafA, innerA, nodeA, patchA, Leaf.cells, Inner.cells, Node.cells, r101_c, r101_ask, decide_true, decide_false, ht, hs, go_sem, Nat.reduceEqDiff, reduceIte, Nat.reduceAdd, Nat.reduceLeDiff, Nat.reduceLT, Nat.reduceSub]
  · rw [if_neg hs]
    refine Fun.of0R [r101] told337 (by simp [il337]) (by simp [idb_patchA]) (by simp [idb_patchA]) 4 ?_
    simp -implicitDefEqProofs only [il337, List.zipIdx_cons, List.zipIdx_nil, leafA, innerA, nodeA, patchA, Leaf.cells, Inner.cells, Node.cells, r101_c, r101_ask, decide_true, decide_false, ht, hs, go_sem, Nat.reduceEqDiff, reduceIte, Nat.reduceAdd, Nat.reduceLeDiff, Nat.reduceLT, Nat.reduceSub]
    try rfl
noncomputable def r337 : Reg seat := .of told337 (ask1 (fun a0' => isNs a0' ∧ Tree.Ok (dNs a0')) fun a0' => .fn (nodes (known (dNs a0')))) (ask1_ok fun a0' h => SaidOk.fn (Fun.weak (.cons (isNs.weak h.1) .nil) (eknown_spec _ h.2)))
theorem r337_c : r337.c = 337 := rfl
open Classical in
theorem r337_ask (a0' : AV) : r337.ask [a0'] = if isNs a0' ∧ Tree.Ok (dNs a0') then some (Said.fn (nodes (known (dNs a0')))) else none := by unfold r337 Reg.of ask1; exact ite_cl
theorem source_spec' (l : Leaf) (f : Int) (hl : l.Ok) : Fun seat 338 [leafA l, .int .i64 f] (.int .i64 (srcOf l f)) := by
  unfold srcOf
  by_cases hc : leafCheck l = 0
  · by_cases hs : l.source = f
    · rw [if_neg fun h => h.2 hs]
      refine Fun.of0R [r146] told338 (by simp [il338]) (by simp [idb_patchA]) (by simp [idb_patchA]) 4 ?_
      simp -implicitDefEqProofs only [il338, List.zipIdx_cons, List.zipIdx_nil, leafA, innerA, nodeA, patchA, Leaf.cells, Inner.cells, Node.cells, r146_c, r146_ask, decide_true, decide_false, hl, hc, eq_true hs, ne_eq, not_true_eq_false, go_sem, Nat.reduceEqDiff, reduceIte, Nat.reduceAdd, Nat.reduceLeDiff, Nat.reduceLT, Nat.reduceSub]
    · rw [if_pos ⟨hc, hs⟩]
      refine Fun.of0R [r146] told338 (by simp [il338]) (by simp [idb_patchA]) (by simp [idb_patchA]) 4 ?_
      simp -implicitDefEqProofs only [il338, List.zipIdx_cons, List.zipIdx_nil, leafA, innerA, nodeA, patchA, Leaf.cells, Inner.cells, Node.cells, r146_c, r146_ask, decide_true, decide_false, hl, eq_true hc, hs, ne_eq, not_false_eq_true, go_sem, Nat.reduceEqDiff, reduceIte, Nat.reduceAdd, Nat.reduceLeDiff, Nat.reduceLT, Nat.reduceSub]
  · rw [if_neg fun h => hc h.1]
    refine Fun.of0R [r146] told338 (by simp [il338]) (by simp [idb_patchA]) (by simp [idb_patchA]) 4 ?_
    simp -implicitDefEqProofs only [il338, List.zipIdx_cons, List.zipIdx_nil, leafA, innerA, nodeA, patchA, Leaf.cells, Inner.cells, Node.cells, r146_c, r146_ask, decide_true, decide_false, hl, hc, go_sem, Nat.reduceEqDiff, reduceIte, Nat.reduceAdd, Nat.reduceLeDiff, Nat.reduceLT, Nat.reduceSub]
noncomputable def r338 : Reg seat := .of told338 (ask2 (fun a0' a1' => isLf a0' ∧ isI a1' ∧ (dLf a0').Ok) fun a0' a1' => .fn (.int .i64 (srcOf (dLf a0') (dI a1')))) (ask2_ok fun a0' a1' h => SaidOk.fn (Fun.weak (.cons (isLf.weak h.1) (.cons (isI.weak h.2.1) .nil)) (source_spec' _ _ h.2.2)))
theorem r338_c : r338.c = 338 := rfl
open Classical in
theorem r338_ask (a0' a1' : AV) : r338.ask [a0', a1'] = if isLf a0' ∧ isI a1' ∧ (dLf a0').Ok then some (Said.fn (.int .i64 (srcOf (dLf a0') (dI a1')))) else none := by unfold r338 Reg.of ask2; exact ite_cl
theorem remDoes_spec (t : List Node) (i : Int) (ht : Tree.Ok t) : Fun seat 340 [nodes t, .iptr [.int .i64 i] 0] (.tup [nodes (trimT (clearT t i).1), .int .i64 (clearT t i).2]) := by
  have co := clear_ok ht i
  refine Fun.of0R [r254, r108] told340 (by simp [il340]) (by simp [idb_patchA]) (by simp [idb_patchA]) 4 ?_
  simp -implicitDefEqProofs only [il340, List.zipIdx_cons, List.zipIdx_nil, leafA, innerA, nodeA, patchA, Leaf.cells, Inner.cells, Node.cells, r254_c, r254_ask, r108_c, r108_ask, decide_true, decide_false, ht, co, go_sem, Nat.reduceEqDiff, reduceIte, Nat.reduceAdd, Nat.reduceLeDiff, Nat.reduceLT, Nat.reduceSub]
theorem chgDoes_spec (t : List Node) (i : Int) (ht : Tree.Ok t) : Fun seat 342 [nodes t, .iptr [.int .i64 i] 0] (.tup [nodes (clearT t i).1, .int .i64 (clearT t i).2]) := by
  refine Fun.of0R [r254] told342 (by simp [il342]) (by simp [idb_patchA]) (by simp [idb_patchA]) 4 ?_
  simp -implicitDefEqProofs only [il342, List.zipIdx_cons, List.zipIdx_nil, leafA, innerA, nodeA, patchA, Leaf.cells, Inner.cells, Node.cells, r254_c, r254_ask, decide_true, decide_false, ht, go_sem, Nat.reduceEqDiff, reduceIte, Nat.reduceAdd, Nat.reduceLeDiff, Nat.reduceLT, Nat.reduceSub]

/-- What is done to a leaf that is there. -/
def onT (f : Int) (d : List Node → List Node × Int) (t : List Node) (i : Int) (l : Leaf) : List Node × Int :=
  if haveT t i ≠ 0 then ([], haveT t i) else if f = 0 then d (known t) else if srcOf l f ≠ 0 then ([], srcOf l f) else if (d (known t)).2 ≠ 0 then ([], (d (known t)).2) else (laidT (d (known t)).1 i l, 0)

theorem have_cases {t : List Node} {i : Int} (h : haveT t i = 0) : ∃ k : Nat, 2 * i = k ∧ k < (known t).length ∧ ¬ i < 0 ∧ ¬ i ≥ leaves_ t ∧ (nodeAt (known t) k).kind ≠ 0 := by
  unfold haveT at h
  split at h
  · cases h
  · split at h
    · cases h
    · rename_i h1 h2
      have hodd : (known t).length = 0 ∨ (known t).length % 2 = 1 := by
        rcases (known_sane t).2 with h | h
        · exact .inl h
        · have := h.odd; omega
      unfold leaves_ at h1
      refine ⟨(2 * i).toNat, by omega, by omega, by omega, ?_, h2⟩
      unfold leaves_; omega
set_option maxHeartbeats 1000000 in
theorem on_spec {c : Nat} {fn : IFn} (hc : trFn seat c = some fn) (cap : List AV) (hcap : ∀ x ∈ cap, Idb 0 x) (d : List Node → List Node × Int) (f : Int) (t : List Node) (i : Int) (l : Leaf) (ht : Tree.Ok t) (hl : l.Ok)
    (hd : haveT t i = 0 → (f = 0 ∨ srcOf l f = 0) → Fun seat c ([nodes (known t)] ++ cap) (.tup [nodes (d (known t)).1, .int .i64 (d (known t)).2]))
    (hlen : haveT t i = 0 → f ≠ 0 → (d (known t)).2 = 0 → (d (known t)).1.length = (known t).length) :
    Fun seat 341 [.agg [.int .i64 f, .func (.f c) [] cap], nodes t, .int .i64 i, leafA l] (.tup [nodes (onT f d t i l).1, .int .i64 (onT f d t i l).2]) := by
  have ok := known_ok ht
  have hkl := known_len t
  have lk : leaves_ (known t) = leaves_ t := by unfold leaves_; rw [known_known]
  have hidb : ∀ x ∈ [AV.agg [.int .i64 f, .func (.f c) [] cap], nodes t, .int .i64 i, leafA l], Idb 0 x := by simp [idb_patchA]; exact hcap
  unfold onT
  by_cases h0 : i < 0
  · have e : haveT t i = 3 := if_pos (.inl h0)
    rw [e, if_pos (by decide)]
    refine Fun.of0R [r337] told341 (by simp [il341]) hidb (by simp ) 4 ?_
    simp only [il341, List.zipIdx_cons, List.zipIdx_nil]
    simp -implicitDefEqProofs only [leafA, innerA, nodeA, patchA, Leaf.cells, Inner.cells, Node.cells, r337_c, r337_ask, decide_true, decide_false, ht, h0, go_sem, Nat.reduceEqDiff, reduceIte, Nat.reduceAdd, Nat.reduceLeDiff, Nat.reduceLT, Nat.reduceSub]
    try exact ⟨rfl, rfl⟩
  by_cases h1 : i ≥ leaves_ t
  · have e : haveT t i = 3 := if_pos (.inr h1)
    rw [e, if_pos (by decide)]
    refine Fun.of0R [r337, r103] told341 (by simp [il341]) hidb (by simp ) 4 ?_
    simp only [il341, List.zipIdx_cons, List.zipIdx_nil]
    simp -implicitDefEqProofs only [leafA, innerA, nodeA, patchA, Leaf.cells, Inner.cells, Node.cells, r337_c, r337_ask, r103_c, r103_ask, decide_true, decide_false, ht, ok, lk, h0, h1, go_sem, Nat.reduceEqDiff, reduceIte, Nat.reduceAdd, Nat.reduceLeDiff, Nat.reduceLT, Nat.reduceSub]
    try exact ⟨rfl, rfl⟩
  obtain ⟨k, hk⟩ : ∃ k : Nat, 2 * i = k := ⟨(2 * i).toNat, by omega⟩
  have hodd : (known t).length = 0 ∨ (known t).length % 2 = 1 := by
    rcases (known_sane t).2 with h | h
    · exact .inl h
    · have := h.odd; omega
  have hkt : k < (known t).length := by unfold leaves_ at h1; omega
  have hn := nodeAt_lt hkt
  have w1 : IntKind.i64.wrap (k : Int) = k := wrap64 _ (by omega) (by omega)
  have hv : haveT t i = if (known t)[k].kind = 0 then 9 else 0 := by
    unfold haveT
    rw [if_neg (by omega), hk, Int.toNat_natCast, hn]
  by_cases hz : (known t)[k].kind = 0
  · rw [if_pos hz] at hv
    rw [hv, if_pos (by decide)]
    refine Fun.of0R [r337, r103] told341 (by simp [il341]) hidb (by simp ) 4 ?_
    simp only [il341, List.zipIdx_cons, List.zipIdx_nil]
    simp -implicitDefEqProofs only [leafA, innerA, nodeA, patchA, Leaf.cells, Inner.cells, Node.cells, r337_c, r337_ask, r103_c, r103_ask, decide_true, decide_false, ht, ok, lk, h0, h1, w1, hk, fun H => ix_nodes H (known t) k hkt, eq_true hz, go_sem, Nat.reduceEqDiff, reduceIte, Nat.reduceAdd, Nat.reduceLeDiff, Nat.reduceLT, Nat.reduceSub]
    try exact ⟨rfl, rfl⟩
  rw [if_neg hz] at hv
  rw [hv, if_neg (by decide)]
  refine Fun.of0W told341 (by simp [il341]) hidb (by simp ) 4 ?_
  simp only [il341, List.zipIdx_cons, List.zipIdx_nil]
  refine WP.seqR [] fun K hK => ?_
  simp -implicitDefEqProofs only [leafA, innerA, nodeA, patchA, Leaf.cells, Inner.cells, Node.cells, decide_true, decide_false, go_sem, Nat.reduceEqDiff, reduceIte, Nat.reduceAdd, Nat.reduceLeDiff, Nat.reduceLT, Nat.reduceSub]
  refine hK _ ?_
  clear hK K
  refine WP.seqR [r337] fun K hK => ?_
  simp -implicitDefEqProofs only [leafA, innerA, nodeA, patchA, Leaf.cells, Inner.cells, Node.cells, r337_c, r337_ask, decide_true, decide_false, ht, go_sem, Nat.reduceEqDiff, reduceIte, Nat.reduceAdd, Nat.reduceLeDiff, Nat.reduceLT, Nat.reduceSub]
  refine hK _ ?_
  clear hK K
  refine WP.seqR [r103] fun K hK => ?_
  simp -implicitDefEqProofs only [leafA, innerA, nodeA, patchA, Leaf.cells, Inner.cells, Node.cells, r103_c, r103_ask, decide_true, decide_false, ok, lk, h0, h1, w1, hk, fun H => ix_nodes H (known t) k hkt, hz, go_sem, Nat.reduceEqDiff, reduceIte, Nat.reduceAdd, Nat.reduceLeDiff, Nat.reduceLT, Nat.reduceSub]
  refine hK _ ?_
  clear hK K
  by_cases hf : f = 0
  · have hd := hd hv (.inl hf)
    rw [if_pos hf]
    refine WP.seqR [] fun K hK => ?_
    simp -implicitDefEqProofs only [leafA, innerA, nodeA, patchA, Leaf.cells, Inner.cells, Node.cells, decide_true, decide_false, eq_true hf, go_sem, Nat.reduceEqDiff, reduceIte, Nat.reduceAdd, Nat.reduceLeDiff, Nat.reduceLT, Nat.reduceSub]
    refine Callee.c (first := []) (captured := cap) hc hd ?_
    simp -implicitDefEqProofs only [leafA, innerA, nodeA, patchA, Leaf.cells, Inner.cells, Node.cells, decide_true, decide_false, go_sem, Nat.reduceEqDiff, reduceIte, Nat.reduceAdd, Nat.reduceLeDiff, Nat.reduceLT, Nat.reduceSub]
    try exact ⟨rfl, rfl⟩
  rw [if_neg hf]
  refine WP.seqR [] fun K hK => ?_
  simp -implicitDefEqProofs only [leafA, innerA, nodeA, patchA, Leaf.cells, Inner.cells, Node.cells, decide_true, decide_false, hf, go_sem, Nat.reduceEqDiff, reduceIte, Nat.reduceAdd, Nat.reduceLeDiff, Nat.reduceLT, Nat.reduceSub]
  refine hK _ ?_
  clear hK K
  by_cases hs : srcOf l f = 0
  rotate_left
  · rw [if_pos hs]
    refine WP.seqR [r338] fun K hK => ?_
    simp -implicitDefEqProofs only [leafA, innerA, nodeA, patchA, Leaf.cells, Inner.cells, Node.cells, r338_c, r338_ask, decide_true, decide_false, hl, hs, ne_eq, not_false_eq_true, go_sem, Nat.reduceEqDiff, reduceIte, Nat.reduceAdd, Nat.reduceLeDiff, Nat.reduceLT, Nat.reduceSub]
    try exact ⟨rfl, rfl⟩
  rw [if_neg (not_not_intro hs)]
  refine WP.seqR [r338] fun K hK => ?_
  simp -implicitDefEqProofs only [leafA, innerA, nodeA, patchA, Leaf.cells, Inner.cells, Node.cells, r338_c, r338_ask, decide_true, decide_false, hl, eq_true hs, ne_eq, not_true_eq_false, go_sem, Nat.reduceEqDiff, reduceIte, Nat.reduceAdd, Nat.reduceLeDiff, Nat.reduceLT, Nat.reduceSub]
  refine hK _ ?_
  clear hK K
  have hd := hd hv (.inr hs)
  have hlen := hlen hv hf
  rcases hde : d (known t) with ⟨a, e⟩
  rw [hde] at hd hlen
  simp only at hd hlen ⊢
  by_cases he : e = 0
  rotate_left
  · rw [if_pos he]
    refine WP.seqR [] fun K hK => ?_
    simp -implicitDefEqProofs only [leafA, innerA, nodeA, patchA, Leaf.cells, Inner.cells, Node.cells, decide_true, decide_false, go_sem, Nat.reduceEqDiff, reduceIte, Nat.reduceAdd, Nat.reduceLeDiff, Nat.reduceLT, Nat.reduceSub]
    refine Callee.c (first := []) (captured := cap) hc hd ?_
    simp -implicitDefEqProofs only [leafA, innerA, nodeA, patchA, Leaf.cells, Inner.cells, Node.cells, decide_true, decide_false, go_sem, Nat.reduceEqDiff, reduceIte, Nat.reduceAdd, Nat.reduceLeDiff, Nat.reduceLT, Nat.reduceSub]
    refine hK _ ?_
    clear hK K
    refine wpc_soundR [] ?_
    simp -implicitDefEqProofs only [leafA, innerA, nodeA, patchA, Leaf.cells, Inner.cells, Node.cells, decide_true, decide_false, he, ne_eq, not_false_eq_true, go_sem, Nat.reduceEqDiff, reduceIte, Nat.reduceAdd, Nat.reduceLeDiff, Nat.reduceLT, Nat.reduceSub]
    try exact ⟨rfl, rfl⟩
  · rw [if_neg (not_not_intro he)]
    have hlen := hlen he
    have l1 : a.length ≤ 127 := by omega
    have l0 : 0 ≤ i := by omega
    have l2 : ((k : Nat) : Int) < a.length := by omega
    refine WP.seqR [] fun K hK => ?_
    simp -implicitDefEqProofs only [leafA, innerA, nodeA, patchA, Leaf.cells, Inner.cells, Node.cells, decide_true, decide_false, go_sem, Nat.reduceEqDiff, reduceIte, Nat.reduceAdd, Nat.reduceLeDiff, Nat.reduceLT, Nat.reduceSub]
    refine Callee.c (first := []) (captured := cap) hc hd ?_
    simp -implicitDefEqProofs only [leafA, innerA, nodeA, patchA, Leaf.cells, Inner.cells, Node.cells, decide_true, decide_false, eq_true he, ne_eq, not_true_eq_false, go_sem, Nat.reduceEqDiff, reduceIte, Nat.reduceAdd, Nat.reduceLeDiff, Nat.reduceLT, Nat.reduceSub]
    refine hK _ ?_
    clear hK K
    refine wpc_soundR [r339] ?_
    simp -implicitDefEqProofs only [leafA, innerA, nodeA, patchA, Leaf.cells, Inner.cells, Node.cells, r339_c, r339_ask, decide_true, decide_false, eq_true he, ne_eq, not_true_eq_false, hl, l1, l0, hk, l2, go_sem, Nat.reduceEqDiff, reduceIte, Nat.reduceAdd, Nat.reduceLeDiff, Nat.reduceLT, Nat.reduceSub]
end Go.Proofs.YtihhinbjhiankaaGreatDoor.Al
namespace Go.Proofs.YtihhinbjhiankaaGreatDoor.Al
open Go
attribute [local go_sem] W_mv W_pick W_alloc W_box W_build W_bslice W_load W_store W_bin W_isnil W_un W_convI W_convS W_mkfunc W_mkslice W_slice W_faddr W_field W_iaddr W_extract W_len W_min W_append W_appendZ W_copy W_invoke thenQ_normal thenQ_exit thenQ_goto thenQ_ret blockQ_normal blockQ_ret blockQ_goto blockQ_exit wpc_skip wpc_region wpc_draw wpc_seq wpc_cond wpc_block wpc_exit wpc_goto wpc_label wpc_ret wpc_loop wpc_range wpc_scope condW_true condW_false condW_dec condW_any W_nil W_call resW_some evalOp Opd.ev updo_envL updo_none setL_cons setL_nil envL_cons Option.map_some Option.bind_some evBin evInt List.map_cons List.map_nil Option.pure_def Option.bind_eq_bind W_grd' grdW_tt grdW_ff grdW_tf grdW_ft grdW_tup grdW_dt grdW_df lgrdW_tup L_mv L_load L_bin L_un L_faddr L_iaddr L_nil L_call lresW_some upd_envL evUn beq_dec bne_dec leaves_ret1 leaves_ret0 leaves_end0 rowLen_ints load_iptr0 not_dec heap_get0 heap_get1 heap_set0 heap_set1 heap_len1 heap_app bslice1_int seen_ints seen_one0 Nat.sub_zero Bool.not_true Bool.not_false List.length_nil List.length_cons List.nil_append List.cons_append Nat.zero_add load_iptrA canon_ptrI canon_bool canon_tup canon_agg canon_ints' canon_ints0 rowLen_octs seen_octs canon_octs' seen_intss seen_octss rowLen_nodes seen_nodes canon_nodes' rowLen_nodes0 rowLen_nodes1 seen_list cells_int oneIn_int cells_bool oneIn_bool cells_str oneIn_str cells_list oneIn_list cells_func oneIn_func cells_nilfunc oneIn_nilfunc cells_iptr oneIn_iptr cells_iface oneIn_iface cells_nilIface oneIn_nilIface cells_own cells_ptr cells_anybool oneIn_anybool cells_agg oneIn_own0 oneIn_own1 oneIn_own3 oneIn_own4 oneIn_own5 cells_ints oneIn_ints cells_octs oneIn_octs cells_intss oneIn_intss cells_octss oneIn_octss cells_nodes oneIn_nodes ldB0 ldA0 adB0 stB0 ldB1 ldA1 adB1 stB1 ldB2 ldA2 adB2 stB2 ldB3 ldA3 adB3 stB3 ldB4 ldA4 adB4 stB4 ldB5 ldA5 adB5 stB5 List.getElem?_cons_zero List.getElem?_cons_succ beq_self_eq_true splice List.take_zero List.take_succ_cons List.drop_zero List.drop_succ_cons List.append_nil List.set_cons_zero List.set_cons_succ List.all_cons List.all_nil Bool.and_self and_self and_true true_and Nat.lt_irrefl Nat.zero_lt_one Nat.le_refl fillA evNil notA Bool.false_eq_true evMin_int evMax_int Option.map_none freezeP_all_nil freezeP_all_cons frzE_box frzE_arr frzE_dead foldA List.foldlM_cons List.foldlM_nil callW_f lcallW_f ansW_fn ansW_own lansW_fn lansW_own ansW_none lansW_none tab_cons tab_nil dI_int dB_bool dO_octs dO_ints dO_nil dOs_nil dN_nodeA dLf_agg dIn_agg dN_agg dNs_nodes dNs_nil isI_int isO_octs isO_nil isS_ints isS_nil isNs_nodes isNs_nil isLf_agg isIn_agg isN_agg leaf_eta inner_eta node_eta leaf_zero inner_zero node_zero dP_agg isP_agg patch_eta decide_eq_true_eq decide_eq_false_iff_not eq_self forall_const true_implies false_implies Bool.not_eq_true' Bool.not_eq_false' Bool.true_eq_false implies_true ne_eq ldI ldIA adI AV.tup.injEq AV.agg.injEq List.cons.injEq AV.int.injEq AV.bool.injEq nodes_inj octs_inj ints_inj nil_nodes nil_octs nil_ints canon_nilL decide_eq_decide two_ne lendA_fn lendA_own lendA_none llendA_fn llendA_none plain_bool plain_int isNs_own isS_own false_and and_false Q_nil Q_l Q_g Q_h qgrdW_b qgrdW_tup lightD_some heavyD_some readD_some fnD_some fnD_own fnD_none callL_f ownH_some callH_f litD_some litE_some Q_call Q_bslice H_call pendOk_nil pendOk_cons pastOk_nil pastOk_cons Q_mv Q_pick Q_bin Q_un Q_convI Q_mkfunc Q_extract Q_min Q_max Q_lenS Q_lenA Q_field Q_idxA Q_mkiface Q_tassert Q_alloc Q_box Q_store Q_mkslice Q_append Q_appendZ Q_copy Q_clear Q_build Q_load Q_nilck Q_isnil Q_convS Q_slice Q_faddr Q_iaddr Q_iaddrA Q_len H_alloc H_box H_bslice H_store H_mkslice H_append H_appendZ H_copy H_clear free_mv free_pick free_bin free_un free_convI free_mkfunc free_extract free_min free_max free_lenS free_lenA free_field free_idxA free_mkiface free_tassert free_build free_load free_nilck free_isnil free_convS free_slice free_faddr free_iaddr free_iaddrA free_len callW_y List.length_map List.length_set leaves_r evR_some evRess1 evRess2 evRess3 evRes_t evRes_c nz_kind nz_enc nz_cred nz_source nz_parent nz_ienc nz_hash nz_un true_or or_true bsl_node idbs_node idbs_int appN appI ixo_nodes canon_row canon_rowI canon_rowO not_false_eq_true not_true_eq_false ldE_a ldE_c adE_b stE_b onE_a onP_b bsl_zero idbs_zero appN_zero
attribute [local go_sem low] condW_b grdW_b lgrdW_b ldP adP stP onO onPt
attribute [local simp] envL_cons envL_nil idb_int idb_bool idb_ints idb_nil idb_own idb_ptr idb_octs idb_nodes idb_leafA idb_innerA idb_nodeA idb_agg idb_tup idb_iptr idb_fn entB_dead entB_box
def kOct (k : Int) : Int := IntKind.u8.wrap (IntKind.i64.wrap (Go.bits .and .i64 k 127 + 1))
theorem kOct_bd (k : Int) : 0 ≤ kOct k ∧ kOct k ≤ 255 := by
  have : kOct k = (IntKind.i64.wrap (Go.bits .and .i64 k 127 + 1)) % 256 := wrapU8 _
  omega
def leafK (k f : Int) : Leaf := ⟨[kOct k], [], f, []⟩
theorem leafK_ok (k : Int) {f : Int} (hf : In64 f) : (leafK k f).Ok := ⟨⟨by simp [leafK, Small], fun x hx => by
  simp only [leafK, List.mem_singleton] at hx; subst hx
  have := kOct_bd k
  exact ⟨this.1, this.2⟩⟩, .nil, .nil, hf⟩
theorem leafK_spec (k f : Int) : Fun seat 335 [.int .i64 k, .int .i64 f] (leafA (leafK k f)) := by
  unfold leafK
  refine Fun.of0R [] told335 (by simp [il335]) (by simp [idb_patchA]) (by simp [idb_patchA]) 4 ?_
  simp -implicitDefEqProofs only [il335, List.zipIdx_cons, List.zipIdx_nil, leafA, innerA, nodeA, patchA, Leaf.cells, Inner.cells, Node.cells, decide_true, decide_false, go_sem, Nat.reduceEqDiff, reduceIte, Nat.reduceAdd, Nat.reduceLeDiff, Nat.reduceLT, Nat.reduceSub]
  exact canon_rowO (id := 1) (ver := 0) (k := 2) (l := [kOct k]) rfl
noncomputable def r335 : Reg seat := .of told335 (ask2 (fun a0' a1' => isI a0' ∧ isI a1') fun a0' a1' => .fn (leafA (leafK (dI a0') (dI a1')))) (ask2_ok fun a0' a1' h => SaidOk.fn (Fun.weak (.cons (isI.weak h.1) (.cons (isI.weak h.2) .nil)) (leafK_spec _ _)))
theorem r335_c : r335.c = 335 := rfl
open Classical in
theorem r335_ask (a0' a1' : AV) : r335.ask [a0', a1'] = if isI a0' ∧ isI a1' then some (Said.fn (leafA (leafK (dI a0') (dI a1')))) else none := by unfold r335 Reg.of ask2; exact ite_cl

theorem onT_rem (t : List Node) (i : Int) (l : Leaf) : onT 0 (fun a => (trimT (clearT a i).1, (clearT a i).2)) t i l = remT t i := by
  unfold onT remT
  by_cases h : haveT t i = 0
  · obtain ⟨k, hk, hkl, h0, h1, _⟩ := have_cases h
    have e : clearT (known t) i = clearT t i := by unfold clearT; rw [known_known]; unfold leaves_; rw [known_known]
    have e2 : (clearT t i).2 = 0 := by unfold clearT; rw [if_neg (by omega)]
    simp only [h, e, e2, ne_eq, not_true_eq_false, if_false, if_true]
  · simp only [h, ne_eq, not_false_eq_true, if_true]
theorem onT_chg (t : List Node) (i : Int) (l : Leaf) : onT 2 (fun a => ((clearT a i).1, (clearT a i).2)) t i l = chgT t i l := by
  unfold onT chgT
  by_cases h : haveT t i = 0
  · obtain ⟨k, hk, hkl, h0, h1, _⟩ := have_cases h
    have e : clearT (known t) i = clearT t i := by unfold clearT; rw [known_known]; unfold leaves_; rw [known_known]
    have e2 : (clearT t i).2 = 0 := by unfold clearT; rw [if_neg (by omega)]
    simp only [h, e, e2, ne_eq, not_true_eq_false, if_false]
    rfl
  · simp only [h, ne_eq, not_false_eq_true, if_true]
theorem clear_len {t : List Node} {i : Int} (h : (clearT t i).2 = 0) : (clearT t i).1.length = (known t).length := by
  unfold clearT at h ⊢
  split
  · rename_i hn; rw [if_pos hn] at h; cases h
  · exact zeroAt_len _ _
theorem leafZero_weak : Weaks [AV.agg [.list true [], .list true [], .int .i64 0, .list true []]] [leafA .zero] :=
  .cons (Weak.agg (.cons (.list true []) (.cons (.list true []) (.cons (.refl _) (.cons (.list true []) .nil))))) .nil

theorem rem_spec (t : List Node) (i : Int) (ht : Tree.Ok t) : Fun seat 323 [nodes t, .int .i64 i] (.tup [nodes (remT t i).1, .int .i64 (remT t i).2]) := by
  have ok := known_ok ht
  have h := on_spec told340 [.iptr [.int .i64 i] 0] (by simp ) (fun a => (trimT (clearT a i).1, (clearT a i).2)) 0 t i .zero ht .zero (fun _ _ => remDoes_spec _ i ok) (fun _ h => absurd rfl h)
  rw [onT_rem] at h
  have h' := Fun.weak (args := [AV.agg [.int .i64 0, .func (.f 340) [] [.iptr [.int .i64 i] 0]], nodes t, .int .i64 i, .agg [.list true [], .list true [], .int .i64 0, .list true []]]) (.cons (.refl _) (.cons (.refl _) (.cons (.refl _) leafZero_weak))) h
  refine Fun.of0W told323 (by simp [il323]) (by simp ) (by simp ) 4 ?_
  simp only [il323, List.zipIdx_cons, List.zipIdx_nil]
  refine WP.seqR [] fun K hK => ?_
  simp -implicitDefEqProofs only [leafA, innerA, nodeA, patchA, Leaf.cells, Inner.cells, Node.cells, decide_true, decide_false, go_sem, Nat.reduceEqDiff, reduceIte, Nat.reduceAdd, Nat.reduceLeDiff, Nat.reduceLT, Nat.reduceSub]
  refine hK _ ?_
  clear hK K
  refine WP.sealB 3 0 rfl rfl ?_
  refine wpc_soundR [] ?_
  simp -implicitDefEqProofs only [leafA, innerA, nodeA, patchA, Leaf.cells, Inner.cells, Node.cells, decide_true, decide_false, go_sem, Nat.reduceEqDiff, reduceIte, Nat.reduceAdd, Nat.reduceLeDiff, Nat.reduceLT, Nat.reduceSub]
  refine Callee.f told341 h' ?_
  simp -implicitDefEqProofs only [leafA, innerA, nodeA, patchA, Leaf.cells, Inner.cells, Node.cells, decide_true, decide_false, go_sem, Nat.reduceEqDiff, reduceIte, Nat.reduceAdd, Nat.reduceLeDiff, Nat.reduceLT, Nat.reduceSub]
  try exact ⟨rfl, rfl⟩
noncomputable def r323 : Reg seat := .of told323 (ask2 (fun a0' a1' => isNs a0' ∧ isI a1' ∧ Tree.Ok (dNs a0')) fun a0' a1' => .fn (.tup [nodes (remT (dNs a0') (dI a1')).1, .int .i64 (remT (dNs a0') (dI a1')).2])) (ask2_ok fun a0' a1' h => SaidOk.fn (Fun.weak (.cons (isNs.weak h.1) (.cons (isI.weak h.2.1) .nil)) (rem_spec _ _ h.2.2)))
theorem r323_c : r323.c = 323 := rfl
open Classical in
theorem r323_ask (a0' a1' : AV) : r323.ask [a0', a1'] = if isNs a0' ∧ isI a1' ∧ Tree.Ok (dNs a0') then some (Said.fn (.tup [nodes (remT (dNs a0') (dI a1')).1, .int .i64 (remT (dNs a0') (dI a1')).2])) else none := by unfold r323 Reg.of ask2; exact ite_cl
theorem chg_spec (t : List Node) (i : Int) (l : Leaf) (ht : Tree.Ok t) (hl : l.Ok) : Fun seat 324 [nodes t, .int .i64 i, leafA l] (.tup [nodes (chgT t i l).1, .int .i64 (chgT t i l).2]) := by
  have ok := known_ok ht
  have h := on_spec told342 [.iptr [.int .i64 i] 0] (by simp ) (fun a => ((clearT a i).1, (clearT a i).2)) 2 t i l ht hl (fun _ _ => chgDoes_spec _ i ok) (fun _ _ h => by have := clear_len h; rwa [known_known] at this)
  rw [onT_chg] at h
  refine Fun.of0W told324 (by simp [il324]) (by simp ) (by simp ) 4 ?_
  simp only [il324, List.zipIdx_cons, List.zipIdx_nil]
  refine WP.seqR [] fun K hK => ?_
  simp -implicitDefEqProofs only [leafA, innerA, nodeA, patchA, Leaf.cells, Inner.cells, Node.cells, decide_true, decide_false, go_sem, Nat.reduceEqDiff, reduceIte, Nat.reduceAdd, Nat.reduceLeDiff, Nat.reduceLT, Nat.reduceSub]
  refine hK _ ?_
  clear hK K
  refine WP.sealB 4 0 rfl rfl ?_
  refine wpc_soundR [] ?_
  simp -implicitDefEqProofs only [leafA, innerA, nodeA, patchA, Leaf.cells, Inner.cells, Node.cells, decide_true, decide_false, go_sem, Nat.reduceEqDiff, reduceIte, Nat.reduceAdd, Nat.reduceLeDiff, Nat.reduceLT, Nat.reduceSub]
  refine Callee.f told341 h ?_
  simp -implicitDefEqProofs only [leafA, innerA, nodeA, patchA, Leaf.cells, Inner.cells, Node.cells, decide_true, decide_false, go_sem, Nat.reduceEqDiff, reduceIte, Nat.reduceAdd, Nat.reduceLeDiff, Nat.reduceLT, Nat.reduceSub]
  try exact ⟨rfl, rfl⟩
noncomputable def r324 : Reg seat := .of told324 (ask3 (fun a0' a1' a2' => isNs a0' ∧ isI a1' ∧ isLf a2' ∧ Tree.Ok (dNs a0') ∧ (dLf a2').Ok) fun a0' a1' a2' => .fn (.tup [nodes (chgT (dNs a0') (dI a1') (dLf a2')).1, .int .i64 (chgT (dNs a0') (dI a1') (dLf a2')).2])) (ask3_ok fun a0' a1' a2' h => SaidOk.fn (Fun.weak (.cons (isNs.weak h.1) (.cons (isI.weak h.2.1) (.cons (isLf.weak h.2.2.1) .nil))) (chg_spec _ _ _ h.2.2.2.1 h.2.2.2.2)))
theorem r324_c : r324.c = 324 := rfl
open Classical in
theorem r324_ask (a0' a1' a2' : AV) : r324.ask [a0', a1', a2'] = if isNs a0' ∧ isI a1' ∧ isLf a2' ∧ Tree.Ok (dNs a0') ∧ (dLf a2').Ok then some (Said.fn (.tup [nodes (chgT (dNs a0') (dI a1') (dLf a2')).1, .int .i64 (chgT (dNs a0') (dI a1') (dLf a2')).2])) else none := by unfold r324 Reg.of ask3; exact ite_cl
end Go.Proofs.YtihhinbjhiankaaGreatDoor.Al
namespace Go.Proofs.YtihhinbjhiankaaGreatDoor.Al
open Go
attribute [local go_sem] W_mv W_pick W_alloc W_box W_build W_bslice W_load W_store W_bin W_isnil W_un W_convI W_convS W_mkfunc W_mkslice W_slice W_faddr W_field W_iaddr W_extract W_len W_min W_append W_appendZ W_copy W_invoke thenQ_normal thenQ_exit thenQ_goto thenQ_ret blockQ_normal blockQ_ret blockQ_goto blockQ_exit wpc_skip wpc_region wpc_draw wpc_seq wpc_cond wpc_block wpc_exit wpc_goto wpc_label wpc_ret wpc_loop wpc_range wpc_scope condW_true condW_false condW_dec condW_any W_nil W_call resW_some evalOp Opd.ev updo_envL updo_none setL_cons setL_nil envL_cons Option.map_some Option.bind_some evBin evInt List.map_cons List.map_nil Option.pure_def Option.bind_eq_bind W_grd' grdW_tt grdW_ff grdW_tf grdW_ft grdW_tup grdW_dt grdW_df lgrdW_tup L_mv L_load L_bin L_un L_faddr L_iaddr L_nil L_call lresW_some upd_envL evUn beq_dec bne_dec leaves_ret1 leaves_ret0 leaves_end0 rowLen_ints load_iptr0 not_dec heap_get0 heap_get1 heap_set0 heap_set1 heap_len1 heap_app bslice1_int seen_ints seen_one0 Nat.sub_zero Bool.not_true Bool.not_false List.length_nil List.length_cons List.nil_append List.cons_append Nat.zero_add load_iptrA canon_ptrI canon_bool canon_tup canon_agg canon_ints' canon_ints0 rowLen_octs seen_octs canon_octs' seen_intss seen_octss rowLen_nodes seen_nodes canon_nodes' rowLen_nodes0 rowLen_nodes1 seen_list cells_int oneIn_int cells_bool oneIn_bool cells_str oneIn_str cells_list oneIn_list cells_func oneIn_func cells_nilfunc oneIn_nilfunc cells_iptr oneIn_iptr cells_iface oneIn_iface cells_nilIface oneIn_nilIface cells_own cells_ptr cells_anybool oneIn_anybool cells_agg oneIn_own0 oneIn_own1 oneIn_own3 oneIn_own4 oneIn_own5 cells_ints oneIn_ints cells_octs oneIn_octs cells_intss oneIn_intss cells_octss oneIn_octss cells_nodes oneIn_nodes ldB0 ldA0 adB0 stB0 ldB1 ldA1 adB1 stB1 ldB2 ldA2 adB2 stB2 ldB3 ldA3 adB3 stB3 ldB4 ldA4 adB4 stB4 ldB5 ldA5 adB5 stB5 List.getElem?_cons_zero List.getElem?_cons_succ beq_self_eq_true splice List.take_zero List.take_succ_cons List.drop_zero List.drop_succ_cons List.append_nil List.set_cons_zero List.set_cons_succ List.all_cons List.all_nil Bool.and_self and_self and_true true_and Nat.lt_irrefl Nat.zero_lt_one Nat.le_refl fillA evNil notA Bool.false_eq_true evMin_int evMax_int Option.map_none freezeP_all_nil freezeP_all_cons frzE_box frzE_arr frzE_dead foldA List.foldlM_cons List.foldlM_nil callW_f lcallW_f ansW_fn ansW_own lansW_fn lansW_own ansW_none lansW_none tab_cons tab_nil dI_int dB_bool dO_octs dO_ints dO_nil dOs_nil dN_nodeA dLf_agg dIn_agg dN_agg dNs_nodes dNs_nil isI_int isO_octs isO_nil isS_ints isS_nil isNs_nodes isNs_nil isLf_agg isIn_agg isN_agg leaf_eta inner_eta node_eta leaf_zero inner_zero node_zero dP_agg isP_agg patch_eta decide_eq_true_eq decide_eq_false_iff_not eq_self forall_const true_implies false_implies Bool.not_eq_true' Bool.not_eq_false' Bool.true_eq_false implies_true ne_eq ldI ldIA adI AV.tup.injEq AV.agg.injEq List.cons.injEq AV.int.injEq AV.bool.injEq nodes_inj octs_inj ints_inj nil_nodes nil_octs nil_ints canon_nilL decide_eq_decide two_ne lendA_fn lendA_own lendA_none llendA_fn llendA_none plain_bool plain_int isNs_own isS_own false_and and_false Q_nil Q_l Q_g Q_h qgrdW_b qgrdW_tup lightD_some heavyD_some readD_some fnD_some fnD_own fnD_none callL_f ownH_some callH_f litD_some litE_some Q_call Q_bslice H_call pendOk_nil pendOk_cons pastOk_nil pastOk_cons Q_mv Q_pick Q_bin Q_un Q_convI Q_mkfunc Q_extract Q_min Q_max Q_lenS Q_lenA Q_field Q_idxA Q_mkiface Q_tassert Q_alloc Q_box Q_store Q_mkslice Q_append Q_appendZ Q_copy Q_clear Q_build Q_load Q_nilck Q_isnil Q_convS Q_slice Q_faddr Q_iaddr Q_iaddrA Q_len H_alloc H_box H_bslice H_store H_mkslice H_append H_appendZ H_copy H_clear free_mv free_pick free_bin free_un free_convI free_mkfunc free_extract free_min free_max free_lenS free_lenA free_field free_idxA free_mkiface free_tassert free_build free_load free_nilck free_isnil free_convS free_slice free_faddr free_iaddr free_iaddrA free_len callW_y List.length_map List.length_set leaves_r evR_some evRess1 evRess2 evRess3 evRes_t evRes_c nz_kind nz_enc nz_cred nz_source nz_parent nz_ienc nz_hash nz_un true_or or_true bsl_node idbs_node idbs_int appN appI ixo_nodes canon_row canon_rowI canon_rowO not_false_eq_true not_true_eq_false ldE_a ldE_c adE_b stE_b onE_a onP_b bsl_zero idbs_zero appN_zero
attribute [local go_sem low] condW_b grdW_b lgrdW_b ldP adP stP onO onPt
attribute [local simp] envL_cons envL_nil idb_int idb_bool idb_ints idb_nil idb_own idb_ptr idb_octs idb_nodes idb_leafA idb_innerA idb_nodeA idb_agg idb_tup idb_iptr idb_fn entB_dead entB_box
theorem dir_nodup' {x w : Int} : (directI x w).Nodup := by
  by_cases h : IsN x w
  · have := IsN.all (p := fun x n => (directI (x : Int) (n : Int)).Nodup) (by decide +kernel) h
    rwa [h.cast.1, h.cast.2] at this
  · unfold directI; rw [ups_not h]; exact List.nodup_nil
theorem joinW_zero (t : List Node) (i : Int) : joinW t [] i = t := by
  refine list_ext (joinW_len _ _ _) fun x hx => ?_
  rw [joinW_at _ _ _ (by rwa [joinW_len] at hx), if_neg (by simp)]
theorem joinW_snoc {t : List Node} {L : List Int} (i : Int) {j : Nat} (hj : j < L.length) (hn : L.Nodup) {p : Nat} (hp : L[j] = p) (hpt : p < t.length) :
    nodeAt (joinW t (L.take j) i) p = t[p] ∧ joinW t (L.take (j + 1)) i = if t[p].kind = 2 then (joinW t (L.take j) i).set p (joinU t[p] i) else joinW t (L.take j) i := by
  have h1 : ¬ (p : Int) ∈ L.take j := by
    intro h
    obtain ⟨q, hq, e⟩ := List.getElem_of_mem h
    rw [List.getElem_take] at e
    rw [List.length_take] at hq
    have := (List.pairwise_iff_getElem.1 hn) q j (by omega) hj (by omega)
    exact this (by rw [e, hp])
  refine ⟨?_, ?_⟩
  · rw [joinW_at _ _ _ hpt, if_neg fun h => h1 h.1, nodeAt_lt hpt]
  · have e : ∀ x : Nat, (x : Int) ∈ L.take (j + 1) ↔ (x : Int) ∈ L.take j ∨ x = p := fun x => by
      rw [List.take_succ_eq_append_getElem hj, List.mem_append, List.mem_singleton, hp]
      exact ⟨fun h => h.imp id fun h => by omega, fun h => h.imp id fun h => by omega⟩
    by_cases hk : t[p].kind = 2
    · rw [if_pos hk]
      refine list_ext (by simp [joinW_len]) fun x hx => ?_
      rw [joinW_len] at hx
      rw [joinW_at _ _ _ hx, nodeAt_set _ _ _ _ (by rw [joinW_len]; exact hpt)]
      simp only [e]
      by_cases hxp : x = p
      · subst hxp
        rw [if_pos rfl, nodeAt_lt hpt, if_pos ⟨.inr rfl, hk⟩]
      · rw [if_neg hxp, joinW_at _ _ _ hx]
        simp [hxp]
    · rw [if_neg hk]
      refine list_ext (by simp [joinW_len]) fun x hx => ?_
      rw [joinW_len] at hx
      rw [joinW_at _ _ _ hx, joinW_at _ _ _ hx]
      simp only [e]
      by_cases hxp : x = p
      · subst hxp
        rw [nodeAt_lt hpt, if_neg fun h => hk h.2, if_neg fun h => hk h.2]
      · simp [hxp]
theorem st_unm {e0 : Entry} {ver p : Nat} {R : List Node} (u : List Int) (hp : p < R.length) :
    evStore [e0, .arr 8 ver (R.map nodeA)] 1 (.eptr 1 ver p 7) (ints u) = some [e0, .arr 8 ver ((R.set p ⟨R[p].kind, R[p].leaf, ⟨R[p].inner.enc, R[p].inner.hash, u⟩⟩).map nodeA)] := by
  have h3 : (R.map nodeA)[p]? = some (nodeA R[p]) := by simp [hp]
  have h4 : setPart (nodeA R[p]) 7 (ints u) = nodeA ⟨R[p].kind, R[p].leaf, ⟨R[p].inner.enc, R[p].inner.hash, u⟩⟩ := rfl
  have h5 : (nodeA R[p]).cells.length = 8 := rfl
  have h2 : (ints u).cells.all (AV.oneIn [e0, .arr 8 ver (R.map nodeA)]) = true := by
    have := encInts.one u [e0, .arr 8 ver (R.map nodeA)]
    exact this
  have h1 : (ints u).cells.length = 1 := rfl
  simp only [evStore, h1, h2, List.getElem?_cons_succ, List.getElem?_cons_zero, h3, h4, h5, true_and, and_self, if_true, show (0 : Nat) < 1 by decide, show 7 + 1 ≤ 8 by decide, List.set_cons_succ, List.set_cons_zero, List.map_set]
theorem ld_field {e0 : Entry} {ver p off : Nat} {R : List Node} (hp : p < R.length) : evLoad [e0, .arr 8 ver (R.map nodeA)] false 1 (.eptr 1 ver p off) = (nodeA R[p]).cells[off]? := by
  have h3 : (R.map nodeA)[p]? = some (nodeA R[p]) := by simp [hp]
  simp only [evLoad, window, List.getElem?_cons_succ, List.getElem?_cons_zero, h3, if_true]
  rfl

theorem freeT_known (t : List Node) : freeT (known t) = freeT t := by unfold freeT; rw [known_known]
theorem growT_known' (t : List Node) : growT (known t) = growT t := by unfold growT; rw [known_known]
set_option maxRecDepth 100000 in
set_option maxHeartbeats 2000000 in
theorem add_spec (t : List Node) (l : Leaf) (ht : Tree.Ok t) (hl : l.Ok) : Fun seat 322 [nodes t, leafA l] (.tup [nodes (addT t l).1, .int .i64 (addT t l).2.1, .int .i64 (addT t l).2.2]) := by
  have ok := known_ok ht
  have hkl := known_len t
  have hs := known_sane t
  unfold addT
  by_cases hsrc : srcOf l 1 = 0
  rotate_left
  · rw [if_pos hsrc]
    refine Fun.of0R [r337, r338] told322 (by simp [il322]) (by simp [idb_patchA]) (by simp [idb_patchA]) 4 ?_
    simp -implicitDefEqProofs only [il322, List.zipIdx_cons, List.zipIdx_nil, leafA, innerA, nodeA, patchA, Leaf.cells, Inner.cells, Node.cells, r337_c, r337_ask, r338_c, r338_ask, decide_true, decide_false, ht, hl, hsrc, ne_eq, not_false_eq_true, go_sem, Nat.reduceEqDiff, reduceIte, Nat.reduceAdd, Nat.reduceLeDiff, Nat.reduceLT, Nat.reduceSub]
    try exact ⟨rfl, rfl, rfl⟩
  rw [if_neg (not_not_intro hsrc)]
  obtain ⟨res, hres⟩ : ∃ res : List Node × Int × Int, (if (roomT t).2 ≠ 0 then ([], -1, (roomT t).2) else (joinW (laidT (roomT t).1 (freeT (roomT t).1) l) (directI (2 * freeT (roomT t).1) (roomT t).1.length) (freeT (roomT t).1), freeT (roomT t).1, 0)) = res := ⟨_, rfl⟩
  rw [hres]
  have fk := freeT_known t
  have gk := growT_known' t
  have go := growT_ok ht
  have rmk : roomT (known t) = roomT t := by unfold roomT; rw [fk, gk, known_known]
  have room := fun g (h : roomT t = (g, 0)) => room_in hs (g := g) (by rw [rmk]; exact h)
  refine Fun.of0W told322 (by simp [il322]) (by simp [leafA, Leaf.cells]) (by simp ) 4 ?_
  simp only [il322, List.zipIdx_cons, List.zipIdx_nil]
  refine WP.seqR [] fun K hK => ?_
  simp -implicitDefEqProofs only [leafA, innerA, nodeA, patchA, Leaf.cells, Inner.cells, Node.cells, decide_true, decide_false, go_sem, Nat.reduceEqDiff, reduceIte, Nat.reduceAdd, Nat.reduceLeDiff, Nat.reduceLT, Nat.reduceSub]
  refine hK _ ?_
  clear hK K
  refine WP.seqR [r337] fun K hK => ?_
  simp -implicitDefEqProofs only [leafA, innerA, nodeA, patchA, Leaf.cells, Inner.cells, Node.cells, r337_c, r337_ask, decide_true, decide_false, ht, go_sem, Nat.reduceEqDiff, reduceIte, Nat.reduceAdd, Nat.reduceLeDiff, Nat.reduceLT, Nat.reduceSub]
  refine hK _ ?_
  clear hK K
  refine WP.seqR [r338] fun K hK => ?_
  simp -implicitDefEqProofs only [leafA, innerA, nodeA, patchA, Leaf.cells, Inner.cells, Node.cells, r338_c, r338_ask, decide_true, decide_false, hl, hsrc, ne_eq, not_true_eq_false, go_sem, Nat.reduceEqDiff, reduceIte, Nat.reduceAdd, Nat.reduceLeDiff, Nat.reduceLT, Nat.reduceSub]
  refine hK _ ?_
  clear hK K
  refine WP.seqR [r102] fun K hK => ?_
  simp -implicitDefEqProofs only [leafA, innerA, nodeA, patchA, Leaf.cells, Inner.cells, Node.cells, r102_c, r102_ask, decide_true, decide_false, ok, fk, go_sem, Nat.reduceEqDiff, reduceIte, Nat.reduceAdd, Nat.reduceLeDiff, Nat.reduceLT, Nat.reduceSub]
  refine hK _ ?_
  clear hK K
  refine WP.seqR [r107, r102] fun K hK => ?_
  have main : ∀ (g : List Node), roomT t = (g, 0) → Tree.Ok g → ∀ env', (∀ p ∈ [(3, .ptr 0 0), (0, nodes g), (8, .int .i64 (freeT g))], env' p.1 = p.2) → K ⟨env', [.box [octs l.enc, octs l.cred, .int .i64 l.source, octs l.parent]]⟩ := by
    intro g hr gok env' he
    obtain ⟨hgs, hle, hat, k, hk, hkl2, hz, _, _⟩ := room g hr
    have hgl := hgs.len
    have er : res = (joinW (laidT g k l) (directI (2 * (k : Int)) g.length) k, (k : Int), 0) := by
      rw [← hres, hr]
      simp only [ne_eq, not_true_eq_false, if_false, hk]
    rw [er] at hK
    rw [hk] at he
    refine hK _ (WP.slots he ?_)
    clear hK K he room hres er res hat rmk
    have l0 : (0 : Int) ≤ (k : Nat) := by omega
    have l2 : 2 * ((k : Nat) : Int) < g.length := by omega
    have w1 : IntKind.i64.wrap (2 * ((k : Nat) : Int)) = 2 * ((k : Nat) : Int) := wrap64 _ (by omega) (by omega)
    have lll : (laidT g k l).length = g.length := laidT_len _ _ _
    have hun : ∀ n ∈ laidT g k l, n.inner.unmerged.length ≤ 64 := by
      intro n hn
      rcases List.mem_or_eq_of_mem_set hn with h | rfl
      · obtain ⟨x, hx, rfl⟩ := List.getElem_of_mem h
        exact unm_len (hgs.1 x hx).2
      · simp [leafN, Inner.zero]
    obtain ⟨L0, hL0⟩ : ∃ L0, laidT g k l = L0 := ⟨_, rfl⟩
    rw [hL0] at lll hun ⊢
    refine WP.seqR [r339] fun K hK => ?_
    simp -implicitDefEqProofs only [leafA, innerA, nodeA, patchA, Leaf.cells, Inner.cells, Node.cells, r339_c, r339_ask, decide_true, decide_false, hl, hgl, l0, l2, hL0, List.length_map, go_sem, Nat.reduceEqDiff, reduceIte, Nat.reduceAdd, Nat.reduceLeDiff, Nat.reduceLT, Nat.reduceSub]
    refine hK _ ?_
    clear hK K
    have hD : ∀ x ∈ directI (2 * (k : Int)) g.length, IsN x g.length := fun x hx => ups_is (direct_ups hx)
    have hDn : (directI (2 * (k : Int)) g.length).Nodup := dir_nodup'
    have hDl : (directI (2 * (k : Int)) g.length).length ≤ 7 := by have := ups_len (2 * (k : Int)) g.length; unfold directI; rw [List.length_tail]; omega
    obtain ⟨D, hDe⟩ : ∃ D, directI (2 * (k : Int)) g.length = D := ⟨_, rfl⟩
    rw [hDe] at hD hDn hDl ⊢
    refine WP.seqR [r263] fun K hK => ?_
    simp -implicitDefEqProofs only [leafA, innerA, nodeA, patchA, Leaf.cells, Inner.cells, Node.cells, r263_c, r263_ask, decide_true, decide_false, w1, lll, hDe, go_sem, Nat.reduceEqDiff, reduceIte, Nat.reduceAdd, Nat.reduceLeDiff, Nat.reduceLT, Nat.reduceSub]
    refine WP.weakL [(0, .own 1 0 0 g.length), (8, .int .i64 (k : Nat)), (43, ints D), (44, .int .i64 (D.length : Nat)), (45, .int .i64 0)] ?_ ?_
    · simp only [envL_cons, Nat.reduceEqDiff, reduceIte, List.mem_cons, List.not_mem_nil, or_false, forall_eq_or_imp, forall_eq, weak_refl, and_self]
    refine WP.loopG (fun j => j ≤ D.length) (fun j => [(0, .own 1 0 0 g.length), (8, .int .i64 (k : Nat)), (43, ints D), (44, .int .i64 (D.length : Nat)), (45, .int .i64 (j : Nat))]) (fun j => [.box [octs l.enc, octs l.cred, .int .i64 l.source, octs l.parent], .arr 8 0 ((joinW L0 (D.take j) k).map nodeA)]) (fun j => D.length - j) 0 (Nat.zero_le _) (fun k _ => ⟨by simp, by simp [idb_patchA], fun e he => by (simp only [List.mem_cons, List.not_mem_nil, or_false] at he); (rcases he with rfl | rfl | rfl | rfl | rfl | rfl) <;> first | exact encNode.entB _ _ _ _ | exact encI64.entB _ _ _ _ | exact encU8.entB _ _ _ _ | simp ⟩) (by simp [joinW_zero]) ?_
    intro j hj
    refine wpc_soundR [r185] ?_
    by_cases hlt : (j : Int) < (D.length : Nat)
    · have hj' : j < D.length := by omega
      have hN := hD _ (List.getElem_mem hj')
      obtain ⟨p, hp⟩ : ∃ p : Nat, D[j] = p := ⟨D[j].toNat, by have := hN.2; omega⟩
      rw [hp] at hN
      have hpt : p < L0.length := by have := hN.2; omega
      obtain ⟨e1, e2⟩ := joinW_snoc (t := L0) (k : Int) hj' hDn hp hpt
      have hRl : (joinW L0 (D.take j) k).length = g.length := by rw [joinW_len, lll]
      obtain ⟨R, hR⟩ : ∃ R, joinW L0 (D.take j) k = R := ⟨_, rfl⟩
      rw [hR] at e1 e2 hRl ⊢
      have hpR : p < R.length := by omega
      rw [nodeAt_lt hpR] at e1
      have ixp : ∀ e0 : Entry, evIndex [e0, .arr 8 0 (R.map nodeA)] 8 (.own 1 0 0 g.length) (.int .i64 (p : Int)) = some (.eptr 1 0 p 0) := fun e0 => by
        have := ixo_nodes (H := [e0, .arr 8 0 (R.map nodeA)]) (id := 1) (ver := 0) (k := p) (l := R) rfl hpR
        rwa [hRl] at this
      have ad : ∀ (e0 : Entry) (a b : Nat), evAddr [e0, .arr 8 0 (R.map nodeA)] b (.eptr 1 0 p a) = some (.eptr 1 0 p (a + b)) := fun _ _ _ => rfl
      have ldk : ∀ e0 : Entry, evLoad [e0, .arr 8 0 (R.map nodeA)] false 1 (.eptr 1 0 p 0) = some (.int .i64 L0[p].kind) := fun e0 => by rw [ld_field hpR, e1]; rfl
      have ldu : ∀ e0 : Entry, evLoad [e0, .arr 8 0 (R.map nodeA)] false 1 (.eptr 1 0 p 7) = some (ints L0[p].inner.unmerged) := fun e0 => by rw [ld_field hpR, e1]; rfl
      have hu : L0[p].inner.unmerged.length ≤ 4294960000 := by have := hun _ (List.getElem_mem hpt); omega
      have wj := wrapS (show j < 9223372036854775807 by omega)
      by_cases hkd : L0[p].kind = 2
      · rw [if_pos hkd] at e2
        have stu : ∀ e0 : Entry, evStore [e0, .arr 8 0 (R.map nodeA)] 1 (.eptr 1 0 p 7) (ints (joinL L0[p].inner.unmerged k)) = some [e0, .arr 8 0 ((joinW L0 (D.take (j + 1)) k).map nodeA)] := fun e0 => by
          rw [st_unm _ hpR, e2]
          simp only [e1, joinU]
        simp -implicitDefEqProofs only [leafA, innerA, nodeA, patchA, Leaf.cells, Inner.cells, Node.cells, r185_c, r185_ask, decide_true, decide_false, hlt, fun H => index_ints H D j hj', hp, ixp, ad, Nat.zero_add, Nat.reduceAdd, ldk, ldu, eq_true hkd, hu, stu, go_sem, Nat.reduceEqDiff, reduceIte, Nat.reduceAdd, Nat.reduceLeDiff, Nat.reduceLT, Nat.reduceSub]
        exact ⟨j + 1, hj', by omega, by simp [wj]⟩
      · rw [if_neg hkd] at e2
        simp -implicitDefEqProofs only [leafA, innerA, nodeA, patchA, Leaf.cells, Inner.cells, Node.cells, r185_c, r185_ask, decide_true, decide_false, hlt, fun H => index_ints H D j hj', hp, ixp, ad, Nat.zero_add, Nat.reduceAdd, ldk, hkd, go_sem, Nat.reduceEqDiff, reduceIte, Nat.reduceAdd, Nat.reduceLeDiff, Nat.reduceLT, Nat.reduceSub]
        exact ⟨j + 1, hj', by omega, by simp [wj], by rw [e2]⟩
    · have e : j = D.length := by omega
      subst e
      rw [List.take_length]
      simp -implicitDefEqProofs only [leafA, innerA, nodeA, patchA, Leaf.cells, Inner.cells, Node.cells, r185_c, r185_ask, decide_true, decide_false, hlt, go_sem, Nat.reduceEqDiff, reduceIte, Nat.reduceAdd, Nat.reduceLeDiff, Nat.reduceLT, Nat.reduceSub]
      refine hK _ (wpc_soundR [] ?_)
      simp -implicitDefEqProofs only [leafA, innerA, nodeA, patchA, Leaf.cells, Inner.cells, Node.cells, decide_true, decide_false, go_sem, Nat.reduceEqDiff, reduceIte, Nat.reduceAdd, Nat.reduceLeDiff, Nat.reduceLT, Nat.reduceSub]
      rw [canon_rowL (H := [.box [octs l.enc, octs l.cred, .int .i64 l.source, octs l.parent], .arr 8 0 ((joinW L0 D k).map nodeA)]) (id := 1) (ver := 0) (k := 2) (l := joinW L0 D k) rfl (by rw [joinW_len, lll])]
  by_cases hf : freeT t = -1
  · rcases hg : growT t with ⟨g, e⟩
    rw [hg] at gk go
    have hr : roomT t = (g, e) := by unfold roomT; rw [if_pos hf, hg]
    by_cases he : e = 0
    · subst he
      have m := main g hr go
      clear main
      simp -implicitDefEqProofs only [leafA, innerA, nodeA, patchA, Leaf.cells, Inner.cells, Node.cells, r107_c, r107_ask, r102_c, r102_ask, decide_true, decide_false, ok, gk, go, eq_true hf, ne_eq, not_true_eq_false, go_sem, Nat.reduceEqDiff, reduceIte, Nat.reduceAdd, Nat.reduceLeDiff, Nat.reduceLT, Nat.reduceSub]
      refine m _ ?_
      simp only [envL_cons, Nat.reduceEqDiff, reduceIte, List.mem_cons, List.not_mem_nil, or_false, forall_eq_or_imp, forall_eq, and_self]
    · have er : res = ([], -1, e) := by rw [← hres, hr]; simp only [ne_eq, he, not_false_eq_true, if_true]
      subst er
      clear main
      simp -implicitDefEqProofs only [leafA, innerA, nodeA, patchA, Leaf.cells, Inner.cells, Node.cells, r107_c, r107_ask, r102_c, r102_ask, decide_true, decide_false, ok, gk, go, eq_true hf, he, ne_eq, not_false_eq_true, go_sem, Nat.reduceEqDiff, reduceIte, Nat.reduceAdd, Nat.reduceLeDiff, Nat.reduceLT, Nat.reduceSub]
      try exact ⟨rfl, rfl⟩
  · have m := main (known t) (by unfold roomT; rw [if_neg hf]) ok
    clear main
    rw [fk] at m
    simp -implicitDefEqProofs only [leafA, innerA, nodeA, patchA, Leaf.cells, Inner.cells, Node.cells, r107_c, r107_ask, r102_c, r102_ask, decide_true, decide_false, hf, go_sem, Nat.reduceEqDiff, reduceIte, Nat.reduceAdd, Nat.reduceLeDiff, Nat.reduceLT, Nat.reduceSub]
    refine m _ ?_
    simp only [envL_cons, Nat.reduceEqDiff, reduceIte, List.mem_cons, List.not_mem_nil, or_false, forall_eq_or_imp, forall_eq, and_self]
noncomputable def r322 : Reg seat := .of told322 (ask2 (fun a0' a1' => isNs a0' ∧ isLf a1' ∧ Tree.Ok (dNs a0') ∧ (dLf a1').Ok) fun a0' a1' => .fn (.tup [nodes (addT (dNs a0') (dLf a1')).1, .int .i64 (addT (dNs a0') (dLf a1')).2.1, .int .i64 (addT (dNs a0') (dLf a1')).2.2])) (ask2_ok fun a0' a1' h => SaidOk.fn (Fun.weak (.cons (isNs.weak h.1) (.cons (isLf.weak h.2.1) .nil)) (add_spec _ _ h.2.2.1 h.2.2.2)))
theorem r322_c : r322.c = 322 := rfl
open Classical in
theorem r322_ask (a0' a1' : AV) : r322.ask [a0', a1'] = if isNs a0' ∧ isLf a1' ∧ Tree.Ok (dNs a0') ∧ (dLf a1').Ok then some (Said.fn (.tup [nodes (addT (dNs a0') (dLf a1')).1, .int .i64 (addT (dNs a0') (dLf a1')).2.1, .int .i64 (addT (dNs a0') (dLf a1')).2.2])) else none := by unfold r322 Reg.of ask2; exact ite_cl
end Go.Proofs.YtihhinbjhiankaaGreatDoor.Al
namespace Go.Proofs.YtihhinbjhiankaaGreatDoor.Al
open Go
attribute [local go_sem] W_mv W_pick W_alloc W_box W_build W_bslice W_load W_store W_bin W_isnil W_un W_convI W_convS W_mkfunc W_mkslice W_slice W_faddr W_field W_iaddr W_extract W_len W_min W_append W_appendZ W_copy W_invoke thenQ_normal thenQ_exit thenQ_goto thenQ_ret blockQ_normal blockQ_ret blockQ_goto blockQ_exit wpc_skip wpc_region wpc_draw wpc_seq wpc_cond wpc_block wpc_exit wpc_goto wpc_label wpc_ret wpc_loop wpc_range wpc_scope condW_true condW_false condW_dec condW_any W_nil W_call resW_some evalOp Opd.ev updo_envL updo_none setL_cons setL_nil envL_cons Option.map_some Option.bind_some evBin evInt List.map_cons List.map_nil Option.pure_def Option.bind_eq_bind W_grd' grdW_tt grdW_ff grdW_tf grdW_ft grdW_tup grdW_dt grdW_df lgrdW_tup L_mv L_load L_bin L_un L_faddr L_iaddr L_nil L_call lresW_some upd_envL evUn beq_dec bne_dec leaves_ret1 leaves_ret0 leaves_end0 rowLen_ints load_iptr0 not_dec heap_get0 heap_get1 heap_set0 heap_set1 heap_len1 heap_app bslice1_int seen_ints seen_one0 Nat.sub_zero Bool.not_true Bool.not_false List.length_nil List.length_cons List.nil_append List.cons_append Nat.zero_add load_iptrA canon_ptrI canon_bool canon_tup canon_agg canon_ints' canon_ints0 rowLen_octs seen_octs canon_octs' seen_intss seen_octss rowLen_nodes seen_nodes canon_nodes' rowLen_nodes0 rowLen_nodes1 seen_list cells_int oneIn_int cells_bool oneIn_bool cells_str oneIn_str cells_list oneIn_list cells_func oneIn_func cells_nilfunc oneIn_nilfunc cells_iptr oneIn_iptr cells_iface oneIn_iface cells_nilIface oneIn_nilIface cells_own cells_ptr cells_anybool oneIn_anybool cells_agg oneIn_own0 oneIn_own1 oneIn_own3 oneIn_own4 oneIn_own5 cells_ints oneIn_ints cells_octs oneIn_octs cells_intss oneIn_intss cells_octss oneIn_octss cells_nodes oneIn_nodes ldB0 ldA0 adB0 stB0 ldB1 ldA1 adB1 stB1 ldB2 ldA2 adB2 stB2 ldB3 ldA3 adB3 stB3 ldB4 ldA4 adB4 stB4 ldB5 ldA5 adB5 stB5 List.getElem?_cons_zero List.getElem?_cons_succ beq_self_eq_true splice List.take_zero List.take_succ_cons List.drop_zero List.drop_succ_cons List.append_nil List.set_cons_zero List.set_cons_succ List.all_cons List.all_nil Bool.and_self and_self and_true true_and Nat.lt_irrefl Nat.zero_lt_one Nat.le_refl fillA evNil notA Bool.false_eq_true evMin_int evMax_int Option.map_none freezeP_all_nil freezeP_all_cons frzE_box frzE_arr frzE_dead foldA List.foldlM_cons List.foldlM_nil callW_f lcallW_f ansW_fn ansW_own lansW_fn lansW_own ansW_none lansW_none tab_cons tab_nil dI_int dB_bool dO_octs dO_ints dO_nil dOs_nil dN_nodeA dLf_agg dIn_agg dN_agg dNs_nodes dNs_nil isI_int isO_octs isO_nil isS_ints isS_nil isNs_nodes isNs_nil isLf_agg isIn_agg isN_agg leaf_eta inner_eta node_eta leaf_zero inner_zero node_zero dP_agg isP_agg patch_eta decide_eq_true_eq decide_eq_false_iff_not eq_self forall_const true_implies false_implies Bool.not_eq_true' Bool.not_eq_false' Bool.true_eq_false implies_true ne_eq ldI ldIA adI AV.tup.injEq AV.agg.injEq List.cons.injEq AV.int.injEq AV.bool.injEq nodes_inj octs_inj ints_inj nil_nodes nil_octs nil_ints canon_nilL decide_eq_decide two_ne lendA_fn lendA_own lendA_none llendA_fn llendA_none plain_bool plain_int isNs_own isS_own false_and and_false Q_nil Q_l Q_g Q_h qgrdW_b qgrdW_tup lightD_some heavyD_some readD_some fnD_some fnD_own fnD_none callL_f ownH_some callH_f litD_some litE_some Q_call Q_bslice H_call pendOk_nil pendOk_cons pastOk_nil pastOk_cons Q_mv Q_pick Q_bin Q_un Q_convI Q_mkfunc Q_extract Q_min Q_max Q_lenS Q_lenA Q_field Q_idxA Q_mkiface Q_tassert Q_alloc Q_box Q_store Q_mkslice Q_append Q_appendZ Q_copy Q_clear Q_build Q_load Q_nilck Q_isnil Q_convS Q_slice Q_faddr Q_iaddr Q_iaddrA Q_len H_alloc H_box H_bslice H_store H_mkslice H_append H_appendZ H_copy H_clear free_mv free_pick free_bin free_un free_convI free_mkfunc free_extract free_min free_max free_lenS free_lenA free_field free_idxA free_mkiface free_tassert free_build free_load free_nilck free_isnil free_convS free_slice free_faddr free_iaddr free_iaddrA free_len callW_y List.length_map List.length_set leaves_r evR_some evRess1 evRess2 evRess3 evRes_t evRes_c nz_kind nz_enc nz_cred nz_source nz_parent nz_ienc nz_hash nz_un true_or or_true bsl_node idbs_node idbs_int appN appI ixo_nodes canon_row canon_rowI canon_rowO not_false_eq_true not_true_eq_false ldE_a ldE_c adE_b stE_b onE_a onP_b bsl_zero idbs_zero appN_zero
attribute [local go_sem low] condW_b grdW_b lgrdW_b ldP adP stP onO onPt
attribute [local simp] envL_cons envL_nil idb_int idb_bool idb_ints idb_nil idb_own idb_ptr idb_octs idb_nodes idb_leafA idb_innerA idb_nodeA idb_agg idb_tup idb_iptr idb_fn entB_dead entB_box
theorem ck_spec (t : List Node) (ht : Tree.Ok t) : Fun seat 354 [nodes t] (nodes (known t)) := by
  unfold known
  by_cases hs : Sane t
  · rw [if_pos hs]
    refine Fun.of0R [r101] told354 (by simp [il354]) (by simp [idb_patchA]) (by simp [idb_patchA]) 4 ?_
    simp -implicitDefEqProofs only [il354, List.zipIdx_cons, List.zipIdx_nil, leafA, innerA, nodeA, patchA, Leaf.cells, Inner.cells, Node.cells, r101_c, r101_ask, decide_true, decide_false, ht, hs, go_sem, Nat.reduceEqDiff, reduceIte, Nat.reduceAdd, Nat.reduceLeDiff, Nat.reduceLT, Nat.reduceSub]
  · rw [if_neg hs]
    refine Fun.of0R [r101] told354 (by simp [il354]) (by simp [idb_patchA]) (by simp [idb_patchA]) 4 ?_
    simp -implicitDefEqProofs only [il354, List.zipIdx_cons, List.zipIdx_nil, leafA, innerA, nodeA, patchA, Leaf.cells, Inner.cells, Node.cells, r101_c, r101_ask, decide_true, decide_false, ht, hs, go_sem, Nat.reduceEqDiff, reduceIte, Nat.reduceAdd, Nat.reduceLeDiff, Nat.reduceLT, Nat.reduceSub]
    try rfl
noncomputable def r354 : Reg seat := .of told354 (ask1 (fun a0' => isNs a0' ∧ Tree.Ok (dNs a0')) fun a0' => .fn (nodes (known (dNs a0')))) (ask1_ok fun a0' h => SaidOk.fn (Fun.weak (.cons (isNs.weak h.1) .nil) (ck_spec _ h.2)))
theorem r354_c : r354.c = 354 := rfl
open Classical in
theorem r354_ask (a0' : AV) : r354.ask [a0'] = if isNs a0' ∧ Tree.Ok (dNs a0') then some (Said.fn (nodes (known (dNs a0')))) else none := by unfold r354 Reg.of ask1; exact ite_cl
def NoInner (t : List Node) : Prop := ∀ n ∈ t, n.kind ≠ 2
theorem validL_spec (t : List Node) (x : Int) (ht : Tree.Ok t) (hi : NoInner (known t)) : Fun seat 355 [nodes t, .int .i64 x] (.bool (decide (0 ≤ x ∧ x < (known t).length))) := by
  refine Fun.of0W told355 (by simp [il355]) (by simp ) (by simp ) 4 ?_
  simp only [il355, List.zipIdx_cons, List.zipIdx_nil]
  refine WP.seqR [] fun K hK => ?_
  simp -implicitDefEqProofs only [leafA, innerA, nodeA, patchA, Leaf.cells, Inner.cells, Node.cells, decide_true, decide_false, go_sem, Nat.reduceEqDiff, reduceIte, Nat.reduceAdd, Nat.reduceLeDiff, Nat.reduceLT, Nat.reduceSub]
  refine hK _ (WP.scope 0 rfl (fun _ _ => False) ?_ fun _ _ h => h.elim)
  clear hK K
  by_cases h0 : x < 0
  · have e : ¬ (0 ≤ x ∧ x < (known t).length) := by omega
    rw [decide_eq_false e]
    refine wpc_soundR [r354] ?_
    simp -implicitDefEqProofs only [leafA, innerA, nodeA, patchA, Leaf.cells, Inner.cells, Node.cells, r354_c, r354_ask, decide_true, decide_false, ht, h0, jumpQ_ret, go_sem, Nat.reduceEqDiff, reduceIte, Nat.reduceAdd, Nat.reduceLeDiff, Nat.reduceLT, Nat.reduceSub]
  by_cases h1 : x ≥ (known t).length
  · have e : ¬ (0 ≤ x ∧ x < (known t).length) := by omega
    rw [decide_eq_false e]
    refine wpc_soundR [r354] ?_
    simp -implicitDefEqProofs only [leafA, innerA, nodeA, patchA, Leaf.cells, Inner.cells, Node.cells, r354_c, r354_ask, decide_true, decide_false, ht, h0, h1, jumpQ_ret, go_sem, Nat.reduceEqDiff, reduceIte, Nat.reduceAdd, Nat.reduceLeDiff, Nat.reduceLT, Nat.reduceSub]
  obtain ⟨k, rfl⟩ : ∃ k : Nat, x = k := ⟨x.toNat, by omega⟩
  have hk : k < (known t).length := by omega
  have e : (0 ≤ (k : Int) ∧ (k : Int) < (known t).length) := by omega
  rw [decide_eq_true e]
  have hn := hi _ (List.getElem_mem hk)
  refine wpc_soundR [r354] ?_
  simp -implicitDefEqProofs only [leafA, innerA, nodeA, patchA, Leaf.cells, Inner.cells, Node.cells, r354_c, r354_ask, decide_true, decide_false, ht, h0, h1, fun H => ix_nodes H (known t) k hk, hn, ne_eq, not_false_eq_true, jumpQ_ret, go_sem, Nat.reduceEqDiff, reduceIte, Nat.reduceAdd, Nat.reduceLeDiff, Nat.reduceLT, Nat.reduceSub]
noncomputable def r355 : Reg seat := .of told355 (ask2 (fun a0' a1' => isNs a0' ∧ isI a1' ∧ Tree.Ok (dNs a0') ∧ NoInner (known (dNs a0'))) fun a0' a1' => .fn (.bool (decide (0 ≤ (dI a1') ∧ (dI a1') < (known (dNs a0')).length)))) (ask2_ok fun a0' a1' h => SaidOk.fn (Fun.weak (.cons (isNs.weak h.1) (.cons (isI.weak h.2.1) .nil)) (validL_spec _ _ h.2.2.1 h.2.2.2)))
theorem r355_c : r355.c = 355 := rfl
open Classical in
theorem r355_ask (a0' a1' : AV) : r355.ask [a0', a1'] = if isNs a0' ∧ isI a1' ∧ Tree.Ok (dNs a0') ∧ NoInner (known (dNs a0')) then some (Said.fn (.bool (decide (0 ≤ (dI a1') ∧ (dI a1') < (known (dNs a0')).length)))) else none := by unfold r355 Reg.of ask2; exact ite_cl
theorem verifyL_spec (t : List Node) (ht : Tree.Ok t) (hi : NoInner (known t)) : Fun seat 349 [nodes t] (.bool true) := by
  have ok := known_ok ht
  have hl := known_len t
  have kk := known_known t
  obtain ⟨a, ha⟩ : ∃ a, known t = a := ⟨_, rfl⟩
  rw [ha] at hi ok hl kk
  refine Fun.of0R [r354] told349 (by simp [il349]) (by simp [idb_patchA]) (by simp [idb_patchA]) 4 ?_
  simp -implicitDefEqProofs only [il349, List.zipIdx_cons, List.zipIdx_nil, leafA, innerA, nodeA, patchA, Leaf.cells, Inner.cells, Node.cells, r354_c, r354_ask, decide_true, decide_false, ht, ha, go_sem, Nat.reduceEqDiff, reduceIte, Nat.reduceAdd, Nat.reduceLeDiff, Nat.reduceLT, Nat.reduceSub]
  refine WP.loop0 (fun k => k ≤ a.length) (fun k => [(0, nodes a), (7, .int .i64 (a.length : Nat)), (8, .int .i64 (k : Nat))]) (fun k => a.length - k) 0 (Nat.zero_le _) (fun k _ => by simp ) (by simp ) ?_
  intro k hk
  refine wpc_soundR [r355] ?_
  by_cases hlt : (k : Int) < (a.length : Nat)
  · have hb : (0 ≤ (k : Int)) = True := eq_true (by omega)
    simp -implicitDefEqProofs only [leafA, innerA, nodeA, patchA, Leaf.cells, Inner.cells, Node.cells, r355_c, r355_ask, decide_true, decide_false, hlt, ok, kk, hi, hb, and_self, not_true_eq_false, go_sem, Nat.reduceEqDiff, reduceIte, Nat.reduceAdd, Nat.reduceLeDiff, Nat.reduceLT, Nat.reduceSub]
    exact ⟨k + 1, by omega, by omega, by simp [wrapS (show k < 9223372036854775807 by omega)]⟩
  · simp -implicitDefEqProofs only [leafA, innerA, nodeA, patchA, Leaf.cells, Inner.cells, Node.cells, r355_c, r355_ask, decide_true, decide_false, hlt, go_sem, Nat.reduceEqDiff, reduceIte, Nat.reduceAdd, Nat.reduceLeDiff, Nat.reduceLT, Nat.reduceSub]
noncomputable def r349 : Reg seat := .of told349 (ask1 (fun a0' => isNs a0' ∧ Tree.Ok (dNs a0') ∧ NoInner (known (dNs a0'))) fun a0' => .fn (.bool true)) (ask1_ok fun a0' h => SaidOk.fn (Fun.weak (.cons (isNs.weak h.1) .nil) (verifyL_spec _ h.2.1 h.2.2)))
theorem r349_c : r349.c = 349 := rfl
open Classical in
theorem r349_ask (a0' : AV) : r349.ask [a0'] = if isNs a0' ∧ Tree.Ok (dNs a0') ∧ NoInner (known (dNs a0')) then some (Said.fn (.bool true)) else none := by unfold r349 Reg.of ask1; exact ite_cl

theorem room_ok {t : List Node} (ht : Tree.Ok t) : Tree.Ok (roomT t).1 := by
  unfold roomT
  split
  · exact growT_ok ht
  · exact known_ok ht
theorem addT_ok {t : List Node} (ht : Tree.Ok t) {l : Leaf} (hl : l.Ok) : Tree.Ok (addT t l).1 := by
  unfold addT
  split
  · exact .nil
  · split
    · exact .nil
    · rename_i h2
      have hr : roomT (known t) = ((roomT t).1, 0) := by
        have : roomT (known t) = roomT t := by unfold roomT; rw [freeT_known, growT_known', known_known]
        rw [this, ← Classical.not_not.1 h2]
      obtain ⟨hg, _, _, k, hk, hkl, _⟩ := room_in (known_sane t) hr
      have hgl := hg.len
      refine joinW_ok (laidT_ok (room_ok ht) hl _) (fun n hn => ?_) _ (by rw [hk]; exact ⟨by have e1 : IntKind.i64.min = -9223372036854775808 := rfl; omega, by have e2 : IntKind.i64.max = 9223372036854775807 := rfl; omega⟩)
      rcases List.mem_or_eq_of_mem_set hn with h | rfl
      · obtain ⟨x, hx, rfl⟩ := List.getElem_of_mem h
        have := unm_len (hg.1 x hx).2; omega
      · simp [leafN, Inner.zero]
theorem remT_ok {t : List Node} (ht : Tree.Ok t) (i : Int) : Tree.Ok (remT t i).1 := by
  unfold remT
  split
  · exact .nil
  · exact trimT_ok (fun h => trimL_ok h) (clear_ok ht i)
theorem chgT_ok {t : List Node} (ht : Tree.Ok t) (i : Int) {l : Leaf} (hl : l.Ok) : Tree.Ok (chgT t i l).1 := by
  unfold chgT
  split
  · exact .nil
  · split
    · exact .nil
    · exact laidT_ok (clear_ok ht i) hl i

def lk (k : Int) : Node := leafN (leafK k 1)
def awA : List Node := [lk 1]
def awB : List Node := [lk 1, .zero, lk 2]
def awC : List Node := [lk 1, .zero, lk 2, .zero, lk 3, .zero, .zero]
def awD : List Node := [lk 1, .zero, .zero, .zero, lk 3, .zero, .zero]
def awT : List Node := [lk 1, .zero, lk 4, .zero, lk 3, .zero, .zero]
theorem aw1 : addT [] (leafK 1 1) = (awA, 0, 0) := by decide +kernel
theorem aw2 : addT awA (leafK 2 1) = (awB, 1, 0) := by decide +kernel
theorem aw3 : addT awB (leafK 3 1) = (awC, 2, 0) := by decide +kernel
theorem aw4 : remT awC 1 = (awD, 0) := by
  have h1 : haveT awC 1 = 0 := by decide +kernel
  have h2 : (clearT awC 1).1 = awD := by decide +kernel
  have h3 : known awD = awD := by decide +kernel
  have h4 : trimL awD = awD := trimL_end (by decide +kernel)
  unfold remT
  rw [if_neg (not_not_intro h1), h2]
  unfold trimT
  simp only [h3, h4]
  decide +kernel
theorem aw5 : addT awD (leafK 4 1) = (awT, 1, 0) := by decide +kernel
theorem aw6 : chgT awT 9 (leafK 5 2) = ([], 3) := by decide +kernel
theorem aw7 : NoInner (known awT) := by
  have h : known awT = awT := by decide +kernel
  rw [h]
  intro n hn
  simp only [awT, List.mem_cons, List.not_mem_nil, or_false] at hn
  rcases hn with rfl | rfl | rfl | rfl | rfl | rfl | rfl <;> simp [lk, leafN, Node.zero]
theorem in1 : In64 1 := ⟨by decide, by decide⟩
theorem in2 : In64 2 := ⟨by decide, by decide⟩
set_option maxRecDepth 100000 in
theorem awake14_spec : Fun seat 334 [] (.bool true) := by
  have o0 : Tree.Ok [] := .nil
  have l1 := leafK_ok 1 in1
  have l2 := leafK_ok 2 in1
  have l3 := leafK_ok 3 in1
  have l4 := leafK_ok 4 in1
  have l5 := leafK_ok 5 in2
  have oA := addT_ok o0 l1
  rw [aw1] at oA
  have oB := addT_ok oA l2
  rw [aw2] at oB
  have oC := addT_ok oB l3
  rw [aw3] at oC
  have oD := remT_ok oC 1
  rw [aw4] at oD
  have oT := addT_ok oD l4
  rw [aw5] at oT
  simp only at oA oB oC oD oT
  have ai := aw7
  have a1 := aw1
  have a2 := aw2
  have a3 := aw3
  have a4 := aw4
  have a5 := aw5
  have a6 := aw6
  have hlen : ((awT.length : Nat) : Int) = 7 := rfl
  refine Fun.of0W told334 (by simp [il334]) (by simp) (by simp ) 4 ?_
  simp only [il334, List.zipIdx_nil, List.map_nil]
  refine WP.seqR [] fun K hK => ?_
  simp -implicitDefEqProofs only [leafA, innerA, nodeA, patchA, Leaf.cells, Inner.cells, Node.cells, decide_true, decide_false, go_sem, Nat.reduceEqDiff, reduceIte, Nat.reduceAdd, Nat.reduceLeDiff, Nat.reduceLT, Nat.reduceSub]
  refine hK _ ?_
  clear hK K
  refine WP.seqR [r335, r322] fun K hK => ?_
  simp -implicitDefEqProofs only [leafA, innerA, nodeA, patchA, Leaf.cells, Inner.cells, Node.cells, r335_c, r335_ask, r322_c, r322_ask, decide_true, decide_false, o0, l1, a1, go_sem, Nat.reduceEqDiff, reduceIte, Nat.reduceAdd, Nat.reduceLeDiff, Nat.reduceLT, Nat.reduceSub]
  refine hK _ ?_
  clear hK K
  refine WP.seqR [r335, r322] fun K hK => ?_
  simp -implicitDefEqProofs only [leafA, innerA, nodeA, patchA, Leaf.cells, Inner.cells, Node.cells, r335_c, r335_ask, r322_c, r322_ask, decide_true, decide_false, oA, l2, a2, go_sem, Nat.reduceEqDiff, reduceIte, Nat.reduceAdd, Nat.reduceLeDiff, Nat.reduceLT, Nat.reduceSub]
  refine hK _ ?_
  clear hK K
  refine WP.seqR [r335, r322] fun K hK => ?_
  simp -implicitDefEqProofs only [leafA, innerA, nodeA, patchA, Leaf.cells, Inner.cells, Node.cells, r335_c, r335_ask, r322_c, r322_ask, decide_true, decide_false, oB, l3, a3, go_sem, Nat.reduceEqDiff, reduceIte, Nat.reduceAdd, Nat.reduceLeDiff, Nat.reduceLT, Nat.reduceSub]
  refine hK _ ?_
  clear hK K
  refine WP.seqR [r323] fun K hK => ?_
  simp -implicitDefEqProofs only [leafA, innerA, nodeA, patchA, Leaf.cells, Inner.cells, Node.cells, r323_c, r323_ask, decide_true, decide_false, oC, a4, go_sem, Nat.reduceEqDiff, reduceIte, Nat.reduceAdd, Nat.reduceLeDiff, Nat.reduceLT, Nat.reduceSub]
  refine hK _ ?_
  clear hK K
  refine WP.seqR [r335, r322] fun K hK => ?_
  simp -implicitDefEqProofs only [leafA, innerA, nodeA, patchA, Leaf.cells, Inner.cells, Node.cells, r335_c, r335_ask, r322_c, r322_ask, decide_true, decide_false, oD, l4, a5, go_sem, Nat.reduceEqDiff, reduceIte, Nat.reduceAdd, Nat.reduceLeDiff, Nat.reduceLT, Nat.reduceSub]
  refine hK _ ?_
  clear hK K
  refine WP.seqR [r335, r324] fun K hK => ?_
  simp -implicitDefEqProofs only [leafA, innerA, nodeA, patchA, Leaf.cells, Inner.cells, Node.cells, r335_c, r335_ask, r324_c, r324_ask, decide_true, decide_false, oT, l5, a6, go_sem, Nat.reduceEqDiff, reduceIte, Nat.reduceAdd, Nat.reduceLeDiff, Nat.reduceLT, Nat.reduceSub]
  refine hK _ ?_
  clear hK K
  refine wpc_soundR [r349] ?_
  simp -implicitDefEqProofs only [leafA, innerA, nodeA, patchA, Leaf.cells, Inner.cells, Node.cells, r349_c, r349_ask, decide_true, decide_false, oT, ai, hlen, go_sem, Nat.reduceEqDiff, reduceIte, Nat.reduceAdd, Nat.reduceLeDiff, Nat.reduceLT, Nat.reduceSub]
noncomputable def r334 : Reg seat := .of told334 (ask0 (.fn (.bool true))) (ask0_ok (SaidOk.fn (awake14_spec)))
theorem r334_c : r334.c = 334 := rfl
theorem r334_ask : r334.ask [] = some (.fn (.bool true)) := rfl
end Go.Proofs.YtihhinbjhiankaaGreatDoor.Al
