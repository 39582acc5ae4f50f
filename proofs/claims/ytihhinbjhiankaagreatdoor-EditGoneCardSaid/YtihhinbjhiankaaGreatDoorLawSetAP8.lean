/-
  JOINED: S4, N5, S5, I5, D9, IlsE
-/
import Derived.Test.YtihhinbjhiankaaGreatDoorLawSetAP7
import Derived.Test.YtihhinbjhiankaaGreatDoorLawSetAP4
import Derived.Test.YtihhinbjhiankaaGreatDoorLawSetAP6
import Derived.Test.YtihhinbjhiankaaGreatDoorLawSetAP3
import Derived.ScopeJumps
import Derived.ControlIn
set_option linter.unusedSimpArgs false
set_option linter.unusedVariables false
namespace Go.Proofs.YtihhinbjhiankaaGreatDoor.Al
open Go
attribute [local go_sem] W_mv W_pick W_alloc W_box W_build W_bslice W_load W_store W_bin W_isnil W_un W_convI W_convS W_mkfunc W_mkslice W_slice W_faddr W_field W_iaddr W_extract W_len W_min W_append W_appendZ W_copy W_invoke thenQ_normal thenQ_exit thenQ_goto thenQ_ret blockQ_normal blockQ_ret blockQ_goto blockQ_exit wpc_skip wpc_region wpc_draw wpc_seq wpc_cond wpc_block wpc_exit wpc_goto wpc_label wpc_ret wpc_loop wpc_range wpc_scope condW_true condW_false condW_dec condW_any W_nil W_call resW_some evalOp Opd.ev updo_envL updo_none setL_cons setL_nil envL_cons Option.map_some Option.bind_some evBin evInt List.map_cons List.map_nil Option.pure_def Option.bind_eq_bind W_grd' grdW_tt grdW_ff grdW_tf grdW_ft grdW_tup grdW_dt grdW_df lgrdW_tup L_mv L_load L_bin L_un L_faddr L_iaddr L_nil L_call lresW_some upd_envL evUn beq_dec bne_dec leaves_ret1 leaves_ret0 leaves_end0 rowLen_ints load_iptr0 not_dec heap_get0 heap_get1 heap_set0 heap_set1 heap_len1 heap_app bslice1_int seen_ints seen_one0 Nat.sub_zero Bool.not_true Bool.not_false List.length_nil List.length_cons List.nil_append List.cons_append Nat.zero_add load_iptrA canon_ptrI canon_bool canon_tup canon_agg canon_ints' canon_ints0 rowLen_octs seen_octs canon_octs' seen_intss seen_octss rowLen_nodes seen_nodes canon_nodes' rowLen_nodes0 rowLen_nodes1 seen_list cells_int oneIn_int cells_bool oneIn_bool cells_str oneIn_str cells_list oneIn_list cells_func oneIn_func cells_nilfunc oneIn_nilfunc cells_iptr oneIn_iptr cells_iface oneIn_iface cells_nilIface oneIn_nilIface cells_own cells_ptr cells_anybool oneIn_anybool cells_agg oneIn_own0 oneIn_own1 oneIn_own3 oneIn_own4 oneIn_own5 cells_ints oneIn_ints cells_octs oneIn_octs cells_intss oneIn_intss cells_octss oneIn_octss cells_nodes oneIn_nodes ldB0 ldA0 adB0 stB0 ldB1 ldA1 adB1 stB1 ldB2 ldA2 adB2 stB2 ldB3 ldA3 adB3 stB3 ldB4 ldA4 adB4 stB4 ldB5 ldA5 adB5 stB5 List.getElem?_cons_zero List.getElem?_cons_succ beq_self_eq_true splice List.take_zero List.take_succ_cons List.drop_zero List.drop_succ_cons List.append_nil List.set_cons_zero List.set_cons_succ List.all_cons List.all_nil Bool.and_self and_self and_true true_and Nat.lt_irrefl Nat.zero_lt_one Nat.le_refl fillA evNil notA Bool.false_eq_true evMin_int evMax_int Option.map_none freezeP_all_nil freezeP_all_cons frzE_box frzE_arr frzE_dead foldA List.foldlM_cons List.foldlM_nil callW_f lcallW_f ansW_fn ansW_own lansW_fn lansW_own ansW_none lansW_none tab_cons tab_nil dI_int dB_bool dO_octs dO_ints dO_nil dOs_nil dN_nodeA dLf_agg dIn_agg dN_agg dNs_nodes dNs_nil isI_int isO_octs isO_nil isS_ints isS_nil isNs_nodes isNs_nil isLf_agg isIn_agg isN_agg leaf_eta inner_eta node_eta leaf_zero inner_zero node_zero dP_agg isP_agg patch_eta decide_eq_true_eq decide_eq_false_iff_not eq_self forall_const true_implies false_implies Bool.not_eq_true' Bool.not_eq_false' Bool.true_eq_false implies_true ne_eq ldI ldIA adI AV.tup.injEq AV.agg.injEq List.cons.injEq AV.int.injEq AV.bool.injEq nodes_inj octs_inj ints_inj nil_nodes nil_octs nil_ints canon_nilL decide_eq_decide two_ne lendA_fn lendA_own lendA_none llendA_fn llendA_none plain_bool plain_int isNs_own isS_own false_and and_false Q_nil Q_l Q_g Q_h qgrdW_b qgrdW_tup lightD_some heavyD_some readD_some fnD_some fnD_own fnD_none callL_f ownH_some callH_f litD_some litE_some Q_call Q_bslice H_call pendOk_nil pendOk_cons pastOk_nil pastOk_cons Q_mv Q_pick Q_bin Q_un Q_convI Q_mkfunc Q_extract Q_min Q_max Q_lenS Q_lenA Q_field Q_idxA Q_mkiface Q_tassert Q_alloc Q_box Q_store Q_mkslice Q_append Q_appendZ Q_copy Q_clear Q_build Q_load Q_nilck Q_isnil Q_convS Q_slice Q_faddr Q_iaddr Q_iaddrA Q_len H_alloc H_box H_bslice H_store H_mkslice H_append H_appendZ H_copy H_clear free_mv free_pick free_bin free_un free_convI free_mkfunc free_extract free_min free_max free_lenS free_lenA free_field free_idxA free_mkiface free_tassert free_build free_load free_nilck free_isnil free_convS free_slice free_faddr free_iaddr free_iaddrA free_len callW_y List.length_map List.length_set leaves_r evR_some evRess1 evRess2 evRess3 evRes_t evRes_c nz_kind nz_enc nz_cred nz_source nz_parent nz_ienc nz_hash nz_un true_or or_true bsl_node idbs_node idbs_int appN appI ixo_nodes canon_row canon_rowI canon_rowO not_false_eq_true not_true_eq_false ldE_a ldE_c adE_b stE_b onE_a onP_b bsl_zero idbs_zero appN_zero
attribute [local go_sem low] condW_b grdW_b lgrdW_b ldP adP stP onO onPt
attribute [local simp] envL_cons envL_nil idb_int idb_bool idb_ints idb_nil idb_own idb_ptr idb_octs idb_nodes idb_leafA idb_innerA idb_nodeA idb_agg idb_tup idb_iptr idb_fn entB_dead entB_box
def zeroA : AV := .agg [.int .i64 0, .list true [], .list true [], .int .i64 0, .list true [], .list true [], .list true [], .list true []]
theorem free_spec (t : List Node) (ht : Tree.Ok t) : Fun seat 102 [nodes t] (.int .i64 (freeT t)) := by
  have hl := known_len t
  have hk0 := known_ok ht
  have c0 : firstN (blankEven (known t)) (known t).length = none → freeT t = -1 := fun h => by rw [freeT, h]
  have c1 : ∀ k : Nat, firstN (blankEven (known t)) (known t).length = some k → freeT t = (k / 2 : Nat) := fun k h => by rw [freeT, h]
  generalize freeT t = r at *
  refine Fun.of0R [r126] told102 (by simp [il102]) (by simp [idb_patchA]) (by simp [idb_patchA]) 4 ?_
  simp only [il102, List.zipIdx_cons, List.zipIdx_nil, leafA, innerA, nodeA, patchA, Leaf.cells, Inner.cells, Node.cells, r126_c, r126_ask, ht, go_sem, Nat.reduceEqDiff, reduceIte, Nat.reduceAdd, Nat.reduceLeDiff, Nat.reduceLT, Nat.reduceSub]
  generalize known t = a at *
  refine WP.loopG (fun k => k ≤ a.length ∧ ∀ j (h : j < a.length), j < k → blankEven a j = false) (fun k => [(6, nodes a), (7, .int .i64 a.length), (8, .int .i64 k)]) (fun k => []) (fun k => a.length - k) 0 ⟨Nat.zero_le _, fun j _ h => absurd h (Nat.not_lt_zero j)⟩ (fun k _ => by simp [idb_patchA]) (by simp ) ?_
  rintro k ⟨hk, hno⟩
  refine wpc_soundR [r127] ?_
  simp only [leafA, innerA, nodeA, patchA, Leaf.cells, Inner.cells, Node.cells, r127_c, r127_ask, go_sem, Nat.reduceEqDiff, reduceIte, Nat.reduceAdd, Nat.reduceLeDiff, Nat.reduceLT, Nat.reduceSub]
  refine ⟨fun hlt => ?_, fun hge => ?_⟩
  · have hk' : k < a.length := by omega
    have e := nodeAt_lt hk'
    simp only [leafA, innerA, nodeA, patchA, Leaf.cells, Inner.cells, Node.cells, r127_c, r127_ask, fun H => ix_nodes H a k hk', rem2 k (by omega), quo2 k (by omega), go_sem, Nat.reduceEqDiff, reduceIte, Nat.reduceAdd, Nat.reduceLeDiff, Nat.reduceLT, Nat.reduceSub]
    have b : blankEven a k = decide (k % 2 = 0 ∧ a[k].kind = 0) := by rw [blankEven, e]
    have st : blankEven a k = true → r = (k / 2 : Nat) := fun h => c1 k (firstN_some hk' h fun j hj => hno j (by omega) hj)
    clear c0 c1
    iterate 12 ((all_goals intros); (all_goals try refine And.intro ?_ ?_))
    all_goals first | (show WP _ _ _ _ _ _ _) | exact ⟨k + 1, ⟨hk', scanS hno fun _ => by grind⟩, by omega, by simp [wrapS (show k < 9223372036854775807 by omega)]⟩ | grind
  · have hno1 := scanE hno hge
    have := c0 (firstN_none fun j hj => hno1 j hj)
    grind
noncomputable def r102 : Reg seat := .of told102 (ask1 (fun a0' => isNs a0' ∧ Tree.Ok (dNs a0')) fun a0' => .fn (.int .i64 (freeT (dNs a0')))) (ask1_ok fun a0' h => SaidOk.fn (Fun.weak (.cons (isNs.weak h.1) .nil) (free_spec _ h.2)))
theorem r102_c : r102.c = 102 := rfl
open Classical in
theorem r102_ask (a0' : AV) : r102.ask [a0'] = if isNs a0' ∧ Tree.Ok (dNs a0') then some (Said.fn (.int .i64 (freeT (dNs a0')))) else none := by unfold r102 Reg.of ask1; exact ite_cl

end Go.Proofs.YtihhinbjhiankaaGreatDoor.Al

set_option linter.unusedSimpArgs false
set_option linter.unusedVariables false
namespace Go.Proofs.YtihhinbjhiankaaGreatDoor.Al
open Go
attribute [local go_sem] W_mv W_pick W_alloc W_box W_build W_bslice W_load W_store W_bin W_isnil W_un W_convI W_convS W_mkfunc W_mkslice W_slice W_faddr W_field W_iaddr W_extract W_len W_min W_append W_appendZ W_copy W_invoke thenQ_normal thenQ_exit thenQ_goto thenQ_ret blockQ_normal blockQ_ret blockQ_goto blockQ_exit wpc_skip wpc_region wpc_draw wpc_seq wpc_cond wpc_block wpc_exit wpc_goto wpc_label wpc_ret wpc_loop wpc_range wpc_scope condW_true condW_false condW_dec condW_any W_nil W_call resW_some evalOp Opd.ev updo_envL updo_none setL_cons setL_nil envL_cons Option.map_some Option.bind_some evBin evInt List.map_cons List.map_nil Option.pure_def Option.bind_eq_bind W_grd' grdW_tt grdW_ff grdW_tf grdW_ft grdW_tup grdW_dt grdW_df lgrdW_tup L_mv L_load L_bin L_un L_faddr L_iaddr L_nil L_call lresW_some upd_envL evUn beq_dec bne_dec leaves_ret1 leaves_ret0 leaves_end0 rowLen_ints load_iptr0 not_dec heap_get0 heap_get1 heap_set0 heap_set1 heap_len1 heap_app bslice1_int seen_ints seen_one0 Nat.sub_zero Bool.not_true Bool.not_false List.length_nil List.length_cons List.nil_append List.cons_append Nat.zero_add load_iptrA canon_ptrI canon_bool canon_tup canon_agg canon_ints' canon_ints0 rowLen_octs seen_octs canon_octs' seen_intss seen_octss rowLen_nodes seen_nodes canon_nodes' rowLen_nodes0 rowLen_nodes1 seen_list cells_int oneIn_int cells_bool oneIn_bool cells_str oneIn_str cells_list oneIn_list cells_func oneIn_func cells_nilfunc oneIn_nilfunc cells_iptr oneIn_iptr cells_iface oneIn_iface cells_nilIface oneIn_nilIface cells_own cells_ptr cells_anybool oneIn_anybool cells_agg oneIn_own0 oneIn_own1 oneIn_own3 oneIn_own4 oneIn_own5 cells_ints oneIn_ints cells_octs oneIn_octs cells_intss oneIn_intss cells_octss oneIn_octss cells_nodes oneIn_nodes ldB0 ldA0 adB0 stB0 ldB1 ldA1 adB1 stB1 ldB2 ldA2 adB2 stB2 ldB3 ldA3 adB3 stB3 ldB4 ldA4 adB4 stB4 ldB5 ldA5 adB5 stB5 List.getElem?_cons_zero List.getElem?_cons_succ beq_self_eq_true splice List.take_zero List.take_succ_cons List.drop_zero List.drop_succ_cons List.append_nil List.set_cons_zero List.set_cons_succ List.all_cons List.all_nil Bool.and_self and_self and_true true_and Nat.lt_irrefl Nat.zero_lt_one Nat.le_refl fillA evNil notA Bool.false_eq_true evMin_int evMax_int Option.map_none freezeP_all_nil freezeP_all_cons frzE_box frzE_arr frzE_dead foldA List.foldlM_cons List.foldlM_nil
attribute [local simp] envL_cons envL_nil idb_int idb_bool idb_ints idb_nil idb_own idb_ptr idb_octs idb_nodes idb_leafA idb_innerA idb_nodeA idb_agg idb_tup idb_iptr idb_fn entB_dead entB_box
theorem idx151_spec (l : List (Node)) (p : Node → Bool) (c : Nat) (f : IFn) (ht : trFn seat c = some f) (cap : List AV) (hcap : ∀ x ∈ cap, Idb 0 x) (h : ∀ x ∈ l, Fun seat c ([nodeA x] ++ cap) (.bool (p x))) : Fun seat 151 [encNode.row l, .func (.f c) [] cap] (.int .i64 (idxF p l)) := by
  refine Fun.bd fun hbd => ?_
  have hlb : l.length ≤ 9223372036854775807 := encNode.bd_len (t := false) hbd (by simp [Enc.row])
  refine Fun.of0 told151 (by simp [il151]) (by simpa [encNode.idb_row] using hcap) (by simp ) 0 ?_
  simp only [il151, List.zipIdx_cons, List.zipIdx_nil, Nat.zero_add, go_sem, Nat.reduceEqDiff, reduceIte, Nat.reduceAdd, Nat.reduceLeDiff, Nat.reduceLT, Nat.reduceSub, encNode.rowLen]
  refine WP.loop0 (fun k => k ≤ l.length ∧ ∀ j (hj : j < l.length), j < k → p l[j] = false) (fun k => [(0, encNode.row l), (1, .func (.f c) [] cap), (7, .int .i64 l.length), (8, .int .i64 k)]) (fun k => l.length - k) 0 ⟨Nat.zero_le _, fun j _ h => by omega⟩
    (fun k _ => by simpa [encNode.idb_row] using hcap) (by simp ) ?_
  rintro k ⟨hk, hno⟩
  refine wpc_sound ?_
  simp only [go_sem, Nat.reduceEqDiff, reduceIte, Nat.reduceAdd, Nat.reduceLeDiff, Nat.reduceLT, Nat.reduceSub]
  refine ⟨fun hlt => ?_, fun hge => ?_⟩
  · have hk' : k < l.length := by omega
    have ix : evIndex [] 8 (encNode.row l) (.int .i64 (k : Int)) = some (.iptr ((nodeA l[k]).cells) 0) := encNode.index [] l k hk'
    have ld : evLoad [] true 8 (.iptr ((nodeA l[k]).cells) 0) = some (nodeA l[k]) := rfl
    simp only [go_sem, Nat.reduceEqDiff, reduceIte, Nat.reduceAdd, Nat.reduceLeDiff, Nat.reduceLT, Nat.reduceSub, ix, ld]
    refine Callee.c ht (h l[k] (List.getElem_mem hk')) ?_
    cases hp : p l[k] with
    | true =>
      simp only [go_sem, Nat.reduceEqDiff, reduceIte, Nat.reduceAdd, Nat.reduceLeDiff, Nat.reduceLT, Nat.reduceSub]
      rw [findIdx_at hk' hp fun j hj => hno j (by omega) hj]
    | false =>
      simp only [go_sem, Nat.reduceEqDiff, reduceIte, Nat.reduceAdd, Nat.reduceLeDiff, Nat.reduceLT, Nat.reduceSub]
      refine ⟨k + 1, ⟨hk', fun j hj hjk => ?_⟩, by omega, by simp [wrapS (show k < 9223372036854775807 by omega)]⟩
      rcases Nat.lt_or_ge j k with hlt | hge
      · exact hno j hj hlt
      · obtain rfl : j = k := by omega
        exact hp
  · have hke : k = l.length := by omega
    subst hke
    rw [idxF_none fun j hj => hno j hj hj]

theorem any132_spec (l : List Node) (p : Node → Bool) (c : Nat) (f : IFn) (ht : trFn seat c = some f) (cap : List AV) (hcap : ∀ x ∈ cap, Idb 0 x) (h : ∀ x ∈ l, Fun seat c ([nodeA x] ++ cap) (.bool (p x))) : Fun seat 132 [encNode.row l, .func (.f c) [] cap] (.bool (l.any p)) := by
  refine Fun.of0 told132 (by simp [il132]) (by simpa [encNode.idb_row] using hcap) (by simp ) 0 ?_
  rw [← idxF_ge]
  simp only [il132, List.zipIdx_cons, List.zipIdx_nil, Nat.zero_add, go_sem, Nat.reduceEqDiff, reduceIte, Nat.reduceAdd, Nat.reduceLeDiff, Nat.reduceLT, Nat.reduceSub]
  refine Callee.f told151 (idx151_spec l p c f ht cap hcap h) ?_
  simp only [go_sem, Nat.reduceEqDiff, reduceIte, Nat.reduceAdd, Nat.reduceLeDiff, Nat.reduceLT, Nat.reduceSub]

end Go.Proofs.YtihhinbjhiankaaGreatDoor.Al

set_option linter.unusedSimpArgs false
set_option linter.unusedVariables false
namespace Go.Proofs.YtihhinbjhiankaaGreatDoor.Al
open Go
attribute [local go_sem] W_mv W_pick W_alloc W_box W_build W_bslice W_load W_store W_bin W_isnil W_un W_convI W_convS W_mkfunc W_mkslice W_slice W_faddr W_field W_iaddr W_extract W_len W_min W_append W_appendZ W_copy W_invoke thenQ_normal thenQ_exit thenQ_goto thenQ_ret blockQ_normal blockQ_ret blockQ_goto blockQ_exit wpc_skip wpc_region wpc_draw wpc_seq wpc_cond wpc_block wpc_exit wpc_goto wpc_label wpc_ret wpc_loop wpc_range wpc_scope condW_true condW_false condW_dec condW_any W_nil W_call resW_some evalOp Opd.ev updo_envL updo_none setL_cons setL_nil envL_cons Option.map_some Option.bind_some evBin evInt List.map_cons List.map_nil Option.pure_def Option.bind_eq_bind W_grd' grdW_tt grdW_ff grdW_tf grdW_ft grdW_tup grdW_dt grdW_df lgrdW_tup L_mv L_load L_bin L_un L_faddr L_iaddr L_nil L_call lresW_some upd_envL evUn beq_dec bne_dec leaves_ret1 leaves_ret0 leaves_end0 rowLen_ints load_iptr0 not_dec heap_get0 heap_get1 heap_set0 heap_set1 heap_len1 heap_app bslice1_int seen_ints seen_one0 Nat.sub_zero Bool.not_true Bool.not_false List.length_nil List.length_cons List.nil_append List.cons_append Nat.zero_add load_iptrA canon_ptrI canon_bool canon_tup canon_agg canon_ints' canon_ints0 rowLen_octs seen_octs canon_octs' seen_intss seen_octss rowLen_nodes seen_nodes canon_nodes' rowLen_nodes0 rowLen_nodes1 seen_list cells_int oneIn_int cells_bool oneIn_bool cells_str oneIn_str cells_list oneIn_list cells_func oneIn_func cells_nilfunc oneIn_nilfunc cells_iptr oneIn_iptr cells_iface oneIn_iface cells_nilIface oneIn_nilIface cells_own cells_ptr cells_anybool oneIn_anybool cells_agg oneIn_own0 oneIn_own1 oneIn_own3 oneIn_own4 oneIn_own5 cells_ints oneIn_ints cells_octs oneIn_octs cells_intss oneIn_intss cells_octss oneIn_octss cells_nodes oneIn_nodes ldB0 ldA0 adB0 stB0 ldB1 ldA1 adB1 stB1 ldB2 ldA2 adB2 stB2 ldB3 ldA3 adB3 stB3 ldB4 ldA4 adB4 stB4 ldB5 ldA5 adB5 stB5 List.getElem?_cons_zero List.getElem?_cons_succ beq_self_eq_true splice List.take_zero List.take_succ_cons List.drop_zero List.drop_succ_cons List.append_nil List.set_cons_zero List.set_cons_succ List.all_cons List.all_nil Bool.and_self and_self and_true true_and Nat.lt_irrefl Nat.zero_lt_one Nat.le_refl fillA evNil notA Bool.false_eq_true evMin_int evMax_int Option.map_none freezeP_all_nil freezeP_all_cons frzE_box frzE_arr frzE_dead foldA List.foldlM_cons List.foldlM_nil callW_f lcallW_f ansW_fn ansW_own lansW_fn lansW_own ansW_none lansW_none tab_cons tab_nil dI_int dB_bool dO_octs dO_ints dO_nil dOs_nil dN_nodeA dLf_agg dIn_agg dN_agg dNs_nodes dNs_nil isI_int isO_octs isO_nil isS_ints isS_nil isNs_nodes isNs_nil isLf_agg isIn_agg isN_agg leaf_eta inner_eta node_eta leaf_zero inner_zero node_zero dP_agg isP_agg patch_eta decide_eq_true_eq decide_eq_false_iff_not eq_self forall_const true_implies false_implies Bool.not_eq_true' Bool.not_eq_false' Bool.true_eq_false implies_true ne_eq ldI ldIA adI AV.tup.injEq AV.agg.injEq List.cons.injEq AV.int.injEq AV.bool.injEq nodes_inj octs_inj ints_inj nil_nodes nil_octs nil_ints canon_nilL decide_eq_decide two_ne lendA_fn lendA_own lendA_none llendA_fn llendA_none plain_bool plain_int isNs_own isS_own false_and and_false Q_nil Q_l Q_g Q_h qgrdW_b qgrdW_tup lightD_some heavyD_some readD_some fnD_some fnD_own fnD_none callL_f ownH_some callH_f litD_some litE_some Q_call Q_bslice H_call pendOk_nil pendOk_cons pastOk_nil pastOk_cons Q_mv Q_pick Q_bin Q_un Q_convI Q_mkfunc Q_extract Q_min Q_max Q_lenS Q_lenA Q_field Q_idxA Q_mkiface Q_tassert Q_alloc Q_box Q_store Q_mkslice Q_append Q_appendZ Q_copy Q_clear Q_build Q_load Q_nilck Q_isnil Q_convS Q_slice Q_faddr Q_iaddr Q_iaddrA Q_len H_alloc H_box H_bslice H_store H_mkslice H_append H_appendZ H_copy H_clear free_mv free_pick free_bin free_un free_convI free_mkfunc free_extract free_min free_max free_lenS free_lenA free_field free_idxA free_mkiface free_tassert free_build free_load free_nilck free_isnil free_convS free_slice free_faddr free_iaddr free_iaddrA free_len callW_y List.length_map List.length_set leaves_r evR_some evRess1 evRess2 evRess3 evRes_t evRes_c nz_kind nz_enc nz_cred nz_source nz_parent nz_ienc nz_hash nz_un true_or or_true bsl_node idbs_node idbs_int appN appI ixo_nodes canon_row canon_rowI canon_rowO not_false_eq_true not_true_eq_false ldE_a ldE_c adE_b stE_b onE_a onP_b bsl_zero idbs_zero appN_zero
attribute [local go_sem low] condW_b grdW_b lgrdW_b ldP adP stP onO onPt
attribute [local simp] envL_cons envL_nil idb_int idb_bool idb_ints idb_nil idb_own idb_ptr idb_octs idb_nodes idb_leafA idb_innerA idb_nodeA idb_agg idb_tup idb_iptr idb_fn entB_dead entB_box
/-- slices.Clone of nodes. -/
theorem cloneN_spec (l : List Node) (hl : l.length ≤ 4294967295) : FunOwn seat 129 [nodes l] 8 (l.map nodeA) := by
  refine FunOwn.of0W told129 (by simp [il129]) (by simp ) (encNode.xs_idb l) (wpc_sound ?_)
  simp only [il129, List.zipIdx_cons, List.zipIdx_nil, Nat.zero_add, go_sem, Nat.reduceEqDiff, reduceIte, Nat.reduceAdd, Nat.reduceLeDiff, Nat.reduceLT, Nat.reduceSub, nodes]
  have app : ∀ r : List Node, r.length ≤ 4294967295 → ∃ v, evAppend [Entry.arr 8 0 (([] : List Node).map nodeA)] 8 160 (.own 0 0 0 ([] : List Node).length) (r.map nodeA) = some (.own 0 v 0 r.length, [.arr 8 v (r.map nodeA)]) := by
    intro r hr
    obtain ⟨v, hv⟩ := encNode.app_any (H := [Entry.arr 8 0 (([] : List Node).map nodeA)]) (id := 0) (ver := 0) (l := []) (ys := r) (bytes := 160) rfl (by unfold maxRow; simp; omega) (by decide)
    exact ⟨v, by simpa [encNode] using hv⟩
  have hb : evBslice ([] : List Entry) 8 0 zeroA [] = some (.own 0 0 0 0, [.arr 8 0 []]) := rfl
  unfold zeroA at hb
  cases l with
  | nil =>
    obtain ⟨v, hv⟩ := app [] (by simp)
    simp only [List.map_nil, List.length_nil] at hv
    simp only [List.map_nil, go_sem, Nat.reduceEqDiff, reduceIte, Nat.reduceAdd, Nat.reduceLeDiff, Nat.reduceLT, Nat.reduceSub, hv, hb]
    exact .inl ⟨0, v, rfl, rfl⟩
  | cons x r =>
    obtain ⟨v, hv⟩ := app (x :: r) hl
    simp only [List.map_nil, List.length_nil, List.map_cons, List.length_cons] at hv
    simp only [List.map_cons, go_sem, Nat.reduceEqDiff, reduceIte, Nat.reduceAdd, Nat.reduceLeDiff, Nat.reduceLT, Nat.reduceSub, hv, hb]
    exact .inl ⟨0, v, by simp, rfl⟩
noncomputable def r129 : Reg seat := .of told129 (ask1 (fun a0' => isNs a0' ∧ (dNs a0').length ≤ 4294967295) fun a0' => .own 8 ((dNs a0').map nodeA)) (ask1_ok fun a0' h => SaidOk.own (FunOwn.weak (.cons (isNs.weak h.1) .nil) (cloneN_spec _ h.2)) (by first | exact encU8.xs_idb _ | exact encI64.xs_idb _ | exact encNode.xs_idb _))
theorem r129_c : r129.c = 129 := rfl
open Classical in
theorem r129_ask (a0' : AV) : r129.ask [a0'] = if isNs a0' ∧ (dNs a0').length ≤ 4294967295 then some (Said.own 8 ((dNs a0').map nodeA)) else none := by unfold r129 Reg.of ask1; exact ite_cl

theorem zeroA_norm (H : List Entry) (k : Nat) : derefN H (k + 2) zeroA = nodeA .zero := by
  simp only [zeroA, derefN, List.map_cons, List.map_nil]
  rfl
theorem appZ (l : List Node) (n : Nat) (hn : 0 < n) (h : l.length + n ≤ 4294967296) : evAppend [] 8 160 (.list true (l.map nodeA)) (List.replicate n zeroA) = some (.own 0 0 0 (l.length + n), [.arr 8 0 (l.map nodeA ++ List.replicate n zeroA)]) := by
  have h1 : List.replicate n zeroA ≠ [] := by simp; omega
  have h2 : szOk [] 8 (List.replicate n zeroA) = true := by
    simp only [szOk, List.all_eq_true]
    intro x hx; rw [(List.mem_replicate.1 hx).2]; rfl
  have h3 : szOk [] 8 (l.map nodeA) = true := encNode.szOk [] l
  simp only [evAppend, h1, h2, h3, List.length_map, List.length_replicate, maxRow, h, if_false, and_self, if_true, show 160 ≤ 4096 by decide, show 0 < 8 by decide, List.length_nil, List.nil_append]
theorem canonZ (l : List Node) (n : Nat) : canon [.arr 8 0 (l.map nodeA ++ List.replicate n zeroA)] 3 (.own 0 0 0 (l.length + n)) = nodes (l ++ List.replicate n .zero) := by
  have h : ∀ x : Node, derefN (freezeP all [.arr 8 0 (l.map nodeA ++ List.replicate n zeroA)]) 2 (nodeA x) = nodeA x := fun x => encNode.norm _ _ x
  have h2 : derefN (freezeP all [.arr 8 0 (l.map nodeA ++ List.replicate n zeroA)]) 2 zeroA = nodeA .zero := zeroA_norm _ 0
  rw [canon, derefN]
  simp only [freezeP_all_cons, freezeP_all_nil, frzE_arr, List.getElem?_cons_zero] at h h2 ⊢
  simp only [List.length_append, List.length_map, List.length_replicate, Nat.le_refl, and_self, if_true, List.drop_zero]
  rw [List.take_of_length_le (by simp), List.map_append, List.map_map, List.map_replicate, h2, nodes, List.map_append, List.map_replicate]
  congr 2
  exact List.map_congr_left fun x _ => h x

theorem grow_spec (t : List Node) (ht : Tree.Ok t) : Fun seat 107 [nodes t] (.tup [nodes (growT t).1, .int .i64 (growT t).2]) := by
  have hl := known_len t
  unfold growT
  have sl := encNode.sliceTT [] (known t) (known t).length (by omega) (by simp)
  have e1 : ((known t).length : Int).toNat = (known t).length := Int.toNat_natCast _
  simp only [e1, List.take_length] at sl
  have sl : evSlice [] 8 (nodes (known t)) none (some (.int .i64 ((known t).length : Int))) (some (.int .i64 ((known t).length : Int))) = some (.list true ((known t).map nodeA)) := sl
  have ap := appZ (known t) ((known t).length + 1) (by omega) (by omega)
  unfold zeroA at ap
  have e2 : (((known t).length : Int) + 1).toNat = (known t).length + 1 := by omega
  have e3 : (0 ≤ ((known t).length : Int) + 1 ∧ ((known t).length : Int) + 1 ≤ (maxRow : Nat)) = True := eq_true ⟨by omega, by unfold maxRow; omega⟩
  refine Fun.of0R [r126] told107 (by simp [il107]) (by simp [idb_patchA]) (by simp [idb_patchA]) 4 ?_
  simp only [il107, List.zipIdx_cons, List.zipIdx_nil, leafA, innerA, nodeA, patchA, Leaf.cells, Inner.cells, Node.cells, r126_c, r126_ask, ht, wrap64s ((known t).length + 1) (by omega), sl, ap, e2, e3, go_sem, Nat.reduceEqDiff, reduceIte, Nat.reduceAdd, Nat.reduceLeDiff, Nat.reduceLT, Nat.reduceSub]
  have cz := canonZ (known t) ((known t).length + 1)
  unfold zeroA at cz
  rw [cz]
  simp only [nodes_inj]
  iterate 12 ((all_goals intros); (all_goals try refine And.intro ?_ ?_))
  all_goals first | (show WP _ _ _ _ _ _ _) | grind
noncomputable def r107 : Reg seat := .of told107 (ask1 (fun a0' => isNs a0' ∧ Tree.Ok (dNs a0')) fun a0' => .fn (.tup [nodes (growT (dNs a0')).1, .int .i64 (growT (dNs a0')).2])) (ask1_ok fun a0' h => SaidOk.fn (Fun.weak (.cons (isNs.weak h.1) .nil) (grow_spec _ h.2)))
theorem r107_c : r107.c = 107 := rfl
open Classical in
theorem r107_ask (a0' : AV) : r107.ask [a0'] = if isNs a0' ∧ Tree.Ok (dNs a0') then some (Said.fn (.tup [nodes (growT (dNs a0')).1, .int .i64 (growT (dNs a0')).2])) else none := by unfold r107 Reg.of ask1; exact ite_cl

theorem trimLeaf_spec (n : Node) : Fun seat 131 [nodeA n] (.bool (decide (n.kind = 1))) := by
  refine Fun.of0R [] told131 (by simp [il131]) (by simp [idb_patchA]) (by simp [idb_patchA]) 4 ?_
  simp only [il131, List.zipIdx_cons, List.zipIdx_nil, leafA, innerA, nodeA, patchA, Leaf.cells, Inner.cells, Node.cells, go_sem, Nat.reduceEqDiff, reduceIte, Nat.reduceAdd, Nat.reduceLeDiff, Nat.reduceLT, Nat.reduceSub]

theorem any131_spec (t : List Node) : Fun seat 132 [nodes t, .func (.f 131) [] []] (.bool (t.any fun n => decide (n.kind = 1))) :=
  any132_spec t (fun n => decide (n.kind = 1)) 131 il131 told131 [] (by simp) fun x _ => by simpa using trimLeaf_spec x
noncomputable def r132 : Reg seat := .of told132 (ask2 (fun a0' a1' => isNs a0' ∧ a1' = .func (.f 131) [] []) fun a0' a1' => .fn (.bool ((dNs a0').any fun n => decide (n.kind = 1)))) (ask2_ok fun a0' a1' h => SaidOk.fn (Fun.weak (.cons (isNs.weak h.1) (.cons (Weak.of_eq h.2) .nil)) (any131_spec _)))
theorem r132_c : r132.c = 132 := rfl
open Classical in
theorem r132_ask (a0' a1' : AV) : r132.ask [a0', a1'] = if isNs a0' ∧ a1' = .func (.f 131) [] [] then some (Said.fn (.bool ((dNs a0').any fun n => decide (n.kind = 1)))) else none := by unfold r132 Reg.of ask2; exact ite_cl
theorem leafless_any (a : List Node) (k : Nat) : (a.drop k).any (fun n => decide (n.kind = 1)) = decide (¬ Leafless a k) := by
  rw [Bool.eq_iff_iff, List.any_eq_true, decide_eq_true_eq]
  constructor
  · rintro ⟨x, hx, h⟩ hl
    obtain ⟨j, hj, rfl⟩ := List.getElem_of_mem hx
    rw [List.length_drop] at hj
    rw [List.getElem_drop] at h
    exact hl (k + j) (by omega) (by omega) (by simpa using h)
  · intro h
    simp only [Leafless, Classical.not_forall, ne_eq, Classical.not_not] at h
    obtain ⟨x, hx, hk, h1⟩ := h
    refine ⟨a[x], ?_, by simpa using h1⟩
    have : a[x] = (a.drop k)[x - k]'(by rw [List.length_drop]; omega) := by rw [List.getElem_drop]; congr 1; omega
    rw [this]; exact List.getElem_mem _

theorem trimL_ok : ∀ {a : List Node}, Tree.Ok a → Tree.Ok (trimL a) := by
  intro a
  induction h : a.length using Nat.strongRecOn generalizing a with
  | _ n ih =>
    intro ha
    by_cases hc : 1 < a.length ∧ Leafless a (a.length / 2)
    · rw [trimL_step hc.1 hc.2]
      exact ih _ (by rw [List.length_take]; omega) rfl (take_ok ha _)
    · rw [trimL_end hc]; exact ha
theorem trim_spec (t : List Node) (ht : Tree.Ok t) : Fun seat 108 [nodes t] (nodes (trimT t)) := by
  have hl := known_len t
  have hk0 := known_ok ht
  unfold trimT
  refine Fun.of0R [r126, r127] told108 (by simp [il108]) (by simp [idb_patchA]) (by simp [idb_patchA]) 4 ?_
  simp only [il108, List.zipIdx_cons, List.zipIdx_nil, leafA, innerA, nodeA, patchA, Leaf.cells, Inner.cells, Node.cells, r126_c, r126_ask, r127_c, r127_ask, ht, quo2 (known t).length (by omega), go_sem, Nat.reduceEqDiff, reduceIte, Nat.reduceAdd, Nat.reduceLeDiff, Nat.reduceLT, Nat.reduceSub]
  generalize known t = a0 at *
  refine WP.loopJW (fun a : List Node => [(3, .func (.f 131) [] []), (4, .int .i64 ((a.length / 2 : Nat) : Int)), (0, nodes a)]) (fun a H => a.length ≤ 127 ∧ Tree.Ok a ∧ trimL a0 = trimL a) (fun a => a.length) a0 (by simp [weak_refl]) ⟨hl, hk0, rfl⟩ ?_
  rintro a H ⟨hal, hao, hat⟩
  have e1 : (((a.length / 2 : Nat) : Int)).toNat = a.length / 2 := Int.toNat_natCast _
  have sF : ∀ H, evSlice H 8 (nodes a) (some (.int .i64 ((a.length / 2 : Nat) : Int))) none none = some (nodes (a.drop (a.length / 2))) := fun H => by
    have := encNode.sliceF H a ((a.length / 2 : Nat) : Int) (by omega) (by omega)
    rwa [e1] at this
  have sT : ∀ H, evSlice H 8 (nodes a) none (some (.int .i64 ((a.length / 2 : Nat) : Int))) (some (.int .i64 ((a.length / 2 : Nat) : Int))) = some (.list true ((a.take (a.length / 2)).map nodeA)) := fun H => by
    have := encNode.sliceTT H a ((a.length / 2 : Nat) : Int) (by omega) (by omega)
    rwa [e1] at this
  refine wpc_soundR [r132] ?_
  have el : (a.take (a.length / 2)).length = a.length / 2 := by rw [List.length_take]; omega
  have eq2 : IntKind.i64.wrap (((a.length / 2 : Nat) : Int).tdiv 2) = (((a.take (a.length / 2)).length / 2 : Nat) : Int) := by rw [quo2 _ (by omega), el]; omega
  have en : ¬ (0 < a.length / 2 ∧ Leafless a (a.length / 2)) → trimL a0 = a := fun h => by rw [hat, trimL_end]; rintro ⟨h1, h2⟩; exact h ⟨by omega, h2⟩
  by_cases h1 : a.length = 1
  · have e0 : ∀ H, evIndex H 8 (nodes a) (.int .i64 0) = _ := fun H => ix_nodes H a 0 (by omega)
    have ea : trimL a0 = a := en (by omega)
    have en : nodeAt a 0 = a[0] := nodeAt_lt (by omega)
    have hd : ((a.length / 2 : Nat) : Int) = 0 := by omega
    simp only [leafA, innerA, nodeA, patchA, Leaf.cells, Inner.cells, Node.cells, r132_c, r132_ask, r127_c, r127_ask, sF, sT, drop_ok hao, leafless_any, e0, ea, h1, hd, en, go_sem, Nat.reduceEqDiff, reduceIte, Nat.reduceAdd, Nat.reduceLeDiff, Nat.reduceLT, Nat.reduceSub]
    simp (config := { decide := true }) only [h1]
    iterate 12 ((all_goals intros); (all_goals try refine And.intro ?_ ?_))
    all_goals first | (show WP _ _ _ _ _ _ _) | grind

  · simp only [leafA, innerA, nodeA, patchA, Leaf.cells, Inner.cells, Node.cells, r132_c, r132_ask, r127_c, r127_ask, sF, sT, drop_ok hao, leafless_any, h1, go_sem, Nat.reduceEqDiff, reduceIte, Nat.reduceAdd, Nat.reduceLeDiff, Nat.reduceLT, Nat.reduceSub]
    iterate 12 ((all_goals intros); (all_goals try refine And.intro ?_ ?_))
    all_goals first
      | exact ⟨a.take (a.length / 2), ⟨by omega, take_ok hao _, by rw [hat, trimL_step (by omega) (Classical.not_not.1 (by assumption))]⟩, by omega,
          by simp only [List.mem_cons, List.not_mem_nil, or_false, forall_eq_or_imp, forall_eq, weak_refl, weak_nodes, eq2, and_self, go_sem, Nat.reduceEqDiff, reduceIte, Nat.reduceAdd, Nat.reduceLeDiff, Nat.reduceLT, Nat.reduceSub]⟩
      | grind
noncomputable def r108 : Reg seat := .of told108 (ask1 (fun a0' => isNs a0' ∧ Tree.Ok (dNs a0')) fun a0' => .fn (nodes (trimT (dNs a0')))) (ask1_ok fun a0' h => SaidOk.fn (Fun.weak (.cons (isNs.weak h.1) .nil) (trim_spec _ h.2)))
theorem r108_c : r108.c = 108 := rfl
open Classical in
theorem r108_ask (a0' : AV) : r108.ask [a0'] = if isNs a0' ∧ Tree.Ok (dNs a0') then some (Said.fn (nodes (trimT (dNs a0')))) else none := by unfold r108 Reg.of ask1; exact ite_cl
end Go.Proofs.YtihhinbjhiankaaGreatDoor.Al

set_option linter.unusedSimpArgs false
set_option linter.unusedVariables false
namespace Go.Proofs.YtihhinbjhiankaaGreatDoor.Al
open Go
attribute [local go_sem] W_mv W_pick W_alloc W_box W_build W_bslice W_load W_store W_bin W_isnil W_un W_convI W_convS W_mkfunc W_mkslice W_slice W_faddr W_field W_iaddr W_extract W_len W_min W_append W_appendZ W_copy W_invoke thenQ_normal thenQ_exit thenQ_goto thenQ_ret blockQ_normal blockQ_ret blockQ_goto blockQ_exit wpc_skip wpc_region wpc_draw wpc_seq wpc_cond wpc_block wpc_exit wpc_goto wpc_label wpc_ret wpc_loop wpc_range wpc_scope condW_true condW_false condW_dec condW_any W_nil W_call resW_some evalOp Opd.ev updo_envL updo_none setL_cons setL_nil envL_cons Option.map_some Option.bind_some evBin evInt List.map_cons List.map_nil Option.pure_def Option.bind_eq_bind W_grd' grdW_tt grdW_ff grdW_tf grdW_ft grdW_tup grdW_dt grdW_df lgrdW_tup L_mv L_load L_bin L_un L_faddr L_iaddr L_nil L_call lresW_some upd_envL evUn beq_dec bne_dec leaves_ret1 leaves_ret0 leaves_end0 rowLen_ints load_iptr0 not_dec heap_get0 heap_get1 heap_set0 heap_set1 heap_len1 heap_app bslice1_int seen_ints seen_one0 Nat.sub_zero Bool.not_true Bool.not_false List.length_nil List.length_cons List.nil_append List.cons_append Nat.zero_add load_iptrA canon_ptrI canon_bool canon_tup canon_agg canon_ints' canon_ints0 rowLen_octs seen_octs canon_octs' seen_intss seen_octss rowLen_nodes seen_nodes canon_nodes' rowLen_nodes0 rowLen_nodes1 seen_list cells_int oneIn_int cells_bool oneIn_bool cells_str oneIn_str cells_list oneIn_list cells_func oneIn_func cells_nilfunc oneIn_nilfunc cells_iptr oneIn_iptr cells_iface oneIn_iface cells_nilIface oneIn_nilIface cells_own cells_ptr cells_anybool oneIn_anybool cells_agg oneIn_own0 oneIn_own1 oneIn_own3 oneIn_own4 oneIn_own5 cells_ints oneIn_ints cells_octs oneIn_octs cells_intss oneIn_intss cells_octss oneIn_octss cells_nodes oneIn_nodes ldB0 ldA0 adB0 stB0 ldB1 ldA1 adB1 stB1 ldB2 ldA2 adB2 stB2 ldB3 ldA3 adB3 stB3 ldB4 ldA4 adB4 stB4 ldB5 ldA5 adB5 stB5 List.getElem?_cons_zero List.getElem?_cons_succ beq_self_eq_true splice List.take_zero List.take_succ_cons List.drop_zero List.drop_succ_cons List.append_nil List.set_cons_zero List.set_cons_succ List.all_cons List.all_nil Bool.and_self and_self and_true true_and Nat.lt_irrefl Nat.zero_lt_one Nat.le_refl fillA evNil notA Bool.false_eq_true evMin_int evMax_int Option.map_none freezeP_all_nil freezeP_all_cons frzE_box frzE_arr frzE_dead foldA List.foldlM_cons List.foldlM_nil callW_f lcallW_f ansW_fn ansW_own lansW_fn lansW_own ansW_none lansW_none tab_cons tab_nil dI_int dB_bool dO_octs dO_ints dO_nil dOs_nil dN_nodeA dLf_agg dIn_agg dN_agg dNs_nodes dNs_nil isI_int isO_octs isO_nil isS_ints isS_nil isNs_nodes isNs_nil isLf_agg isIn_agg isN_agg leaf_eta inner_eta node_eta leaf_zero inner_zero node_zero dP_agg isP_agg patch_eta decide_eq_true_eq decide_eq_false_iff_not eq_self forall_const true_implies false_implies Bool.not_eq_true' Bool.not_eq_false' Bool.true_eq_false implies_true ne_eq ldI ldIA adI AV.tup.injEq AV.agg.injEq List.cons.injEq AV.int.injEq AV.bool.injEq nodes_inj octs_inj ints_inj nil_nodes nil_octs nil_ints canon_nilL decide_eq_decide two_ne lendA_fn lendA_own lendA_none llendA_fn llendA_none plain_bool plain_int isNs_own isS_own false_and and_false Q_nil Q_l Q_g Q_h qgrdW_b qgrdW_tup lightD_some heavyD_some readD_some fnD_some fnD_own fnD_none callL_f ownH_some callH_f litD_some litE_some Q_call Q_bslice H_call pendOk_nil pendOk_cons pastOk_nil pastOk_cons Q_mv Q_pick Q_bin Q_un Q_convI Q_mkfunc Q_extract Q_min Q_max Q_lenS Q_lenA Q_field Q_idxA Q_mkiface Q_tassert Q_alloc Q_box Q_store Q_mkslice Q_append Q_appendZ Q_copy Q_clear Q_build Q_load Q_nilck Q_isnil Q_convS Q_slice Q_faddr Q_iaddr Q_iaddrA Q_len H_alloc H_box H_bslice H_store H_mkslice H_append H_appendZ H_copy H_clear free_mv free_pick free_bin free_un free_convI free_mkfunc free_extract free_min free_max free_lenS free_lenA free_field free_idxA free_mkiface free_tassert free_build free_load free_nilck free_isnil free_convS free_slice free_faddr free_iaddr free_iaddrA free_len callW_y List.length_map List.length_set leaves_r evR_some evRess1 evRess2 evRess3 evRes_t evRes_c nz_kind nz_enc nz_cred nz_source nz_parent nz_ienc nz_hash nz_un true_or or_true bsl_node idbs_node idbs_int appN appI ixo_nodes canon_row canon_rowI canon_rowO not_false_eq_true not_true_eq_false ldE_a ldE_c adE_b stE_b onE_a onP_b bsl_zero idbs_zero appN_zero
attribute [local go_sem low] condW_b grdW_b lgrdW_b ldP adP stP onO onPt
attribute [local simp] envL_cons envL_nil idb_int idb_bool idb_ints idb_nil idb_own idb_ptr idb_octs idb_nodes idb_leafA idb_innerA idb_nodeA idb_agg idb_tup idb_iptr idb_fn entB_dead entB_box
theorem directWin_spec (x w : Int) (h : IsN x w) : FunWin seat 263 [.int .i64 x, .int .i64 w] 1 1 ((ups x w).map (AV.int .i64)) := by
  have hl := ups_len x w
  have hn : ¬ (ups x w).length = 0 := by rw [ups_step h]; simp
  refine FunWin.of0W told263 (by simp [il263]) (by simp ) (encI64.xs_idb _) ?_
  simp only [il263, List.zipIdx_cons, List.zipIdx_nil, Nat.zero_add]
  refine wpc_soundR [] ?_
  simp -implicitDefEqProofs only [leafA, innerA, nodeA, patchA, Leaf.cells, Inner.cells, Node.cells, decide_true, decide_false, go_sem, Nat.reduceEqDiff, reduceIte, Nat.reduceAdd, Nat.reduceLeDiff, Nat.reduceLT, Nat.reduceSub]
  refine Callee.plain (Callable.of told266) (up_spec x w []) ?_
  rintro _ _ ⟨rfl, rfl⟩
  simp -implicitDefEqProofs only [leafA, innerA, nodeA, patchA, Leaf.cells, Inner.cells, Node.cells, decide_true, decide_false, List.nil_append, List.length_nil, go_sem, Nat.reduceEqDiff, reduceIte, Nat.reduceAdd, Nat.reduceLeDiff, Nat.reduceLT, Nat.reduceSub]
  refine Callee.plain (Callable.of told40) (collectO_spec (ups x w) (by omega) 277 il277 told277 _ _ _ (up1_gives x w 0)) ?_
  rintro r H' (⟨he, rfl⟩ | ⟨rid, v, rfl, hr⟩)
  · exact absurd (by rw [he]; rfl) hn
  · have l0 : rowLen H' (.own rid v 0 (ups x w).length) = some (ups x w).length := by simp [rowLen, own_one hr]
    have s0 : evSlice H' 1 (.own rid v 0 (ups x w).length) (some (.int .i64 1)) none none = some (.own rid v 1 (ups x w).length) := slice_own hr 1 (by omega)
    have m0 : ¬ ((ups x w).length : Int) < 1 := by omega
    simp -implicitDefEqProofs only [leafA, innerA, nodeA, patchA, Leaf.cells, Inner.cells, Node.cells, decide_true, decide_false, l0, Option.bind_some, evMin_int, m0, s0, go_sem, Nat.reduceEqDiff, reduceIte, Nat.reduceAdd, Nat.reduceLeDiff, Nat.reduceLT, Nat.reduceSub]
    exact ⟨rid, v, by simp, hr⟩

/-- A row some of whose elements are made blank. -/
def rowZ (xs : List AV) (L : List Int) : List AV := L.foldl (fun r p => r.set p.toNat zeroA) xs
theorem rowZ_len (xs : List AV) (L : List Int) : (rowZ xs L).length = xs.length := by
  unfold rowZ
  induction L generalizing xs with
  | nil => rfl
  | cons p L ih => rw [List.foldl_cons, ih]; simp
theorem rowZ_mem (L : List Int) : ∀ (xs : List AV) (x : AV), x ∈ rowZ xs L → x ∈ xs ∨ x = zeroA := by
  induction L with
  | nil => intro xs x h; exact .inl h
  | cons p L ih =>
    intro xs x h
    rcases ih (xs.set p.toNat zeroA) x h with h | h
    · exact List.mem_or_eq_of_mem_set h
    · exact .inr h
theorem rowZ_snoc (xs : List AV) (L : List Int) {k : Nat} (hk : k < L.length) : rowZ xs (L.take (k + 1)) = (rowZ xs (L.take k)).set (L[k]).toNat zeroA := by
  unfold rowZ
  rw [List.take_succ_eq_append_getElem hk, List.foldl_append]
  rfl
theorem rowZ_map (f : AV → AV) (g : Node → AV) (hf : ∀ n, f (nodeA n) = g n) (hz : f zeroA = g .zero) (L : List Int) : ∀ t : List Node, (rowZ (t.map nodeA) L).map f = (zeroAt t L).map g := by
  suffices h : ∀ (xs : List AV) (t : List Node), xs.map f = t.map g → (rowZ xs L).map f = (zeroAt t L).map g from fun t => h _ t (by rw [List.map_map]; exact List.map_congr_left fun x _ => hf x)
  induction L with
  | nil => intro xs t h; exact h
  | cons p L ih =>
    intro xs t h
    exact ih (xs.set p.toNat zeroA) (t.set p.toNat .zero) (by rw [List.map_set, List.map_set, h, hz])
theorem zeroA_8 : zeroA.cells.length = 8 := rfl
theorem nodeA_8 (n : Node) : (nodeA n).cells.length = 8 := rfl
theorem rowZ_8 {t : List Node} {L : List Int} {x : AV} (h : x ∈ rowZ (t.map nodeA) L) : ∃ cs, x = .agg cs ∧ cs.length = 8 := by
  rcases rowZ_mem _ _ _ h with h | rfl
  · obtain ⟨n, _, rfl⟩ := List.mem_map.1 h
    exact ⟨_, rfl, nodeA_8 n⟩
  · exact ⟨_, rfl, zeroA_8⟩
theorem ix_rowZ {H : List Entry} {id ver p n : Nat} {xs : List AV} (h : H[id]? = some (.arr 8 ver xs)) (hp : p < xs.length) (hn : n = xs.length) : evIndex H 8 (.own id ver 0 n) (.int .i64 (p : Int)) = some (.eptr id ver p 0) := by
  subst hn
  simp [evIndex, h, hp]
theorem st_rowZ {H : List Entry} {id ver p : Nat} {t : List Node} {L : List Int} (h : H[id]? = some (.arr 8 ver (rowZ (t.map nodeA) L))) (hp : p < t.length) :
    evStore H 8 (.eptr id ver p 0) zeroA = some (H.set id (.arr 8 ver ((rowZ (t.map nodeA) L).set p zeroA))) := by
  have hp' : p < (rowZ (t.map nodeA) L).length := by rw [rowZ_len]; simpa using hp
  obtain ⟨cs, hc, hc8⟩ := rowZ_8 (List.getElem_mem hp')
  have h2 : zeroA.cells.all (AV.oneIn H) = true := rfl
  have h3 : (rowZ (t.map nodeA) L)[p]? = some (.agg cs) := by rw [List.getElem?_eq_getElem hp', hc]
  have h4 : setPart (.agg cs) 0 zeroA = zeroA := by
    simp only [setPart, splice, List.take_zero, List.nil_append, Nat.zero_add, zeroA_8]
    rw [List.drop_of_length_le (by omega), List.append_nil]
    rfl
  have h5 : (AV.agg cs).cells.length = 8 := hc8
  simp only [evStore, zeroA_8, h2, h, h3, h4, h5, true_and, and_self, if_true, show (0 : Nat) < 8 by decide, show 0 + 8 ≤ 8 by decide]
theorem entB_rowZ (n : Nat) (t : List Node) (L : List Int) : EntB n (.arr 8 0 (rowZ (t.map nodeA) L)) := by
  intro x hx y hy
  rcases rowZ_mem _ _ _ hx with h | rfl
  · exact encNode.entB n 0 8 t x h y hy
  · simp only [zeroA, AV.cells, List.mem_cons, List.not_mem_nil, or_false] at hy
    rcases hy with rfl | rfl | rfl | rfl | rfl | rfl | rfl | rfl <;> simp 
theorem canon_rowZ {H : List Entry} {id ver n k : Nat} {t : List Node} {L : List Int} (h : H[id]? = some (.arr 8 ver (rowZ (t.map nodeA) L))) (hn : n = t.length) : canon H (k + 3) (.own id ver 0 n) = nodes (zeroAt t L) := by
  have h2 : (freezeP all H)[id]? = some (.frz 8 ver (rowZ (t.map nodeA) L)) := by rw [freezeP_get, h]; rfl
  have hl : n = (rowZ (t.map nodeA) L).length := by rw [rowZ_len, hn]; simp
  simp only [canon, derefN, h2, hl, Nat.le_refl, and_self, if_true, List.drop_zero, nodes]
  rw [List.take_of_length_le (Nat.le_refl _)]
  congr 1
  exact rowZ_map _ nodeA (fun x => encNode.norm _ _ x) (zeroA_norm _ k) L t

set_option maxRecDepth 100000 in
set_option maxHeartbeats 2000000 in
theorem clear_spec (t : List Node) (i : Int) (ht : Tree.Ok t) : Fun seat 254 [nodes t, .int .i64 i] (.tup [nodes (clearT t i).1, .int .i64 (clearT t i).2]) := by
  have hl := known_len t
  have ok := known_ok ht
  have lk : leaves_ (known t) = leaves_ t := by unfold leaves_; rw [known_known]
  have hc : (known t).length ≤ 4294967295 := by omega
  unfold clearT
  by_cases h0 : i < 0
  · rw [if_pos (.inl h0)]
    refine Fun.of0R [r126, r129] told254 (by simp [il254]) (by simp [idb_patchA]) (by simp [idb_patchA]) 4 ?_
    simp -implicitDefEqProofs only [il254, List.zipIdx_cons, List.zipIdx_nil, leafA, innerA, nodeA, patchA, Leaf.cells, Inner.cells, Node.cells, r126_c, r126_ask, r129_c, r129_ask, decide_true, decide_false, ht, hc, h0, go_sem, Nat.reduceEqDiff, reduceIte, Nat.reduceAdd, Nat.reduceLeDiff, Nat.reduceLT, Nat.reduceSub]
    try exact ⟨rfl, rfl⟩
  by_cases h1 : i ≥ leaves_ t
  · rw [if_pos (.inr h1)]
    refine Fun.of0R [r126, r129, r103] told254 (by simp [il254]) (by simp [idb_patchA]) (by simp [idb_patchA]) 4 ?_
    simp -implicitDefEqProofs only [il254, List.zipIdx_cons, List.zipIdx_nil, leafA, innerA, nodeA, patchA, Leaf.cells, Inner.cells, Node.cells, r126_c, r126_ask, r129_c, r129_ask, r103_c, r103_ask, decide_true, decide_false, ht, hc, h0, ok, lk, h1, go_sem, Nat.reduceEqDiff, reduceIte, Nat.reduceAdd, Nat.reduceLeDiff, Nat.reduceLT, Nat.reduceSub]
    try exact ⟨rfl, rfl⟩
  rw [if_neg (by omega)]
  obtain ⟨a, ha⟩ : ∃ a, known t = a := ⟨_, rfl⟩
  have hsn := known_sane t
  have lv : leaves_ t = (a.length + 1) / 2 := by unfold leaves_; rw [ha]
  rw [ha] at hl ok hc lk hsn ⊢
  have hne : ¬ a.length = 0 := by omega
  have hw : Whole a.length := hsn.2.resolve_left hne
  have hodd : (a.length : Int) % 2 = 1 := by unfold Whole at hw; omega
  have hN : IsN (2 * i) a.length := ⟨hw, by omega, by omega⟩
  have w1 : IntKind.i64.wrap (2 * i) = 2 * i := wrap64 _ (by omega) (by omega)
  refine Fun.of0W told254 (by simp [il254]) (by simp ) (by simp ) 4 ?_
  simp only [il254, List.zipIdx_cons, List.zipIdx_nil, Nat.zero_add]
  refine WP.seqR [] fun K hK => ?_
  simp -implicitDefEqProofs only [leafA, innerA, nodeA, patchA, Leaf.cells, Inner.cells, Node.cells, decide_true, decide_false, go_sem, Nat.reduceEqDiff, reduceIte, Nat.reduceAdd, Nat.reduceLeDiff, Nat.reduceLT, Nat.reduceSub]
  refine hK _ ?_
  clear hK K
  refine WP.seqR [r126, r129] fun K hK => ?_
  simp -implicitDefEqProofs only [leafA, innerA, nodeA, patchA, Leaf.cells, Inner.cells, Node.cells, r126_c, r126_ask, r129_c, r129_ask, decide_true, decide_false, ht, hc, ha, go_sem, Nat.reduceEqDiff, reduceIte, Nat.reduceAdd, Nat.reduceLeDiff, Nat.reduceLT, Nat.reduceSub]
  refine hK _ ?_
  clear hK K
  refine WP.seqR [r103] fun K hK => ?_
  simp -implicitDefEqProofs only [leafA, innerA, nodeA, patchA, Leaf.cells, Inner.cells, Node.cells, r103_c, r103_ask, decide_true, decide_false, h0, h1, ok, lk, go_sem, Nat.reduceEqDiff, reduceIte, Nat.reduceAdd, Nat.reduceLeDiff, Nat.reduceLT, Nat.reduceSub]
  refine hK _ ?_
  clear hK K
  refine WP.weakL [(0, .own 0 0 0 a.length), (1, .int .i64 i)] ?_ ?_
  · simp only [envL_cons, Nat.reduceEqDiff, reduceIte, List.mem_cons, List.not_mem_nil, or_false, forall_eq_or_imp, forall_eq, weak_refl, and_self]
  refine WP.seqV fun K hK => WP.seqV fun K2 hK2 => ?_
  refine WP.regionAt [] 8 ?_
  simp only [List.take_succ_cons, List.take_zero, List.drop_succ_cons, List.drop_zero]
  simp -implicitDefEqProofs only [leafA, innerA, nodeA, patchA, Leaf.cells, Inner.cells, Node.cells, decide_true, decide_false, w1, go_sem, Nat.reduceEqDiff, reduceIte, Nat.reduceAdd, Nat.reduceLeDiff, Nat.reduceLT, Nat.reduceSub]
  refine Callee.plain (Callable.of told263) (directWin_spec (2 * i) a.length hN _) ?_
  rintro _ _ ⟨rfl, rfl⟩
  simp -implicitDefEqProofs only [leafA, innerA, nodeA, patchA, Leaf.cells, Inner.cells, Node.cells, decide_true, decide_false, w1, List.length_map, go_sem, Nat.reduceEqDiff, reduceIte, Nat.reduceAdd, Nat.reduceLeDiff, Nat.reduceLT, Nat.reduceSub]
  have hul := ups_len (2 * i) a.length
  have eL : ((ups (2 * i) a.length).take (ups (2 * i) a.length).length).drop 1 ++ [2 * i] = directI (2 * i) a.length ++ [2 * i] := by rw [List.take_length, List.drop_one]; rfl
  refine SRun.appLo (id := 1) (ver := 0) (lo := 1) (hi := (ups (2 * i) a.length).length) (xs := ups (2 * i) a.length) (ks := [2 * i]) rfl rfl (by simp only [go_sem, Nat.reduceEqDiff, reduceIte, Nat.reduceAdd, Nat.reduceLeDiff, Nat.reduceLT, Nat.reduceSub]) rfl rfl (by simp) (by decide) (by rw [ups_step hN]; simp) (Nat.le_refl _) (by unfold maxRow; simp; omega) ?_
  rw [eL]
  obtain ⟨L, hL⟩ : ∃ L, directI (2 * i) a.length ++ [2 * i] = L := ⟨_, rfl⟩
  have hLi : ∀ p ∈ L, IsN p a.length := by
    intro p hp
    rw [← hL] at hp
    rcases List.mem_append.1 hp with hp | hp
    · exact ups_is (List.mem_of_mem_tail hp)
    · rw [List.mem_singleton.1 hp]; exact hN
  have hLl : L.length ≤ 10 := by rw [← hL, List.length_append]; unfold directI; simp; omega
  rw [hL]
  refine runW_sound (T := []) ?_
  simp -implicitDefEqProofs only [leafA, innerA, nodeA, patchA, Leaf.cells, Inner.cells, Node.cells, decide_true, decide_false, List.set_cons_succ, List.set_cons_zero, go_sem, Nat.reduceEqDiff, reduceIte, Nat.reduceAdd, Nat.reduceLeDiff, Nat.reduceLT, Nat.reduceSub]
  refine hK2 _ ?_
  clear hK2 K2
  refine WP.weakL [(0, .own 0 0 0 a.length), (27, ints L), (28, .int .i64 L.length), (29, .int .i64 0)] ?_ ?_
  · simp only [envL_cons, Nat.reduceEqDiff, reduceIte, List.mem_cons, List.not_mem_nil, or_false, forall_eq_or_imp, forall_eq, weak_refl, and_self]
  refine wpc_soundR [] ?_
  simp -implicitDefEqProofs only [leafA, innerA, nodeA, patchA, Leaf.cells, Inner.cells, Node.cells, decide_true, decide_false, go_sem, Nat.reduceEqDiff, reduceIte, Nat.reduceAdd, Nat.reduceLeDiff, Nat.reduceLT, Nat.reduceSub]
  refine WP.loopG (fun k => k ≤ L.length) (fun k => [(0, .own 0 0 0 a.length), (27, ints L), (28, .int .i64 L.length), (29, .int .i64 (k : Nat))]) (fun k => [.arr 8 0 (rowZ (a.map nodeA) (L.take k)), .dead, .arr 1 0 [.int .i64 (2 * i)]]) (fun k => L.length - k) 0 (Nat.zero_le _)
    (fun k _ => ⟨by simp, by simp , fun e he => by
      simp only [List.mem_cons, List.not_mem_nil, or_false] at he
      rcases he with rfl | rfl | rfl
      · exact entB_rowZ _ _ _
      · trivial
      · exact encI64.entB _ 0 1 [2 * i]⟩) (by simp [rowZ]) ?_
  intro k hk
  refine wpc_soundR [] ?_
  by_cases hlt : (k : Int) < (L.length : Nat)
  · have hk' : k < L.length := by omega
    have hN' := hLi _ (List.getElem_mem hk')
    obtain ⟨p, hp⟩ : ∃ p : Nat, L[k] = p := ⟨L[k].toNat, by have := hN'.2; omega⟩
    rw [hp] at hN'
    have hpa : p < a.length := by have := hN'.2; omega
    have ixp : ∀ e1 e2 : Entry, evIndex [.arr 8 0 (rowZ (a.map nodeA) (L.take k)), e1, e2] 8 (.own 0 0 0 a.length) (.int .i64 (p : Int)) = some (.eptr 0 0 p 0) := fun _ _ => ix_rowZ rfl (by rw [rowZ_len]; simpa using hpa) (by rw [rowZ_len]; simp)
    have stp : ∀ e1 e2 : Entry, evStore [.arr 8 0 (rowZ (a.map nodeA) (L.take k)), e1, e2] 8 (.eptr 0 0 p 0) (.agg [.int .i64 0, .list true [], .list true [], .int .i64 0, .list true [], .list true [], .list true [], .list true []]) =
        some [.arr 8 0 (rowZ (a.map nodeA) (L.take (k + 1))), e1, e2] := fun e1 e2 => by
      have := st_rowZ (H := [.arr 8 0 (rowZ (a.map nodeA) (L.take k)), e1, e2]) (id := 0) (ver := 0) (p := p) rfl hpa
      rw [rowZ_snoc _ _ hk', hp]
      exact this
    simp -implicitDefEqProofs only [leafA, innerA, nodeA, patchA, Leaf.cells, Inner.cells, Node.cells, decide_true, decide_false, hlt, fun H => index_ints H L k hk', hp, ixp, stp, go_sem, Nat.reduceEqDiff, reduceIte, Nat.reduceAdd, Nat.reduceLeDiff, Nat.reduceLT, Nat.reduceSub]
    exact ⟨k + 1, hk', by omega, by simp [wrapS (show k < 9223372036854775807 by omega)]⟩
  · have e : k = L.length := by omega
    subst e
    rw [List.take_length]
    simp -implicitDefEqProofs only [leafA, innerA, nodeA, patchA, Leaf.cells, Inner.cells, Node.cells, decide_true, decide_false, hlt, go_sem, Nat.reduceEqDiff, reduceIte, Nat.reduceAdd, Nat.reduceLeDiff, Nat.reduceLT, Nat.reduceSub]
    refine hK _ (wpc_soundR [] ?_)
    simp -implicitDefEqProofs only [leafA, innerA, nodeA, patchA, Leaf.cells, Inner.cells, Node.cells, decide_true, decide_false, go_sem, Nat.reduceEqDiff, reduceIte, Nat.reduceAdd, Nat.reduceLeDiff, Nat.reduceLT, Nat.reduceSub]
    rw [hL]
    exact canon_rowZ rfl rfl
noncomputable def r254 : Reg seat := .of told254 (ask2 (fun a0' a1' => isNs a0' ∧ isI a1' ∧ Tree.Ok (dNs a0')) fun a0' a1' => .fn (.tup [nodes (clearT (dNs a0') (dI a1')).1, .int .i64 (clearT (dNs a0') (dI a1')).2])) (ask2_ok fun a0' a1' h => SaidOk.fn (Fun.weak (.cons (isNs.weak h.1) (.cons (isI.weak h.2.1) .nil)) (clear_spec _ _ h.2.2)))
theorem r254_c : r254.c = 254 := rfl
open Classical in
theorem r254_ask (a0' a1' : AV) : r254.ask [a0', a1'] = if isNs a0' ∧ isI a1' ∧ Tree.Ok (dNs a0') then some (Said.fn (.tup [nodes (clearT (dNs a0') (dI a1')).1, .int .i64 (clearT (dNs a0') (dI a1')).2])) else none := by unfold r254 Reg.of ask2; exact ite_cl
end Go.Proofs.YtihhinbjhiankaaGreatDoor.Al

set_option linter.unusedSimpArgs false
set_option linter.unusedVariables false
namespace Go.Proofs.YtihhinbjhiankaaGreatDoor.Al
open Go
variable {S : Seat} {m m0 : List ME} {I I0 X X0 : Nat → Prop} {w w0 : World} {H : List Entry}

def findIC : IC → Nat → Option IC
  | .seq a b, l => (match findIC a l with
    | some r => some (.seq r b)
    | none => findIC b l)
  | .label k, l => if k == l then some .skip else none
  | _, _ => none
theorem findIC_sound {N : Nat} : ∀ {c : Code} {ic : IC} (l : Nat), trCode S N c = some ic → (∀ r, findIC ic l = some r → ∃ rest, findLabel c l = some rest ∧ trCode S N rest = some r) ∧ (findIC ic l = none → findLabel c l = none) := by
  intro c
  induction c with
  | seq a b iha ihb =>
    intro ic l h
    simp only [trCode] at h
    split at h
    · rename_i a' b' ha hb
      cases h
      obtain ⟨i1, i2⟩ := iha l ha
      obtain ⟨j1, j2⟩ := ihb l hb
      simp only [findIC, findLabel]
      cases hf : findIC a' l with
      | some r =>
        obtain ⟨rest, h1, h2⟩ := i1 r hf
        refine ⟨fun r' hr => ?_, fun h => by simp at h⟩
        simp only [Option.some.injEq] at hr; subst hr
        exact ⟨.seq rest b, by rw [h1], by simp only [trCode, h2, hb]⟩
      | none =>
        rw [i2 hf]
        exact ⟨j1, j2⟩
    · cases h
  | label k =>
    intro ic l h
    simp only [trCode] at h; cases h
    simp only [findIC, findLabel]
    by_cases e : (k == l) = true
    · rw [if_pos e, if_pos e]
      exact ⟨fun r hr => by cases hr; exact ⟨.skip, rfl, rfl⟩, fun h => by cases h⟩
    · rw [if_neg e, if_neg e]
      exact ⟨fun r hr => (by cases hr), fun _ => rfl⟩
  | _ =>
    intro ic l h
    simp only [trCode] at h
    refine ⟨fun r hr => ?_, fun _ => rfl⟩
    exfalso
    first
      | (cases h; cases hr; done)
      | (obtain ⟨y, _, rfl⟩ := Option.map_eq_some_iff.1 h; cases hr; done)
      | (repeat' split at h
         all_goals first | (cases h; done) | (cases h; cases hr; done))

def jumpQ (l : Nat) (K : St → Prop) (Q : Exit → St → Prop) : Exit → St → Prop
  | .goto l', st => l' = l ∧ K st
  | e, st => Q e st

theorem WP.scope {N b : Nat} {Q : Exit → St → Prop} {st : St} {x rest : IC} (l : Nat) (hf : findIC x l = some rest) (Inv : Nat → St → Prop) (first : WP S none N b x (jumpQ l (fun st' => ∃ k, Inv k st') Q) st)
    (pass : ∀ n st, Inv n st → WP S none N b rest (jumpQ l (fun st' => ∃ k, k < n ∧ Inv k st') Q) st) : WP S none N b (.scope x) Q st := by
  intro c hc m0 I0 X0 w0 m I X w a hb0 hfr0 hs hfr
  cases c <;> simp only [trCode] at hc <;> (try (cases hc; done)) <;> (try ((repeat' split at hc) <;> cases hc; done)) <;> obtain ⟨y, h1, hy⟩ := Option.map_eq_some_iff.1 hc <;> (try (cases hy; done))
  cases hy
  rename_i c
  obtain ⟨crest, hl1, hl2⟩ := (findIC_sound l h1).1 rest hf
  let At : Act → World → Nat → Prop := fun a w n => ∃ st m I X, Inv n st ∧ From m0 I0 X0 w0 m I X w ∧ Sim S m I X w st.H ∧ Fr S m I X w w0.heap.size N st.env a
  let μ : Act → World → Nat := fun a w => by
    classical exact if h : ∃ n, At a w n then Classical.choose (exists_least h) else 0
  have hμ : ∀ a w, (∃ n, At a w n) → At a w (μ a w) ∧ ∀ k, k < μ a w → ¬ At a w k := by
    intro a w hex
    have e : μ a w = Classical.choose (exists_least hex) := by simp only [μ]; rw [dif_pos hex]
    rw [e]; exact Classical.choose_spec (exists_least hex)
  refine wpIn_wide.2 (wp_scope_jumps l (fun a w => ∃ n, At a w n) μ hl1 (wpIn_wide.1 (wpIn_mono (first c h1 m0 I0 X0 w0 m I X w a hb0 hfr0 hs hfr) ?_)) ?_)
  · rintro e a2 w2 ⟨st2, m2, I2, X2, hq, hc2, hf2, hs2, hfr2⟩
    cases e with
    | goto l' =>
      obtain ⟨rfl, k, hi⟩ := hq
      exact ⟨rfl, k, st2, m2, I2, X2, hi, hf2, hs2, hfr2⟩
    | _ => exact ⟨st2, m2, I2, X2, hq, hc2, hf2, hs2, hfr2⟩
  · intro a1 w1 hex
    obtain ⟨⟨st1, m1, I1, X1, hi1, hf1, hs1, hfr1⟩, hleast⟩ := hμ a1 w1 hex
    refine wpIn_wide.1 (wpIn_mono (pass _ st1 hi1 _ hl2 m0 I0 X0 w0 m1 I1 X1 w1 a1 hb0 hf1 hs1 hfr1) ?_)
    rintro e a2 w2 ⟨st2, m2, I2, X2, hq, hc2, hf2, hs2, hfr2⟩
    cases e with
    | goto l' =>
      obtain ⟨rfl, k, hk, hi⟩ := hq
      have hat : At a2 w2 k := ⟨st2, m2, I2, X2, hi, hf2, hs2, hfr2⟩
      refine ⟨rfl, ⟨k, hat⟩, ?_⟩
      obtain ⟨_, hl⟩ := hμ a2 w2 ⟨k, hat⟩
      have : ¬ k < μ a2 w2 := fun hlt => hl k hlt hat
      omega
    | _ => exact ⟨st2, m2, I2, X2, hq, hc2, hf2, hs2, hfr2⟩

/-- A scope's passes, their states told by slots and a heap. -/
theorem WP.scopeG {N b : Nat} {Q : Exit → St → Prop} {st : St} {x rest : IC} {α : Type} (l : Nat) (hf : findIC x l = some rest) (P : α → Prop) (L : α → List (Nat × AV)) (G : α → List Entry) (μ : α → Nat)
    (hc : ∀ a, P a → b ≤ (G a).length ∧ (∀ p ∈ L a, Idb (G a).length p.2) ∧ ∀ e ∈ G a, EntB (G a).length e)
    (first : WP S none N b x (jumpQ l (fun st' => ∃ a, P a ∧ (∀ p ∈ L a, st'.env p.1 = p.2) ∧ st'.H.take (G a).length = G a) Q) st)
    (pass : ∀ a, P a → WP S none N b rest (jumpQ l (fun st' => ∃ a', P a' ∧ μ a' < μ a ∧ (∀ p ∈ L a', st'.env p.1 = p.2) ∧ st'.H.take (G a').length = G a') Q) ⟨envL (L a), G a⟩) : WP S none N b (.scope x) Q st := by
  refine WP.scope l hf (fun n st => ∃ a, μ a = n ∧ P a ∧ Fits ⟨envL (L a), G a⟩ st) (WP.mono first ?_) ?_
  · intro e st' hq
    cases e with
    | goto l' =>
      obtain ⟨rfl, a, h1, h2, h3⟩ := hq
      obtain ⟨c1, c2, c3⟩ := hc a h1
      exact ⟨rfl, _, a, rfl, h1, Fits.of h2 c2 h3 fun id e he => c3 e (List.mem_of_getElem? he)⟩
    | _ => exact hq
  · rintro n st ⟨a, rfl, hp, hft⟩
    refine WP.fits hft (hc a hp).1 (WP.mono (pass a hp) ?_)
    intro e st' hq
    cases e with
    | goto l' =>
      obtain ⟨rfl, a', h1, h2, h3, h4⟩ := hq
      obtain ⟨c1, c2, c3⟩ := hc a' h1
      exact ⟨rfl, _, h2, a', rfl, h1, Fits.of h3 c2 h4 fun id e he => c3 e (List.mem_of_getElem? he)⟩
    | _ => exact hq
theorem jumpQ_goto {l l' : Nat} {K : St → Prop} {Q : Exit → St → Prop} {st : St} : jumpQ l K Q (.goto l') st = (l' = l ∧ K st) := rfl
theorem jumpQ_ret {l : Nat} {K : St → Prop} {Q : Exit → St → Prop} {st : St} : jumpQ l K Q .ret st = Q .ret st := rfl
end Go.Proofs.YtihhinbjhiankaaGreatDoor.Al

namespace Go.Proofs.YtihhinbjhiankaaGreatDoor.Al
open Go

def il322 : IFn := ⟨71, [(.t 4), (.t 5), (.t 6)], (.seq (.region [⟨(some 3), (.box (.t 1)), none, []⟩, ⟨(some 4), (.mv (.c (.list true []))), none, []⟩, ⟨(some 5), (.mv (.c (.int .i64 0))), none, [1]⟩, ⟨(some 6), (.mv (.c (.int .i64 0))), none, [2]⟩] false) (.seq (.region [⟨(some 13), (.mv (.t 0)), none, []⟩, ⟨(some 14), (.call (.f 337) [(.t 13)]), none, [0]⟩, ⟨(some 0), (.mv (.t 14)), none, [1, 1, 0, 1]⟩] false) (.seq (.seq (.region [⟨(some 15), (.load true 4 (.t 3)), none, []⟩, ⟨(some 16), (.call (.f 338) [(.t 15), (.c (.int .i64 1))]), none, [0]⟩, ⟨(some 7), (.mv (.t 16)), none, [1, 1, 0, 1]⟩] false) (.seq (.region [⟨(some 17), (.mv (.t 7)), none, []⟩, ⟨(some 18), (.bin false .neq (.t 17) (.c (.int .i64 0))), none, [0]⟩] false) (.cond (.t 18) (.seq (.region [⟨(some 19), (.mv (.t 7)), none, []⟩, ⟨(some 4), (.mv (.c (.list true []))), none, []⟩, ⟨(some 5), (.mv (.c (.int .i64 (-1)))), none, [1, 1]⟩, ⟨(some 6), (.mv (.t 19)), none, [0, 2, 0, 1, 2]⟩] false) .ret) .skip))) (.seq (.region [⟨(some 20), (.mv (.t 0)), none, []⟩, ⟨(some 21), (.call (.f 102) [(.t 20)]), none, [0]⟩, ⟨(some 8), (.mv (.t 21)), none, [1, 1, 0, 1]⟩] false) (.seq (.seq (.region [⟨(some 22), (.mv (.t 8)), none, []⟩, ⟨(some 23), (.bin false .eql (.t 22) (.c (.int .i64 (-1)))), none, [0]⟩] false) (.cond (.t 23) (.seq (.region [⟨(some 25), (.mv (.t 0)), none, []⟩, ⟨(some 26), (.call (.f 107) [(.t 25)]), none, [0]⟩, ⟨(some 24), (.mv (.t 26)), none, [1]⟩, ⟨(some 27), (.extract (.t 24) 0), none, [2]⟩, ⟨(some 28), (.extract (.t 24) 1), none, [2]⟩, ⟨(some 9), (.mv (.t 27)), none, [3, 1, 0, 1, 2, 3]⟩, ⟨(some 10), (.mv (.t 28)), none, [4, 5, 0, 1, 2, 3, 4, 5]⟩] false) (.seq (.seq (.region [⟨(some 29), (.mv (.t 10)), none, []⟩, ⟨(some 30), (.bin false .neq (.t 29) (.c (.int .i64 0))), none, [0]⟩] false) (.cond (.t 30) (.seq (.region [⟨(some 31), (.mv (.t 10)), none, []⟩, ⟨(some 4), (.mv (.c (.list true []))), none, []⟩, ⟨(some 5), (.mv (.c (.int .i64 (-1)))), none, [1, 1]⟩, ⟨(some 6), (.mv (.t 31)), none, [0, 2, 0, 1, 2]⟩] false) .ret) .skip)) (.region [⟨(some 32), (.mv (.t 9)), none, []⟩, ⟨(some 33), (.mv (.t 9)), none, []⟩, ⟨(some 34), (.call (.f 102) [(.t 33)]), none, [1]⟩, ⟨(some 0), (.mv (.t 32)), none, [0, 2, 0]⟩, ⟨(some 8), (.mv (.t 34)), none, [2, 3, 0, 1, 2, 3]⟩] false))) .skip)) (.seq (.region [⟨(some 35), (.mv (.t 0)), none, []⟩, ⟨(some 36), (.mv (.t 8)), none, []⟩, ⟨(some 37), (.load true 4 (.t 3)), none, []⟩, ⟨(some 38), (.call (.f 339) [(.t 35), (.t 36), (.t 37)]), none, [0, 1, 2]⟩, ⟨(some 0), (.mv (.t 38)), none, [3, 3, 0, 1, 2, 3]⟩] false) (.seq (.seq (.region [⟨(some 39), (.mv (.t 8)), none, []⟩, ⟨(some 40), (.bin false .mul (.c (.int .i64 2)) (.t 39)), none, [0]⟩, ⟨(some 41), (.mv (.t 0)), none, []⟩, ⟨(some 42), (.len (.t 41)), none, [2]⟩, ⟨(some 43), (.call (.f 263) [(.t 40), (.t 42)]), none, [1, 3]⟩, ⟨(some 44), (.len (.t 43)), none, [4]⟩, ⟨(some 45), (.mv (.c (.int .i64 0))), none, []⟩] false) (.block 0 (.loop (.seq (.region [⟨(some 46), (.bin false .lss (.t 45) (.t 44)), none, []⟩] false) (.seq (.cond (.t 46) .skip (.exit 0)) (.seq (.block 1 (.seq (.region [⟨(some 47), (.iaddr 1 (.t 43) (.t 45)), none, []⟩, ⟨(some 48), (.load false 1 (.t 47)), none, [0]⟩, ⟨(some 12), (.mv (.t 48)), none, [1, 0, 1]⟩] false) (.seq (.region [⟨(some 49), (.mv (.t 0)), none, []⟩, ⟨(some 50), (.mv (.t 12)), none, []⟩, ⟨(some 51), (.iaddr 8 (.t 49) (.t 50)), none, [0, 1]⟩, ⟨(some 52), (.faddr 0 (.t 51)), none, [2]⟩, ⟨(some 53), (.load false 1 (.t 52)), none, [3]⟩, ⟨(some 54), (.bin false .eql (.t 53) (.c (.int .i64 2))), none, [4]⟩] false) (.cond (.t 54) (.region [⟨(some 55), (.mv (.t 0)), none, []⟩, ⟨(some 56), (.mv (.t 12)), none, []⟩, ⟨(some 57), (.mv (.t 0)), none, []⟩, ⟨(some 58), (.mv (.t 12)), none, []⟩, ⟨(some 59), (.iaddr 8 (.t 57) (.t 58)), none, [2, 3]⟩, ⟨(some 60), (.faddr 5 (.t 59)), none, [4]⟩, ⟨(some 61), (.faddr 2 (.t 60)), none, [5]⟩, ⟨(some 62), (.load false 1 (.t 61)), none, [6]⟩, ⟨(some 63), (.mv (.t 8)), none, []⟩, ⟨(some 64), (.call (.f 185) [(.t 62), (.t 63)]), none, [7, 8]⟩, ⟨(some 65), (.iaddr 8 (.t 55) (.t 56)), none, [0, 1, 0, 1, 2, 3, 4, 5, 6, 7, 8, 9]⟩, ⟨(some 66), (.faddr 5 (.t 65)), none, [10, 0, 1, 2, 3, 4, 5, 6, 7, 8, 9]⟩, ⟨(some 67), (.faddr 2 (.t 66)), none, [11, 0, 1, 2, 3, 4, 5, 6, 7, 8, 9]⟩, ⟨none, (.store 1 (.t 67) (.t 64)), none, [12, 9, 9, 0, 1, 2, 3, 4, 5, 6, 7, 8, 9]⟩] false) .skip)))) (.region [⟨(some 68), (.bin false .add (.t 45) (.c (.int .i64 1))), none, []⟩, ⟨(some 45), (.mv (.t 68)), none, [0]⟩] false))))))) (.seq (.region [⟨(some 69), (.mv (.t 0)), none, []⟩, ⟨(some 70), (.mv (.t 8)), none, []⟩, ⟨(some 4), (.mv (.t 69)), none, [0, 0]⟩, ⟨(some 5), (.mv (.t 70)), none, [1, 2, 0, 1, 2]⟩, ⟨(some 6), (.mv (.c (.int .i64 0))), none, [3, 0, 1, 2, 3]⟩] false) .ret))))))))⟩
theorem told322 : trFn seat 322 = some il322 := by kernel_rfl

def il323 : IFn := ⟨16, [(.t 4), (.t 5)], (.seq (.region [⟨(some 3), (.box (.t 1)), none, []⟩, ⟨(some 4), (.mv (.c (.list true []))), none, []⟩, ⟨(some 5), (.mv (.c (.int .i64 0))), none, [1]⟩] false) (.seq (.region [⟨(some 7), (.mkfunc 340 [] [(.t 3)]), none, []⟩, ⟨(some 8), (.build [(.int .i64 0), .nilfunc] [(1, (1, (.t 7)))]), none, [0]⟩, ⟨(some 6), (.alloc [(.int .i64 0), .nilfunc]), none, []⟩, ⟨none, (.store 2 (.t 6) (.t 8)), none, [2, 1, 0, 1, 2]⟩] false) (.seq (.region [⟨(some 9), (.load true 2 (.t 6)), none, []⟩, ⟨(some 10), (.mv (.t 0)), none, []⟩, ⟨(some 11), (.load false 1 (.t 3)), none, []⟩, ⟨(some 12), (.build [(.list true []), (.list true []), (.int .i64 0), (.list true [])] []), none, []⟩, ⟨(some 13), (.call (.f 341) [(.t 9), (.t 10), (.t 11), (.t 12)]), none, [0, 1, 2, 3]⟩, ⟨(some 14), (.extract (.t 13) 0), none, [4]⟩, ⟨(some 15), (.extract (.t 13) 1), none, [4]⟩, ⟨(some 4), (.mv (.t 14)), none, [5, 4, 0, 1, 2, 3, 4, 5, 6]⟩, ⟨(some 5), (.mv (.t 15)), none, [6, 7, 0, 1, 2, 3, 4, 5, 6, 7]⟩] false) .ret)))⟩
theorem told323 : trFn seat 323 = some il323 := by kernel_rfl

def il324 : IFn := ⟨18, [(.t 6), (.t 7)], (.seq (.region [⟨(some 4), (.box (.t 1)), none, []⟩, ⟨(some 5), (.box (.t 2)), none, []⟩, ⟨(some 6), (.mv (.c (.list true []))), none, []⟩, ⟨(some 7), (.mv (.c (.int .i64 0))), none, [2]⟩] false) (.seq (.region [⟨(some 9), (.mkfunc 342 [] [(.t 4)]), none, []⟩, ⟨(some 10), (.build [(.int .i64 0), .nilfunc] [(0, (1, (.c (.int .i64 2)))), (1, (1, (.t 9)))]), none, [0]⟩, ⟨(some 8), (.alloc [(.int .i64 0), .nilfunc]), none, []⟩, ⟨none, (.store 2 (.t 8) (.t 10)), none, [2, 1, 0, 1, 2]⟩] false) (.seq (.region [⟨(some 11), (.load true 2 (.t 8)), none, []⟩, ⟨(some 12), (.mv (.t 0)), none, []⟩, ⟨(some 13), (.load false 1 (.t 4)), none, []⟩, ⟨(some 14), (.load true 4 (.t 5)), none, []⟩, ⟨(some 15), (.call (.f 341) [(.t 11), (.t 12), (.t 13), (.t 14)]), none, [0, 1, 2, 3]⟩, ⟨(some 16), (.extract (.t 15) 0), none, [4]⟩, ⟨(some 17), (.extract (.t 15) 1), none, [4]⟩, ⟨(some 6), (.mv (.t 16)), none, [5, 4, 0, 1, 2, 3, 4, 5, 6]⟩, ⟨(some 7), (.mv (.t 17)), none, [6, 7, 0, 1, 2, 3, 4, 5, 6, 7]⟩] false) .ret)))⟩
theorem told324 : trFn seat 324 = some il324 := by kernel_rfl

def il334 : IFn := ⟨102, [(.t 0)], (.seq (.region [⟨(some 0), (.mv (.c (.bool false))), none, []⟩] false) (.seq (.region [⟨(some 18), (.call (.f 335) [(.c (.int .i64 1)), (.c (.int .i64 1))]), none, []⟩, ⟨(some 19), (.call (.f 322) [(.c (.list true [])), (.t 18)]), none, [0, 0]⟩, ⟨(some 17), (.mv (.t 19)), none, [1]⟩, ⟨(some 20), (.extract (.t 17) 0), none, [2]⟩, ⟨(some 21), (.extract (.t 17) 1), none, [2]⟩, ⟨(some 22), (.extract (.t 17) 2), none, [2]⟩, ⟨(some 1), (.mv (.t 20)), none, [3, 1, 0, 1, 2, 3]⟩, ⟨(some 2), (.mv (.t 21)), none, [4, 6, 0, 1, 2, 3, 4, 6]⟩, ⟨(some 3), (.mv (.t 22)), none, [5, 7, 0, 1, 2, 3, 4, 5, 6, 7]⟩] false) (.seq (.region [⟨(some 24), (.mv (.t 1)), none, []⟩, ⟨(some 25), (.call (.f 335) [(.c (.int .i64 2)), (.c (.int .i64 1))]), none, []⟩, ⟨(some 26), (.call (.f 322) [(.t 24), (.t 25)]), none, [0, 1, 1]⟩, ⟨(some 23), (.mv (.t 26)), none, [2]⟩, ⟨(some 27), (.extract (.t 23) 0), none, [3]⟩, ⟨(some 28), (.extract (.t 23) 1), none, [3]⟩, ⟨(some 29), (.extract (.t 23) 2), none, [3]⟩, ⟨(some 4), (.mv (.t 27)), none, [4, 2, 0, 1, 2, 3, 4]⟩, ⟨(some 5), (.mv (.t 28)), none, [5, 7, 0, 1, 2, 3, 4, 5, 7]⟩, ⟨(some 6), (.mv (.t 29)), none, [6, 8, 0, 1, 2, 3, 4, 5, 6, 7, 8]⟩] false) (.seq (.region [⟨(some 31), (.mv (.t 4)), none, []⟩, ⟨(some 32), (.call (.f 335) [(.c (.int .i64 3)), (.c (.int .i64 1))]), none, []⟩, ⟨(some 33), (.call (.f 322) [(.t 31), (.t 32)]), none, [0, 1, 1]⟩, ⟨(some 30), (.mv (.t 33)), none, [2]⟩, ⟨(some 34), (.extract (.t 30) 0), none, [3]⟩, ⟨(some 35), (.extract (.t 30) 1), none, [3]⟩, ⟨(some 36), (.extract (.t 30) 2), none, [3]⟩, ⟨(some 7), (.mv (.t 34)), none, [4, 2, 0, 1, 2, 3, 4]⟩, ⟨(some 8), (.mv (.t 35)), none, [5, 7, 0, 1, 2, 3, 4, 5, 7]⟩, ⟨(some 9), (.mv (.t 36)), none, [6, 8, 0, 1, 2, 3, 4, 5, 6, 7, 8]⟩] false) (.seq (.region [⟨(some 38), (.mv (.t 7)), none, []⟩, ⟨(some 39), (.call (.f 323) [(.t 38), (.c (.int .i64 1))]), none, [0]⟩, ⟨(some 37), (.mv (.t 39)), none, [1]⟩, ⟨(some 40), (.extract (.t 37) 0), none, [2]⟩, ⟨(some 41), (.extract (.t 37) 1), none, [2]⟩, ⟨(some 10), (.mv (.t 40)), none, [3, 1, 0, 1, 2, 3]⟩, ⟨(some 11), (.mv (.t 41)), none, [4, 5, 0, 1, 2, 3, 4, 5]⟩] false) (.seq (.region [⟨(some 43), (.mv (.t 10)), none, []⟩, ⟨(some 44), (.call (.f 335) [(.c (.int .i64 4)), (.c (.int .i64 1))]), none, []⟩, ⟨(some 45), (.call (.f 322) [(.t 43), (.t 44)]), none, [0, 1, 1]⟩, ⟨(some 42), (.mv (.t 45)), none, [2]⟩, ⟨(some 46), (.extract (.t 42) 0), none, [3]⟩, ⟨(some 47), (.extract (.t 42) 1), none, [3]⟩, ⟨(some 48), (.extract (.t 42) 2), none, [3]⟩, ⟨(some 12), (.mv (.t 46)), none, [4, 2, 0, 1, 2, 3, 4]⟩, ⟨(some 13), (.mv (.t 47)), none, [5, 7, 0, 1, 2, 3, 4, 5, 7]⟩, ⟨(some 14), (.mv (.t 48)), none, [6, 8, 0, 1, 2, 3, 4, 5, 6, 7, 8]⟩] false) (.seq (.region [⟨(some 50), (.mv (.t 12)), none, []⟩, ⟨(some 51), (.call (.f 335) [(.c (.int .i64 5)), (.c (.int .i64 2))]), none, []⟩, ⟨(some 52), (.call (.f 324) [(.t 50), (.c (.int .i64 9)), (.t 51)]), none, [0, 1, 1]⟩, ⟨(some 49), (.mv (.t 52)), none, [2]⟩, ⟨(some 53), (.extract (.t 49) 0), none, [3]⟩, ⟨(some 54), (.extract (.t 49) 1), none, [3]⟩, ⟨(some 15), (.mv (.t 53)), none, [4, 2, 0, 1, 2, 3, 4]⟩, ⟨(some 16), (.mv (.t 54)), none, [5, 6, 0, 1, 2, 3, 4, 5, 6]⟩] false) (.seq (.region [⟨(some 55), (.mv (.t 2)), none, []⟩, ⟨(some 56), (.bin false .eql (.t 55) (.c (.int .i64 0))), none, [0]⟩, ⟨(some 57), (.mv (.t 56)), none, [1]⟩, ⟨(some 58), (.mv (.t 5)), (some (57, true)), [2]⟩, ⟨(some 59), (.bin false .eql (.t 58) (.c (.int .i64 1))), (some (57, true)), [3, 2]⟩, ⟨(some 60), (.pick (.t 57) (.t 59) (.c (.bool false))), none, [2, 4]⟩, ⟨(some 61), (.mv (.t 60)), none, [5, 2]⟩, ⟨(some 62), (.mv (.t 8)), (some (61, true)), [6]⟩, ⟨(some 63), (.bin false .eql (.t 62) (.c (.int .i64 2))), (some (61, true)), [7, 6]⟩, ⟨(some 64), (.pick (.t 61) (.t 63) (.c (.bool false))), none, [6, 8]⟩, ⟨(some 65), (.mv (.t 64)), none, [9, 6]⟩, ⟨(some 66), (.mv (.t 13)), (some (65, true)), [10]⟩, ⟨(some 67), (.bin false .eql (.t 66) (.c (.int .i64 1))), (some (65, true)), [11, 10]⟩, ⟨(some 68), (.pick (.t 65) (.t 67) (.c (.bool false))), none, [10, 12]⟩, ⟨(some 69), (.mv (.t 68)), none, [13, 10]⟩, ⟨(some 70), (.mv (.t 3)), (some (69, true)), [14]⟩, ⟨(some 71), (.bin false .eql (.t 70) (.c (.int .i64 0))), (some (69, true)), [15, 14]⟩, ⟨(some 72), (.pick (.t 69) (.t 71) (.c (.bool false))), none, [14, 16]⟩, ⟨(some 73), (.mv (.t 72)), none, [17, 14]⟩, ⟨(some 74), (.mv (.t 6)), (some (73, true)), [18]⟩, ⟨(some 75), (.bin false .eql (.t 74) (.c (.int .i64 0))), (some (73, true)), [19, 18]⟩, ⟨(some 76), (.pick (.t 73) (.t 75) (.c (.bool false))), none, [18, 20]⟩, ⟨(some 77), (.mv (.t 76)), none, [21, 18]⟩, ⟨(some 78), (.mv (.t 9)), (some (77, true)), [22]⟩, ⟨(some 79), (.bin false .eql (.t 78) (.c (.int .i64 0))), (some (77, true)), [23, 22]⟩, ⟨(some 80), (.pick (.t 77) (.t 79) (.c (.bool false))), none, [22, 24]⟩, ⟨(some 81), (.mv (.t 80)), none, [25, 22]⟩, ⟨(some 82), (.mv (.t 11)), (some (81, true)), [26]⟩, ⟨(some 83), (.bin false .eql (.t 82) (.c (.int .i64 0))), (some (81, true)), [27, 26]⟩, ⟨(some 84), (.pick (.t 81) (.t 83) (.c (.bool false))), none, [26, 28]⟩, ⟨(some 85), (.mv (.t 84)), none, [29, 26]⟩, ⟨(some 86), (.mv (.t 14)), (some (85, true)), [30]⟩, ⟨(some 87), (.bin false .eql (.t 86) (.c (.int .i64 0))), (some (85, true)), [31, 30]⟩, ⟨(some 88), (.pick (.t 85) (.t 87) (.c (.bool false))), none, [30, 32]⟩, ⟨(some 89), (.mv (.t 88)), none, [33, 30]⟩, ⟨(some 90), (.mv (.t 12)), (some (89, true)), [34]⟩, ⟨(some 91), (.len (.t 90)), (some (89, true)), [35, 34]⟩, ⟨(some 92), (.bin false .eql (.t 91) (.c (.int .i64 7))), (some (89, true)), [36, 34]⟩, ⟨(some 93), (.pick (.t 89) (.t 92) (.c (.bool false))), none, [34, 37]⟩, ⟨(some 94), (.mv (.t 93)), none, [38, 34]⟩, ⟨(some 95), (.mv (.t 16)), (some (94, true)), [39]⟩, ⟨(some 96), (.bin false .eql (.t 95) (.c (.int .i64 3))), (some (94, true)), [40, 39]⟩, ⟨(some 97), (.pick (.t 94) (.t 96) (.c (.bool false))), none, [39, 41]⟩, ⟨(some 98), (.mv (.t 97)), none, [42, 39]⟩, ⟨(some 99), (.mv (.t 12)), (some (98, true)), [43]⟩, ⟨(some 100), (.call (.f 349) [(.t 99)]), (some (98, true)), [44, 43, 43]⟩, ⟨(some 101), (.pick (.t 98) (.t 100) (.c (.bool false))), none, [43, 45]⟩, ⟨(some 0), (.mv (.t 101)), none, [46, 45, 0, 1, 2, 3, 4, 5, 6, 7, 8, 9, 10, 11, 12, 13, 14, 15, 16, 17, 18, 19, 20, 21, 22, 23, 24, 25, 26, 27, 28, 29, 30, 31, 32, 33, 34, 35, 36, 37, 38, 39, 40, 41, 42, 43, 44, 45, 46]⟩] false) .ret))))))))⟩
theorem told334 : trFn seat 334 = some il334 := by kernel_rfl

def il335 : IFn := ⟨12, [(.cell 4 true 4)], (.seq (.region [⟨(some 4), (.alloc [(.list true []), (.list true []), (.int .i64 0), (.list true [])]), none, []⟩] false) (.seq (.region [⟨(some 5), (.mv (.t 0)), none, []⟩, ⟨(some 6), (.bin false .and (.t 5) (.c (.int .i64 127))), none, [0]⟩, ⟨(some 7), (.bin false .add (.t 6) (.c (.int .i64 1))), none, [1]⟩, ⟨(some 8), (.convI .u8 (.t 7)), none, [2]⟩, ⟨(some 9), (.bslice 1 1 (.int .u8 0) [(0, (.t 8))]), none, [3]⟩, ⟨(some 10), (.mv (.t 1)), none, []⟩, ⟨(some 11), (.build [(.list true []), (.list true []), (.int .i64 0), (.list true [])] [(0, (1, (.t 9))), (2, (1, (.t 10)))]), none, [4, 5]⟩, ⟨none, (.store 4 (.t 4) (.t 11)), none, [6, 0, 1, 2, 3, 4, 5, 6]⟩] false) .ret))⟩
theorem told335 : trFn seat 335 = some il335 := by kernel_rfl

def il337 : IFn := ⟨6, [(.t 2)], (.seq (.region [⟨(some 2), (.mv (.c (.list true []))), none, []⟩] false) (.seq (.seq (.region [⟨(some 3), (.mv (.t 0)), none, []⟩, ⟨(some 4), (.call (.f 101) [(.t 3)]), none, [0]⟩] false) (.cond (.t 4) (.seq (.region [⟨(some 5), (.mv (.t 0)), none, []⟩, ⟨(some 2), (.mv (.t 5)), none, [0, 0]⟩] false) .ret) .skip)) (.seq (.region [⟨(some 2), (.mv (.c (.list true []))), none, []⟩] false) .ret)))⟩
theorem told337 : trFn seat 337 = some il337 := by kernel_rfl

def il338 : IFn := ⟨17, [(.t 4)], (.seq (.region [⟨(some 2), (.box (.t 0)), none, []⟩, ⟨(some 4), (.mv (.c (.int .i64 0))), none, []⟩] false) (.seq (.region [⟨(some 6), (.load true 4 (.t 2)), none, []⟩, ⟨(some 7), (.call (.f 146) [(.t 6)]), none, [0]⟩, ⟨(some 5), (.mv (.t 7)), none, [1, 1, 0, 1]⟩] false) (.seq (.seq (.region [⟨(some 8), (.mv (.t 5)), none, []⟩, ⟨(some 9), (.bin false .eql (.t 8) (.c (.int .i64 0))), none, [0]⟩, ⟨(some 10), (.mv (.t 9)), none, [1]⟩, ⟨(some 11), (.faddr 2 (.t 2)), (some (10, true)), [2]⟩, ⟨(some 12), (.load false 1 (.t 11)), (some (10, true)), [3, 2]⟩, ⟨(some 13), (.mv (.t 1)), (some (10, true)), [2]⟩, ⟨(some 14), (.bin false .neq (.t 12) (.t 13)), (some (10, true)), [4, 5, 2]⟩, ⟨(some 15), (.pick (.t 10) (.t 14) (.c (.bool false))), none, [2, 6]⟩] false) (.cond (.t 15) (.seq (.region [⟨(some 4), (.mv (.c (.int .i64 7))), none, []⟩] false) .ret) .skip)) (.seq (.region [⟨(some 16), (.mv (.t 5)), none, []⟩, ⟨(some 4), (.mv (.t 16)), none, [0, 0]⟩] false) .ret))))⟩
theorem told338 : trFn seat 338 = some il338 := by kernel_rfl

def il339 : IFn := ⟨16, [(.t 6)], (.seq (.region [⟨(some 5), (.box (.t 2)), none, []⟩, ⟨(some 6), (.mv (.c (.list true []))), none, []⟩] false) (.seq (.region [⟨(some 7), (.mv (.t 0)), none, []⟩, ⟨(some 8), (.call (.f 129) [(.t 7)]), none, [0]⟩, ⟨(some 0), (.mv (.t 8)), none, [1, 1, 0, 1]⟩] false) (.seq (.region [⟨(some 9), (.mv (.t 0)), none, []⟩, ⟨(some 10), (.mv (.t 1)), none, []⟩, ⟨(some 11), (.bin false .mul (.c (.int .i64 2)) (.t 10)), none, [1]⟩, ⟨(some 12), (.load true 4 (.t 5)), none, []⟩, ⟨(some 13), (.build [(.int .i64 0), (.list true []), (.list true []), (.int .i64 0), (.list true []), (.list true []), (.list true []), (.list true [])] [(0, (1, (.c (.int .i64 1)))), (1, (4, (.t 12)))]), none, [3]⟩, ⟨(some 14), (.iaddr 8 (.t 9) (.t 11)), none, [0, 2, 0, 1, 2, 3, 4]⟩, ⟨none, (.store 8 (.t 14) (.t 13)), none, [5, 4, 0, 1, 2, 3, 4]⟩] false) (.seq (.region [⟨(some 15), (.mv (.t 0)), none, []⟩, ⟨(some 6), (.mv (.t 15)), none, [0, 0]⟩] false) .ret))))⟩
theorem told339 : trFn seat 339 = some il339 := by kernel_rfl

def il340 : IFn := ⟨16, [(.t 3), (.t 4)], (.seq (.region [⟨(some 3), (.mv (.c (.list true []))), none, []⟩, ⟨(some 4), (.mv (.c (.int .i64 0))), none, [0]⟩] false) (.seq (.region [⟨(some 8), (.mv (.t 0)), none, []⟩, ⟨(some 9), (.load false 1 (.t 1)), none, []⟩, ⟨(some 10), (.call (.f 254) [(.t 8), (.t 9)]), none, [0, 1]⟩, ⟨(some 7), (.mv (.t 10)), none, [2]⟩, ⟨(some 11), (.extract (.t 7) 0), none, [3]⟩, ⟨(some 12), (.extract (.t 7) 1), none, [3]⟩, ⟨(some 5), (.mv (.t 11)), none, [4, 2, 0, 1, 2, 3, 4]⟩, ⟨(some 6), (.mv (.t 12)), none, [5, 6, 0, 1, 2, 3, 4, 5, 6]⟩] false) (.seq (.region [⟨(some 13), (.mv (.t 5)), none, []⟩, ⟨(some 14), (.call (.f 108) [(.t 13)]), none, [0]⟩, ⟨(some 15), (.mv (.t 6)), none, []⟩, ⟨(some 3), (.mv (.t 14)), none, [1, 1, 0, 1]⟩, ⟨(some 4), (.mv (.t 15)), none, [2, 3, 0, 1, 2, 3]⟩] false) .ret)))⟩
theorem told340 : trFn seat 340 = some il340 := by kernel_rfl

def il341 : IFn := ⟨61, [(.t 8), (.t 9)], (.seq (.region [⟨(some 4), (.box (.t 0)), none, []⟩, ⟨(some 7), (.box (.t 3)), none, []⟩, ⟨(some 8), (.mv (.c (.list true []))), none, []⟩, ⟨(some 9), (.mv (.c (.int .i64 0))), none, [2]⟩] false) (.seq (.region [⟨(some 12), (.mv (.t 1)), none, []⟩, ⟨(some 13), (.call (.f 337) [(.t 12)]), none, [0]⟩, ⟨(some 1), (.mv (.t 13)), none, [1, 1, 0, 1]⟩] false) (.seq (.block 0 (.seq (.region [⟨(some 15), (.mv (.t 2)), none, []⟩, ⟨(some 16), (.bin false .lss (.t 15) (.c (.int .i64 0))), none, [0]⟩, ⟨(some 17), (.mv (.t 16)), none, [1]⟩, ⟨(some 18), (.mv (.t 2)), (some (17, false)), [2]⟩, ⟨(some 19), (.mv (.t 1)), (some (17, false)), [2]⟩, ⟨(some 20), (.call (.f 103) [(.t 19)]), (some (17, false)), [4, 2, 2]⟩, ⟨(some 21), (.bin false .geq (.t 18) (.t 20)), (some (17, false)), [3, 5, 2]⟩, ⟨(some 22), (.pick (.t 17) (.c (.bool true)) (.t 21)), none, [2, 6]⟩, ⟨(some 14), (.mv (.t 22)), none, [7, 5]⟩] false) (.cond (.t 14) (.seq (.region [⟨(some 8), (.mv (.c (.list true []))), none, []⟩, ⟨(some 9), (.mv (.c (.int .i64 3))), none, [0, 0]⟩] false) .ret) (.seq (.region [⟨(some 24), (.mv (.t 1)), none, []⟩, ⟨(some 25), (.mv (.t 2)), none, []⟩, ⟨(some 26), (.bin false .mul (.c (.int .i64 2)) (.t 25)), none, [1]⟩, ⟨(some 27), (.iaddr 8 (.t 24) (.t 26)), none, [0, 2]⟩, ⟨(some 28), (.faddr 0 (.t 27)), none, [3]⟩, ⟨(some 29), (.load false 1 (.t 28)), none, [4]⟩, ⟨(some 30), (.bin false .eql (.t 29) (.c (.int .i64 0))), none, [5]⟩, ⟨(some 23), (.mv (.t 30)), none, [6]⟩] false) (.cond (.t 23) (.seq (.region [⟨(some 8), (.mv (.c (.list true []))), none, []⟩, ⟨(some 9), (.mv (.c (.int .i64 9))), none, [0, 0]⟩] false) .ret) .skip))))) (.seq (.seq (.region [⟨(some 31), (.faddr 0 (.t 4)), none, []⟩, ⟨(some 32), (.load false 1 (.t 31)), none, [0]⟩, ⟨(some 33), (.bin false .eql (.t 32) (.c (.int .i64 0))), none, [1]⟩] false) (.cond (.t 33) (.seq (.region [⟨(some 34), (.faddr 1 (.t 4)), none, []⟩, ⟨(some 35), (.load false 1 (.t 34)), none, [0]⟩, ⟨(some 36), (.mv (.t 1)), none, []⟩, ⟨(some 37), (.call (.t 35) [(.t 36)]), none, [1, 2]⟩, ⟨(some 38), (.extract (.t 37) 0), none, [3]⟩, ⟨(some 39), (.extract (.t 37) 1), none, [3]⟩, ⟨(some 8), (.mv (.t 38)), none, [4, 3, 0, 1, 2, 3, 4, 5]⟩, ⟨(some 9), (.mv (.t 39)), none, [5, 6, 0, 1, 2, 3, 4, 5, 6]⟩] false) .ret) .skip)) (.seq (.seq (.region [⟨(some 40), (.load true 4 (.t 7)), none, []⟩, ⟨(some 41), (.faddr 0 (.t 4)), none, []⟩, ⟨(some 42), (.load false 1 (.t 41)), none, [1]⟩, ⟨(some 43), (.call (.f 338) [(.t 40), (.t 42)]), none, [0, 2]⟩, ⟨(some 10), (.mv (.t 43)), none, [3, 3, 0, 1, 2, 3]⟩] false) (.seq (.region [⟨(some 44), (.mv (.t 10)), none, []⟩, ⟨(some 45), (.bin false .neq (.t 44) (.c (.int .i64 0))), none, [0]⟩] false) (.cond (.t 45) (.seq (.region [⟨(some 46), (.mv (.t 10)), none, []⟩, ⟨(some 8), (.mv (.c (.list true []))), none, []⟩, ⟨(some 9), (.mv (.t 46)), none, [0, 1, 0, 1]⟩] false) .ret) .skip))) (.seq (.region [⟨(some 48), (.faddr 1 (.t 4)), none, []⟩, ⟨(some 49), (.load false 1 (.t 48)), none, [0]⟩, ⟨(some 50), (.mv (.t 1)), none, []⟩, ⟨(some 51), (.call (.t 49) [(.t 50)]), none, [1, 2]⟩, ⟨(some 47), (.mv (.t 51)), none, [3]⟩, ⟨(some 52), (.extract (.t 47) 0), none, [4]⟩, ⟨(some 53), (.extract (.t 47) 1), none, [4]⟩, ⟨(some 1), (.mv (.t 52)), none, [5, 3, 0, 1, 2, 3, 4, 5]⟩, ⟨(some 11), (.mv (.t 53)), none, [6, 7, 0, 1, 2, 3, 4, 5, 6, 7]⟩] false) (.seq (.seq (.region [⟨(some 54), (.mv (.t 11)), none, []⟩, ⟨(some 55), (.bin false .neq (.t 54) (.c (.int .i64 0))), none, [0]⟩] false) (.cond (.t 55) (.seq (.region [⟨(some 56), (.mv (.t 11)), none, []⟩, ⟨(some 8), (.mv (.c (.list true []))), none, []⟩, ⟨(some 9), (.mv (.t 56)), none, [0, 1, 0, 1]⟩] false) .ret) .skip)) (.seq (.region [⟨(some 57), (.mv (.t 1)), none, []⟩, ⟨(some 58), (.mv (.t 2)), none, []⟩, ⟨(some 59), (.load true 4 (.t 7)), none, []⟩, ⟨(some 60), (.call (.f 339) [(.t 57), (.t 58), (.t 59)]), none, [0, 1, 2]⟩, ⟨(some 8), (.mv (.t 60)), none, [3, 3, 0, 1, 2, 3]⟩, ⟨(some 9), (.mv (.c (.int .i64 0))), none, [4, 0, 1, 2, 3, 4]⟩] false) .ret))))))))⟩
theorem told341 : trFn seat 341 = some il341 := by kernel_rfl

def il342 : IFn := ⟨10, [(.t 3), (.t 4)], (.seq (.region [⟨(some 3), (.mv (.c (.list true []))), none, []⟩, ⟨(some 4), (.mv (.c (.int .i64 0))), none, [0]⟩] false) (.seq (.region [⟨(some 5), (.mv (.t 0)), none, []⟩, ⟨(some 6), (.load false 1 (.t 1)), none, []⟩, ⟨(some 7), (.call (.f 254) [(.t 5), (.t 6)]), none, [0, 1]⟩, ⟨(some 8), (.extract (.t 7) 0), none, [2]⟩, ⟨(some 9), (.extract (.t 7) 1), none, [2]⟩, ⟨(some 3), (.mv (.t 8)), none, [3, 2, 0, 1, 2, 3, 4]⟩, ⟨(some 4), (.mv (.t 9)), none, [4, 5, 0, 1, 2, 3, 4, 5]⟩] false) .ret))⟩
theorem told342 : trFn seat 342 = some il342 := by kernel_rfl

def il349 : IFn := ⟨16, [(.t 2)], (.seq (.region [⟨(some 2), (.mv (.c (.bool false))), none, []⟩] false) (.seq (.region [⟨(some 4), (.mv (.t 0)), none, []⟩, ⟨(some 5), (.call (.f 354) [(.t 4)]), none, [0]⟩, ⟨(some 0), (.mv (.t 5)), none, [1, 1, 0, 1]⟩] false) (.seq (.seq (.region [⟨(some 6), (.mv (.t 0)), none, []⟩, ⟨(some 7), (.len (.t 6)), none, [0]⟩, ⟨(some 8), (.mv (.c (.int .i64 0))), none, []⟩] false) (.block 0 (.loop (.seq (.region [⟨(some 9), (.bin false .lss (.t 8) (.t 7)), none, []⟩] false) (.seq (.cond (.t 9) .skip (.exit 0)) (.seq (.block 1 (.seq (.region [⟨(some 10), (.mv (.t 8)), none, []⟩, ⟨(some 3), (.mv (.t 10)), none, [0, 0]⟩] false) (.seq (.region [⟨(some 11), (.mv (.t 0)), none, []⟩, ⟨(some 12), (.mv (.t 3)), none, []⟩, ⟨(some 13), (.call (.f 355) [(.t 11), (.t 12)]), none, [0, 1]⟩, ⟨(some 14), (.un .not (.t 13)), none, [2]⟩] false) (.cond (.t 14) (.seq (.region [⟨(some 2), (.mv (.c (.bool false))), none, []⟩] false) .ret) .skip)))) (.region [⟨(some 15), (.bin false .add (.t 8) (.c (.int .i64 1))), none, []⟩, ⟨(some 8), (.mv (.t 15)), none, [0]⟩] false))))))) (.seq (.region [⟨(some 2), (.mv (.c (.bool true))), none, []⟩] false) .ret))))⟩
theorem told349 : trFn seat 349 = some il349 := by kernel_rfl

def il354 : IFn := ⟨6, [(.t 2)], (.seq (.region [⟨(some 2), (.mv (.c (.list true []))), none, []⟩] false) (.seq (.seq (.region [⟨(some 3), (.mv (.t 0)), none, []⟩, ⟨(some 4), (.call (.f 101) [(.t 3)]), none, [0]⟩] false) (.cond (.t 4) (.seq (.region [⟨(some 5), (.mv (.t 0)), none, []⟩, ⟨(some 2), (.mv (.t 5)), none, [0, 0]⟩] false) .ret) .skip)) (.seq (.region [⟨(some 2), (.mv (.c (.list true []))), none, []⟩] false) .ret)))⟩
theorem told354 : trFn seat 354 = some il354 := by kernel_rfl

def il355 : IFn := ⟨64, [(.t 4)], (.seq (.region [⟨(some 4), (.mv (.c (.bool false))), none, []⟩] false) (.scope (.seq (.region [⟨(some 9), (.mv (.t 0)), none, []⟩, ⟨(some 10), (.call (.f 354) [(.t 9)]), none, [0]⟩, ⟨(some 0), (.mv (.t 10)), none, [1, 1, 0, 1]⟩] false) (.seq (.seq (.region [⟨(some 11), (.mv (.t 1)), none, []⟩, ⟨(some 12), (.bin false .lss (.t 11) (.c (.int .i64 0))), none, [0]⟩, ⟨(some 13), (.mv (.t 12)), none, [1]⟩, ⟨(some 14), (.mv (.t 1)), (some (13, false)), [2]⟩, ⟨(some 15), (.mv (.t 0)), (some (13, false)), [2]⟩, ⟨(some 16), (.len (.t 15)), (some (13, false)), [4, 2]⟩, ⟨(some 17), (.bin false .geq (.t 14) (.t 16)), (some (13, false)), [3, 5, 2]⟩, ⟨(some 18), (.pick (.t 13) (.c (.bool true)) (.t 17)), none, [2, 6]⟩] false) (.cond (.t 18) (.seq (.region [⟨(some 4), (.mv (.c (.bool false))), none, []⟩] false) .ret) .skip)) (.seq (.seq (.region [⟨(some 19), (.mv (.t 0)), none, []⟩, ⟨(some 20), (.mv (.t 1)), none, []⟩, ⟨(some 21), (.iaddr 8 (.t 19) (.t 20)), none, [0, 1]⟩, ⟨(some 22), (.faddr 0 (.t 21)), none, [2]⟩, ⟨(some 23), (.load false 1 (.t 22)), none, [3]⟩, ⟨(some 24), (.bin false .neq (.t 23) (.c (.int .i64 2))), none, [4]⟩] false) (.cond (.t 24) (.seq (.region [⟨(some 4), (.mv (.c (.bool true))), none, []⟩] false) .ret) .skip)) (.seq (.label 0) (.seq (.seq (.region [⟨(some 25), (.mv (.t 1)), none, []⟩, ⟨(some 26), (.mv (.t 0)), none, []⟩, ⟨(some 27), (.len (.t 26)), none, [1]⟩, ⟨(some 28), (.call (.f 259) [(.t 25), (.t 27)]), none, [0, 2]⟩, ⟨(some 29), (.mv (.t 1)), none, []⟩, ⟨(some 30), (.mv (.t 0)), none, []⟩, ⟨(some 31), (.len (.t 30)), none, [5]⟩, ⟨(some 32), (.call (.f 260) [(.t 29), (.t 31)]), none, [4, 6, 3]⟩, ⟨(some 33), (.bslice 1 2 (.int .i64 0) [(0, (.t 28)), (1, (.t 32))]), none, [3, 7]⟩, ⟨(some 34), (.len (.t 33)), none, [8]⟩, ⟨(some 35), (.mv (.c (.int .i64 0))), none, []⟩] false) (.block 0 (.loop (.seq (.region [⟨(some 36), (.bin false .lss (.t 35) (.t 34)), none, []⟩] false) (.seq (.cond (.t 36) .skip (.exit 0)) (.seq (.block 1 (.seq (.region [⟨(some 37), (.iaddr 1 (.t 33) (.t 35)), none, []⟩, ⟨(some 38), (.load false 1 (.t 37)), none, [0]⟩, ⟨(some 6), (.mv (.t 38)), none, [1, 0, 1]⟩] false) (.seq (.region [⟨(some 39), (.mv (.t 0)), none, []⟩, ⟨(some 40), (.mv (.t 6)), none, []⟩, ⟨(some 41), (.call (.f 258) [(.t 39), (.t 40)]), none, [0, 1]⟩, ⟨(some 42), (.len (.t 41)), none, [2]⟩, ⟨(some 43), (.mv (.c (.int .i64 0))), none, []⟩] false) (.block 2 (.loop (.seq (.region [⟨(some 44), (.bin false .lss (.t 43) (.t 42)), none, []⟩] false) (.seq (.cond (.t 44) .skip (.exit 2)) (.seq (.block 3 (.seq (.region [⟨(some 45), (.iaddr 1 (.t 41) (.t 43)), none, []⟩, ⟨(some 46), (.load false 1 (.t 45)), none, [0]⟩, ⟨(some 8), (.mv (.t 46)), none, [1, 0, 1]⟩] false) (.block 4 (.seq (.region [⟨(some 48), (.mv (.t 0)), none, []⟩, ⟨(some 49), (.mv (.t 1)), none, []⟩, ⟨(some 50), (.mv (.t 6)), none, []⟩, ⟨(some 51), (.mv (.t 8)), none, []⟩, ⟨(some 52), (.call (.f 360) [(.t 48), (.t 49), (.t 50), (.t 51)]), none, [0, 1, 2, 3]⟩, ⟨(some 47), (.mv (.t 52)), none, [4, 4]⟩] false) (.cond (.t 47) (.seq (.region [⟨(some 4), (.mv (.c (.bool true))), none, []⟩] false) .ret) (.seq (.region [⟨(some 54), (.mv (.t 8)), none, []⟩, ⟨(some 55), (.bin false .rem (.t 54) (.c (.int .i64 2))), none, [0]⟩, ⟨(some 56), (.bin false .eql (.t 55) (.c (.int .i64 1))), none, [1]⟩, ⟨(some 57), (.mv (.t 56)), none, [2]⟩, ⟨(some 58), (.mv (.t 8)), (some (57, true)), [3]⟩, ⟨(some 59), (.mv (.t 6)), (some (57, true)), [3]⟩, ⟨(some 60), (.bin false .eql (.t 58) (.t 59)), (some (57, true)), [4, 5, 3]⟩, ⟨(some 61), (.pick (.t 57) (.t 60) (.c (.bool false))), none, [3, 6]⟩, ⟨(some 53), (.mv (.t 61)), none, [7, 3]⟩] false) (.cond (.t 53) (.exit 1) .skip))))))) (.region [⟨(some 62), (.bin false .add (.t 43) (.c (.int .i64 1))), none, []⟩, ⟨(some 43), (.mv (.t 62)), none, [0]⟩] false))))))))) (.region [⟨(some 63), (.bin false .add (.t 35) (.c (.int .i64 1))), none, []⟩, ⟨(some 35), (.mv (.t 63)), none, [0]⟩] false))))))) (.seq (.region [⟨(some 4), (.mv (.c (.bool false))), none, []⟩] false) .ret))))))))⟩
theorem told355 : trFn seat 355 = some il355 := by kernel_rfl

end Go.Proofs.YtihhinbjhiankaaGreatDoor.Al
