/-
  JOINED: P18 S35 (tools/joint.py).
-/
import Derived.Test.YtlehcigcaihoaaaDoorAlJ2
import Derived.Test.YtlehcigcaihoaaaDoorAlP17
import Derived.Test.YtlehcigcaihoaaaDoorAlP10
import Derived.Test.YtlehcigcaihoaaaDoorAlJ3
import Derived.Test.YtlehcigcaihoaaaDoorAlJ4
import Derived.Test.YtlehcigcaihoaaaDoorAlS5
import Derived.Test.YtlehcigcaihoaaaDoorAlQ11
set_option linter.unusedSimpArgs false
set_option linter.unusedVariables false
namespace Go.Proofs.YtlehcigcaihoaaaDoor.Al
open Go

theorem besI_out {t : List Node} (hs : Sane t) {i : Int} (h : i < 0 ∨ i ≥ leaves_ t) : besI t i = [] := by
  have lv := leaves_of hs
  unfold besI
  rw [known_of hs]
  rcases hs.2 with hz | hw
  · rw [hz]
    split
    · rfl
    · have hi : i = 0 := by omega
      subst hi
      rw [co_out (fun h => by have := h.2.2; omega)]; rfl
  · have := hw.odd
    rw [if_pos (by omega)]
theorem besI_in {t : List Node} (hs : Sane t) {i : Int} (h0 : 0 ≤ i) (h1 : i < leaves_ t) : besI t i = delF (fun s => decide (resI t s = [])) (coI (2 * i) t.length) := by
  have lv := leaves_of hs
  unfold besI
  rw [known_of hs, if_neg (by omega)]
theorem leaf_is {t : List Node} (hs : Sane t) {i : Int} (h0 : 0 ≤ i) (h1 : i < leaves_ t) : IsN (2 * i) t.length := by
  have lv := leaves_of hs
  have hne : ¬ t.length = 0 := by omega
  have hw : Whole t.length := hs.2.resolve_left hne
  have := hw.odd
  exact ⟨hw, by omega, by omega⟩
theorem dir_nodup {x w : Int} (h : IsN x w) : (directI x w).Nodup := by
  have := IsN.all (p := fun y n => (directI (y : Int) (n : Int)).Nodup) (by decide +kernel) h
  rwa [h.cast.1, h.cast.2] at this
theorem sib_in {x w : Int} (h : IsN x w) : 0 ≤ parI x w → 0 ≤ sibI (sibI x w) w := by
  have := IsN.all (p := fun y n => 0 ≤ parI (y : Int) (n : Int) → 0 ≤ sibI (sibI (y : Int) (n : Int)) (n : Int)) (by decide +kernel) h
  rwa [h.cast.1, h.cast.2] at this
theorem co_sib {w s : Int} : ∀ x : Int, s ∈ coI x w → 0 ≤ sibI s w :=
  ups_ind (fun x hx h => by rw [co_out hx] at h; cases h) fun x hx ih h => by
    by_cases hp : 0 ≤ parI x w
    · rw [(co_up hp).2] at h
      rcases List.mem_cons.1 h with rfl | h
      · exact sib_in hx hp
      · exact ih h
    · rw [co_end hp] at h; cases h
/-- Where one that is kept stands. -/
theorem delF_at {p : Int → Bool} {l : List Int} {j : Nat} (hj : j < l.length) (h : p l[j] = false) : ∃ hk : (delF p (l.take j)).length < (delF p l).length, (delF p l)[(delF p (l.take j)).length] = l[j] := by
  have e : delF p l = delF p (l.take j) ++ l[j] :: delF p (l.drop (j + 1)) := by
    conv => lhs; rw [← List.take_append_drop j l, List.drop_eq_getElem_cons hj]
    unfold delF
    rw [List.filter_append, List.filter_cons_of_pos (by simp [h])]
  have hl : (delF p (l.take j)).length < (delF p l).length := by rw [e]; simp
  refine ⟨hl, ?_⟩
  have h2 : (delF p l)[(delF p (l.take j)).length]? = some l[j] := by rw [e]; simp
  rw [List.getElem?_eq_getElem hl] at h2
  exact Option.some.inj h2
/-- The greater tree: the places below are as they were. -/
theorem grow_all {p : Nat → Nat → Prop} (hp : ∀ n ∈ [1, 3, 7, 15, 31, 63], ∀ y, y < n → p y n) {x w : Int} (h : IsN x w) (hw : w ≠ 127) : p x.toNat w.toNat := by
  obtain ⟨n, hn, rfl⟩ := whole_mem h.1
  have h2 := h.2.2
  have h1 := h.2.1
  refine hp n ?_ _ (by omega)
  simp only [List.mem_cons, List.not_mem_nil, or_false] at hn ⊢
  omega
theorem up_kids {x w : Int} (h : IsN x w) (hw : w ≠ 127) : leftI x (2 * w + 1) = leftI x w ∧ rightI x (2 * w + 1) = rightI x w ∧ (0 ≤ parI x w → parI x (2 * w + 1) = parI x w) := by
  have := grow_all (p := fun y n => leftI (y : Int) (2 * (n : Int) + 1) = leftI (y : Int) (n : Int) ∧ rightI (y : Int) (2 * (n : Int) + 1) = rightI (y : Int) (n : Int) ∧ (0 ≤ parI (y : Int) (n : Int) → parI (y : Int) (2 * (n : Int) + 1) = parI (y : Int) (n : Int))) (by decide +kernel) h hw
  rwa [h.cast.1, h.cast.2] at this
theorem up_co {x w : Int} (h : IsN x w) (hw : w ≠ 127) : coI x (2 * w + 1) = coI x w ++ [w + 1 + w / 2] := by
  have := grow_all (p := fun y n => coI (y : Int) (2 * (n : Int) + 1) = coI (y : Int) (n : Int) ++ [(n : Int) + 1 + (n : Int) / 2]) (by decide +kernel) h hw
  rwa [h.cast.1, h.cast.2] at this
theorem up_root {w : Int} (h : Whole w) (hw : w ≠ 127) : leftI w (2 * w + 1) = w / 2 ∧ rightI w (2 * w + 1) = w + 1 + w / 2 := by
  rcases h with h | h | h | h | h | h | h <;> subst h <;> first | decide | exact absurd rfl hw
/-- Of the right half nothing leads out. -/
theorem right_half {x w : Int} (h : IsN x (2 * w + 1)) (hw : Whole w) (hx : w < x) : (leftI x (2 * w + 1) = -1 ∨ w < leftI x (2 * w + 1)) ∧ (rightI x (2 * w + 1) = -1 ∨ w < rightI x (2 * w + 1)) := by
  have := IsN.all (p := fun y n => (n : Int) / 2 < (y : Int) → (leftI (y : Int) (n : Int) = -1 ∨ (n : Int) / 2 < leftI (y : Int) (n : Int)) ∧ (rightI (y : Int) (n : Int) = -1 ∨ (n : Int) / 2 < rightI (y : Int) (n : Int))) (by decide +kernel) h
  rw [h.cast.1, h.cast.2, show (2 * w + 1) / 2 = w by omega] at this
  exact this hx
theorem resF_grown {t : List Node} (hw : Whole t.length) (h127 : t.length ≠ 127) : ∀ (f : Nat) (x : Int), 0 ≤ x → x < t.length → resF f (grown t) x = resF f t x := by
  intro f
  induction f with
  | zero => intro x _ _; rfl
  | succ f ih =>
    intro x h0 h1
    have gl : ((grown t).length : Int) = 2 * (t.length : Int) + 1 := by rw [grown_len]; omega
    have hN : IsN x t.length := ⟨hw, h0, h1⟩
    obtain ⟨u1, u2, _⟩ := up_kids hN (by omega)
    have sub : ∀ c, (c = -1 ∨ (0 ≤ c ∧ c < (t.length : Int))) → resF f (grown t) c = resF f t c := by
      rintro c (rfl | ⟨c0, c1⟩)
      · rw [resF_out _ (by omega), resF_out _ (by omega)]
      · exact ih c c0 c1
    obtain ⟨a, b⟩ := kids hN
    unfold resF
    rw [grown_at, gl, u1, u2, sub _ (a.imp id fun h => ⟨h.1, h.2.1⟩), sub _ (b.imp id fun h => ⟨h.1, h.2.1⟩)]
    rw [if_neg (show ¬ (x < 0 ∨ x ≥ 2 * (t.length : Int) + 1) by omega), if_neg (show ¬ (x < 0 ∨ x ≥ (t.length : Int)) by omega)]
theorem resI_grown {t : List Node} (hw : Whole t.length) (h127 : t.length ≠ 127) {x : Int} (h0 : 0 ≤ x) (h1 : x < t.length) : resI (grown t) x = resI t x := resF_grown hw h127 7 x h0 h1
theorem resF_right {t : List Node} (hw : Whole t.length) (h127 : t.length ≠ 127) : ∀ (f : Nat) (x : Int), (x = -1 ∨ (t.length : Int) < x) → resF f (grown t) x = [] := by
  intro f
  induction f with
  | zero => intro x _; rfl
  | succ f ih =>
    intro x h
    have gl : ((grown t).length : Int) = 2 * (t.length : Int) + 1 := by rw [grown_len]; omega
    unfold resF
    split
    · rfl
    · rename_i hx
      rw [gl] at hx
      rcases h with rfl | h
      · omega
      have hW : Whole (2 * (t.length : Int) + 1) := by unfold Whole at hw ⊢; omega
      obtain ⟨a, b⟩ := right_half (w := t.length) ⟨hW, by omega, by omega⟩ hw h
      rw [grown_at, nodeAt_ge (by omega), gl, ih _ a, ih _ b]
      simp [Node.zero]
theorem resI_right {t : List Node} (hw : Whole t.length) (h127 : t.length ≠ 127) {x : Int} (h : (t.length : Int) < x) : resI (grown t) x = [] := resF_right hw h127 7 x (.inr h)
theorem resI_root {t : List Node} (hw : Whole t.length) (h127 : t.length ≠ 127) : resI (grown t) t.length = resI t (t.length / 2) := by
  have gl : ((grown t).length : Int) = 2 * (t.length : Int) + 1 := by rw [grown_len]; omega
  have hW : Whole ((grown t).length : Int) := by rw [gl]; unfold Whole at hw ⊢; omega
  obtain ⟨a, b⟩ := up_root hw (by omega)
  have hl := hw.le
  rw [resI_blank hW (by omega) (by rw [grown_at, nodeAt_ge (by omega)]; rfl), gl, a, b, resI_right hw h127 (x := (t.length : Int) + 1 + t.length / 2) (by omega), List.append_nil, resI_grown hw h127 (by omega) (by omega)]
theorem delF_append (p : Int → Bool) (a b : List Int) : delF p (a ++ b) = delF p a ++ delF p b := by unfold delF; exact List.filter_append ..
theorem delF_congr {p q : Int → Bool} {l : List Int} (h : ∀ x ∈ l, p x = q x) : delF p l = delF q l := by
  unfold delF
  exact List.filter_congr fun x hx => by rw [h x hx]
theorem besI_grown {t : List Node} (hs : Sane t) (hw : Whole t.length) (h127 : t.length ≠ 127) {i : Int} (h0 : 0 ≤ i) (h1 : i ≤ t.length / 2) : besI (grown t) i = besI t i ∧ filI (grown t) i = filI t i := by
  have gl : ((grown t).length : Int) = 2 * (t.length : Int) + 1 := by rw [grown_len]; omega
  have hgs : Sane (grown t) := grow_sane hs h127
  have hodd := hw.odd
  have hl := hw.le
  have hN : IsN (2 * i) t.length := ⟨hw, by omega, by omega⟩
  have e : besI (grown t) i = besI t i := by
    rw [besI_in hgs h0 (by rw [leaves_of hgs, gl]; omega), besI_in hs h0 (by rw [leaves_of hs]; omega), gl, up_co hN (by omega), delF_append]
    have e1 : delF (fun s => decide (resI (grown t) s = [])) [(t.length : Int) + 1 + t.length / 2] = [] := by
      unfold delF
      simp [resI_right hw h127 (x := (t.length : Int) + 1 + t.length / 2) (by omega)]
    rw [e1, List.append_nil]
    refine delF_congr fun s hs' => ?_
    obtain ⟨s0, s1⟩ := co_in hs'
    rw [resI_grown hw h127 s0 s1]
  refine ⟨e, ?_⟩
  unfold filI
  rw [e, gl]
  refine List.map_congr_left fun s hs' => ?_
  rw [besI_in hs h0 (by rw [leaves_of hs]; omega)] at hs'
  have hsc : s ∈ coI (2 * i) t.length := (List.mem_filter.1 hs').1
  obtain ⟨s0, s1⟩ := co_in hsc
  have hsib := co_sib _ hsc
  have hsN : IsN s t.length := ⟨hw, s0, s1⟩
  refine (up_kids hsN (by omega)).2.2 ?_
  by_cases hp : 0 ≤ parI s t.length
  · exact hp
  · have := (sib_par hsN).1 (by omega); omega
end Go.Proofs.YtlehcigcaihoaaaDoor.Al
namespace Go.Proofs.YtlehcigcaihoaaaDoor.Al
open Go
attribute [local go_sem] W_mv W_pick W_alloc W_box W_build W_bslice W_load W_store W_nilck W_bin W_isnil W_un W_convI W_convS W_mkiface W_mkfunc W_mkslice W_slice W_faddr W_field W_iaddr W_iaddrA W_idxA W_extract W_len W_lenS W_lenA W_min W_max W_append W_appendZ W_copy W_clear W_tassert W_invoke thenQ_normal thenQ_exit thenQ_goto thenQ_ret blockQ_normal blockQ_ret blockQ_goto blockQ_exit wpc_skip wpc_region wpc_draw wpc_seq wpc_cond wpc_block wpc_exit wpc_goto wpc_label wpc_ret wpc_loop wpc_range wpc_scope condW_true condW_false condW_dec condW_any W_nil W_call resW_some evalOp Opd.ev updo_envL updo_none setL_cons setL_nil envL_cons Option.map_some Option.bind_some evBin evInt List.map_cons List.map_nil Option.pure_def Option.bind_eq_bind W_grd' grdW_tt grdW_ff grdW_tf grdW_ft grdW_tup grdW_dt grdW_df lgrdW_tt lgrdW_ff lgrdW_tf lgrdW_ft lgrdW_tup lgrdW_dt lgrdW_df L_mv L_pick L_alloc L_box L_build L_bslice L_load L_store L_nilck L_bin L_isnil L_un L_convI L_convS L_mkiface L_mkfunc L_mkslice L_slice L_faddr L_field L_iaddr L_iaddrA L_idxA L_extract L_len L_lenS L_lenA L_min L_max L_append L_appendZ L_copy L_clear L_tassert L_nil L_call L_grd lresW_some upd_envL evUn beq_dec bne_dec leaves_ret1 leaves_end1 leaves_ret0 leaves_end0 leaves_ret2 leaves_ret3 rowLen_ints load_iptr0 not_dec heap_get0 heap_get1 heap_set0 heap_set1 heap_len1 heap_len2 heap_app heap_app2 bslice1_int seen_ints seen_one0 seen_one1 seen_one2 rowLen_own0 bslice0_int rowLen_own1 Nat.sub_zero Bool.not_true Bool.not_false List.length_nil List.length_cons List.nil_append List.cons_append Nat.zero_add load_iptrA canon_ptrI canon_bool canon_tup canon_agg canon_leafA canon_innerA canon_nodeA canon_ints' rowLen_ints0 seen_ints0 canon_ints0 rowLen_ints1 seen_ints1 canon_ints1 rowLen_ints2 seen_ints2 canon_ints2 rowLen_ints3 seen_ints3 canon_ints3 rowLen_octs seen_octs canon_octs' szOk_octs rowLen_octs0 seen_octs0 canon_octs0 rowLen_octs1 seen_octs1 canon_octs1 rowLen_octs2 seen_octs2 canon_octs2 rowLen_octs3 seen_octs3 canon_octs3 rowLen_intss seen_intss canon_intss' szOk_intss rowLen_intss0 seen_intss0 canon_intss0 rowLen_intss1 seen_intss1 canon_intss1 rowLen_intss2 seen_intss2 canon_intss2 rowLen_intss3 seen_intss3 canon_intss3 rowLen_octss seen_octss canon_octss' szOk_octss rowLen_octss0 seen_octss0 canon_octss0 rowLen_octss1 seen_octss1 canon_octss1 rowLen_octss2 seen_octss2 canon_octss2 rowLen_octss3 seen_octss3 canon_octss3 rowLen_nodes seen_nodes canon_nodes' szOk_nodes rowLen_nodes0 seen_nodes0 canon_nodes0 rowLen_nodes1 seen_nodes1 canon_nodes1 rowLen_nodes2 seen_nodes2 canon_nodes2 rowLen_nodes3 seen_nodes3 canon_nodes3 seen_list cells_int oneIn_int cells_bool oneIn_bool cells_str oneIn_str cells_list oneIn_list cells_func oneIn_func cells_nilfunc oneIn_nilfunc cells_iptr oneIn_iptr cells_iface oneIn_iface cells_nilIface oneIn_nilIface cells_own cells_ptr cells_anybool oneIn_anybool cells_agg oneIn_own0 oneIn_ptr0 seenL0 seenM0 oneIn_own1 oneIn_ptr1 seenL1 seenM1 oneIn_own2 oneIn_ptr2 seenL2 seenM2 oneIn_own3 oneIn_ptr3 seenL3 seenM3 oneIn_own4 oneIn_ptr4 seenL4 seenM4 oneIn_own5 oneIn_ptr5 seenL5 seenM5 cells_ints oneIn_ints cells_octs oneIn_octs cells_intss oneIn_intss cells_octss oneIn_octss cells_nodes oneIn_nodes ldB0 ldA0 adB0 stB0 ldB1 ldA1 adB1 stB1 ldB2 ldA2 adB2 stB2 ldB3 ldA3 adB3 stB3 ldB4 ldA4 adB4 stB4 ldB5 ldA5 adB5 stB5 List.getElem?_cons_zero List.getElem?_cons_succ beq_self_eq_true splice List.take_zero List.take_succ_cons List.drop_zero List.drop_succ_cons List.append_nil List.set_cons_zero List.set_cons_succ List.all_cons List.all_nil Bool.and_self and_self and_true true_and Nat.lt_irrefl Nat.zero_lt_one Nat.le_refl fillA evNil notA Bool.false_eq_true evMin_int evMax_int Option.map_none freezeP_all_nil freezeP_all_cons frzE_box frzE_arr frzE_dead foldA List.foldlM_cons List.foldlM_nil callW_f lcallW_f ansW_fn ansW_own lansW_fn lansW_own ansW_none lansW_none tab_cons tab_nil dI_int dB_bool dO_octs dO_ints dO_list dO_nil dOs_octss dOs_intss dOs_nil dLf_leafA dIn_innerA dN_nodeA dLf_agg dIn_agg dN_agg dNs_nodes dNs_list dNs_nil isI_int isU_int isB_bool isO_octs isO_nil isO_list isS_ints isS_nil isS_list isOs_octss isSs_intss isOs_nil isSs_nil isNs_nodes isNs_list isNs_nil isLf_leafA isIn_innerA isN_nodeA isLf_agg isIn_agg isN_agg leaf_eta inner_eta node_eta leaf_zero inner_zero node_zero dP_patchA dP_agg isP_patchA isP_agg patch_eta decide_eq_true_eq decide_eq_false_iff_not eq_self forall_const true_implies false_implies Bool.not_eq_true' Bool.not_eq_false' Bool.true_eq_false implies_true ne_eq ldI ldIA adI AV.tup.injEq AV.agg.injEq List.cons.injEq AV.int.injEq AV.bool.injEq nodes_inj octs_inj ints_inj nil_nodes nil_octs nil_ints canon_nilL decide_eq_decide two_ne four_ne b256_ne lendA_fn lendA_own lendA_none llendA_fn llendA_none plain_bool plain_int plain_tup2 isNs_own isO_own isS_own isOs_own false_and and_false Q_nil Q_l Q_g Q_h Q_grd qgrdW_b qgrdW_tup lightD_some heavyD_some readD_some fnD_some fnD_own fnD_none callL_f ownH_some callH_f litD_some litE_some Q_call Q_bslice H_call pendOk_nil pendOk_cons pastOk_nil pastOk_cons Q_mv Q_pick Q_bin Q_un Q_convI Q_mkfunc Q_extract Q_min Q_max Q_lenS Q_lenA Q_field Q_idxA Q_mkiface Q_tassert Q_alloc Q_box Q_store Q_mkslice Q_append Q_appendZ Q_copy Q_clear Q_build Q_load Q_nilck Q_isnil Q_convS Q_slice Q_faddr Q_iaddr Q_iaddrA Q_len H_alloc H_box H_bslice H_store H_mkslice H_append H_appendZ H_copy H_clear free_mv free_pick free_bin free_un free_convI free_mkfunc free_extract free_min free_max free_lenS free_lenA free_field free_idxA free_mkiface free_tassert free_build free_load free_nilck free_isnil free_convS free_slice free_faddr free_iaddr free_iaddrA free_len callW_y List.length_map List.length_set leaves_r evR_some evRess1 evRess2 evRess3 evRes_t evRes_c nz_kind nz_enc nz_cred nz_source nz_parent nz_ienc nz_hash nz_un true_or or_true bsl_node idbs_node idbs_int appN appI appO ixo_nodes canon_row canon_rowI canon_rowO not_false_eq_true not_true_eq_false ldE_a ldE_c adE_b stE_b onE_a onP_b bsl_zero idbs_zero appN_zero
attribute [local go_sem low] condW_b grdW_b lgrdW_b ldP adP stP onO onPt
attribute [local simp] envL_cons envL_nil idb_int idb_bool idb_str idb_ints idb_nil idb_own idb_ptr entB_ints' idb_octs entB_octs idb_intss entB_intss idb_octss entB_octss idb_nodes entB_nodes idb_leafA idb_innerA idb_nodeA idb_agg idb_tup idb_iptr idb_fn idb_undef entB_dead entB_box
attribute [local go_sem high] qgJ_tt qgJ_ff qgJ_tf qgJ_ft

theorem copathV_spec (x w : Int) : Fun seat 264 [.int .i64 x, .int .i64 w] (ints (coI x w)) := (copath_spec x w).val (encI64.xs_idb _)
noncomputable def r264v : Reg seat := .of told264 (ask2 (fun a0' a1' => isI a0' ∧ isI a1') fun a0' a1' => .fn (ints (coI (dI a0') (dI a1')))) (ask2_ok fun a0' a1' h => SaidOk.fn (Fun.weak (.cons (isI.weak h.1) (.cons (isI.weak h.2) .nil)) (copathV_spec _ _)))
theorem r264v_c : r264v.c = 264 := rfl
open Classical in
theorem r264v_ask (a0' a1' : AV) : r264v.ask [a0', a1'] = if isI a0' ∧ isI a1' then some (Said.fn (ints (coI (dI a0') (dI a1')))) else none := by unfold r264v Reg.of ask2; exact ite_cl
set_option maxRecDepth 100000 in
set_option maxHeartbeats 4000000 in
theorem resolveFilter_spec (t : List Node) (i : Int) (ht : Tree.Ok t) (hi : In64 i) : Fun seat 252 [nodes t, .int .i64 i] (.bool true) := by
  by_cases hf : Few t
  rotate_left
  · refine Fun.of0R [r256, r100] told252 (by simp [il252]) (by simp [idb_patchA]) (by simp [idb_patchA]) 4 ?_
    simp -implicitDefEqProofs only [il252, List.zipIdx_cons, List.zipIdx_nil, leafA, innerA, nodeA, patchA, Leaf.cells, Inner.cells, Node.cells, r256_c, r256_ask, r100_c, r100_ask, decide_true, decide_false, ht, hf, go_sem, Nat.reduceEqDiff, reduceIte, Nat.reduceAdd, Nat.reduceLeDiff, Nat.reduceLT, Nat.reduceSub]
  by_cases hs : Sane t
  rotate_left
  · refine Fun.of0R [r256, r100, r101] told252 (by simp [il252]) (by simp [idb_patchA]) (by simp [idb_patchA]) 4 ?_
    simp -implicitDefEqProofs only [il252, List.zipIdx_cons, List.zipIdx_nil, leafA, innerA, nodeA, patchA, Leaf.cells, Inner.cells, Node.cells, r256_c, r256_ask, r100_c, r100_ask, r101_c, r101_ask, decide_true, decide_false, ht, hf, hs, go_sem, Nat.reduceEqDiff, reduceIte, Nat.reduceAdd, Nat.reduceLeDiff, Nat.reduceLT, Nat.reduceSub]
  by_cases h0 : i < 0
  · have e := besI_out hs (.inl h0)
    have e2 : filI t i = [] := by unfold filI; rw [e]; rfl
    refine Fun.of0R [r256, r100, r101, r261, r262] told252 (by simp [il252]) (by simp [idb_patchA]) (by simp [idb_patchA]) 4 ?_
    simp -implicitDefEqProofs only [il252, List.zipIdx_cons, List.zipIdx_nil, leafA, innerA, nodeA, patchA, Leaf.cells, Inner.cells, Node.cells, r256_c, r256_ask, r100_c, r100_ask, r101_c, r101_ask, r261_c, r261_ask, r262_c, r262_ask, decide_true, decide_false, ht, hf, hs, e, e2, h0, List.length_nil, z00, go_sem, Nat.reduceEqDiff, reduceIte, Nat.reduceAdd, Nat.reduceLeDiff, Nat.reduceLT, Nat.reduceSub]
  by_cases h1 : i ≥ leaves_ t
  · have e := besI_out hs (.inr h1)
    have e2 : filI t i = [] := by unfold filI; rw [e]; rfl
    refine Fun.of0R [r256, r100, r101, r261, r262, r103] told252 (by simp [il252]) (by simp [idb_patchA]) (by simp [idb_patchA]) 4 ?_
    simp -implicitDefEqProofs only [il252, List.zipIdx_cons, List.zipIdx_nil, leafA, innerA, nodeA, patchA, Leaf.cells, Inner.cells, Node.cells, r256_c, r256_ask, r100_c, r100_ask, r101_c, r101_ask, r261_c, r261_ask, r262_c, r262_ask, r103_c, r103_ask, decide_true, decide_false, ht, hf, hs, e, e2, h0, h1, List.length_nil, z00, go_sem, Nat.reduceEqDiff, reduceIte, Nat.reduceAdd, Nat.reduceLeDiff, Nat.reduceLT, Nat.reduceSub]
  have hN := leaf_is hs (i := i) (by omega) (by omega)
  have eb := besI_in hs (i := i) (by omega) (by omega)
  have hl := hs.len
  have kt := known_of hs
  have hw := hN.1
  have w1 : IntKind.i64.wrap (2 * i) = 2 * i := wrap64 _ (by have := hN.2; omega) (by have := hN.2; omega)
  have hcl := co_len (2 * i) t.length
  have hdl := dir_len (2 * i) t.length
  have hcm := co_map (2 * i) t.length
  have hnd := dir_nodup hN
  have hsb : ∀ s ∈ coI (2 * i) t.length, 0 ≤ sibI s t.length := fun s h => co_sib _ h
  obtain ⟨C, hC⟩ : ∃ C, coI (2 * i) t.length = C := ⟨_, rfl⟩
  obtain ⟨D, hD⟩ : ∃ D, directI (2 * i) t.length = D := ⟨_, rfl⟩
  rw [hC] at hcl hcm hsb eb
  rw [hD] at hcl hdl hcm hnd
  obtain ⟨p, hp⟩ : ∃ p : Int → Bool, p = fun s => decide (resI t s = []) := ⟨_, rfl⟩
  rw [← hp] at eb
  have ef : filI t i = (delF p C).map fun s => parI s t.length := by unfold filI; rw [eb]
  have hBl := delF_le p C
  have hat : ∀ j (hj : j < C.length) (hd : j < D.length), D[j] = parI C[j] t.length := fun j hj hd => by
    have := congrArg (fun l => l[j]?) hcm
    simp only [List.getElem?_map, List.getElem?_eq_getElem hj, List.getElem?_eq_getElem hd, Option.map_some, Option.some.injEq] at this
    exact this.symm
  have hno : ∀ j (hj : j < C.length) (hd : j < D.length), p C[j] = true → ¬ D[j] ∈ (delF p C).map fun s => parI s t.length := by
    intro j hj hd hpj hm
    obtain ⟨s, hs1, hs2⟩ := List.mem_map.1 hm
    obtain ⟨hs3, hs4⟩ := List.mem_filter.1 hs1
    obtain ⟨j2, hj2, rfl⟩ := List.getElem_of_mem hs3
    rw [← hat j2 hj2 (by omega)] at hs2
    have e : j2 = j := (List.getElem_inj hnd).1 hs2
    subst e
    rw [hpj] at hs4; cases hs4
  obtain ⟨F, hF⟩ : ∃ F, filI t i = F := ⟨_, rfl⟩
  obtain ⟨B, hB⟩ : ∃ B, besI t i = B := ⟨_, rfl⟩
  have hFl : F.length = B.length := by rw [← hF, ← hB, ef, eb, List.length_map]
  have hFs : Small F := by simp only [Small]; rw [hFl, ← hB, eb]; omega
  have hB6 : B.length ≤ 6 := by rw [← hB, eb]; omega
  refine Fun.of0W told252 (by simp [il252]) (by simp ) (by simp ) 4 ?_
  simp only [il252, List.zipIdx_cons, List.zipIdx_nil, Nat.zero_add, List.map_cons, List.map_nil]
  refine WP.seqR [] fun K hK => ?_
  simp -implicitDefEqProofs only [leafA, innerA, nodeA, patchA, Leaf.cells, Inner.cells, Node.cells, decide_true, decide_false, go_sem, Nat.reduceEqDiff, reduceIte, Nat.reduceAdd, Nat.reduceLeDiff, Nat.reduceLT, Nat.reduceSub]
  refine hK _ ?_
  clear hK K
  refine WP.seqR [r256] fun K hK => ?_
  simp -implicitDefEqProofs only [leafA, innerA, nodeA, patchA, Leaf.cells, Inner.cells, Node.cells, r256_c, r256_ask, decide_true, decide_false, go_sem, Nat.reduceEqDiff, reduceIte, Nat.reduceAdd, Nat.reduceLeDiff, Nat.reduceLT, Nat.reduceSub]
  refine hK _ ?_
  clear hK K
  refine WP.seqR [r100, r101] fun K hK => ?_
  simp -implicitDefEqProofs only [leafA, innerA, nodeA, patchA, Leaf.cells, Inner.cells, Node.cells, r100_c, r100_ask, r101_c, r101_ask, decide_true, decide_false, ht, hf, hs, go_sem, Nat.reduceEqDiff, reduceIte, Nat.reduceAdd, Nat.reduceLeDiff, Nat.reduceLT, Nat.reduceSub]
  refine hK _ ?_
  clear hK K
  refine WP.seqR [r261] fun K hK => ?_
  simp -implicitDefEqProofs only [leafA, innerA, nodeA, patchA, Leaf.cells, Inner.cells, Node.cells, r261_c, r261_ask, decide_true, decide_false, ht, hF, go_sem, Nat.reduceEqDiff, reduceIte, Nat.reduceAdd, Nat.reduceLeDiff, Nat.reduceLT, Nat.reduceSub]
  refine hK _ ?_
  clear hK K
  refine WP.seqR [r262] fun K hK => ?_
  simp -implicitDefEqProofs only [leafA, innerA, nodeA, patchA, Leaf.cells, Inner.cells, Node.cells, r262_c, r262_ask, decide_true, decide_false, ht, hB, go_sem, Nat.reduceEqDiff, reduceIte, Nat.reduceAdd, Nat.reduceLeDiff, Nat.reduceLT, Nat.reduceSub]
  refine hK _ ?_
  clear hK K
  refine WP.seqR [r103] fun K hK => ?_
  simp -implicitDefEqProofs only [leafA, innerA, nodeA, patchA, Leaf.cells, Inner.cells, Node.cells, r103_c, r103_ask, decide_true, decide_false, ht, h0, h1, go_sem, Nat.reduceEqDiff, reduceIte, Nat.reduceAdd, Nat.reduceLeDiff, Nat.reduceLT, Nat.reduceSub]
  refine hK _ ?_
  clear hK K
  refine WP.seqR [r263] fun K hK => ?_
  simp -implicitDefEqProofs only [leafA, innerA, nodeA, patchA, Leaf.cells, Inner.cells, Node.cells, r263_c, r263_ask, decide_true, decide_false, w1, hD, go_sem, Nat.reduceEqDiff, reduceIte, Nat.reduceAdd, Nat.reduceLeDiff, Nat.reduceLT, Nat.reduceSub]
  refine hK _ ?_
  clear hK K
  refine WP.seqR [r264v] fun K hK => ?_
  simp -implicitDefEqProofs only [leafA, innerA, nodeA, patchA, Leaf.cells, Inner.cells, Node.cells, r264v_c, r264v_ask, decide_true, decide_false, w1, hC, go_sem, Nat.reduceEqDiff, reduceIte, Nat.reduceAdd, Nat.reduceLeDiff, Nat.reduceLT, Nat.reduceSub]
  refine hK _ ?_
  clear hK K
  refine WP.weakL [(0, nodes t), (1, .int .i64 i), (5, .bool true), (6, ints F), (7, ints B), (8, ints D), (9, ints C)] ?_ ?_
  · simp only [envL_cons, Nat.reduceEqDiff, reduceIte, List.mem_cons, List.not_mem_nil, or_false, forall_eq_or_imp, forall_eq, weak_refl, and_self]
  refine wpc_soundR [] ?_
  simp -implicitDefEqProofs only [leafA, innerA, nodeA, patchA, Leaf.cells, Inner.cells, Node.cells, decide_true, decide_false, go_sem, Nat.reduceEqDiff, reduceIte, Nat.reduceAdd, Nat.reduceLeDiff, Nat.reduceLT, Nat.reduceSub]
  refine WP.loop0 (fun j => j ≤ C.length) (fun j => [(0, nodes t), (1, .int .i64 i), (5, .bool true), (6, ints F), (7, ints B), (8, ints D), (9, ints C), (10, .int .i64 ((delF p (C.take j)).length : Nat)), (11, .int .i64 (j : Nat))]) (fun j => C.length - j) 0 (Nat.zero_le _) (fun k _ => by simp ) (by simp [delF]) ?_
  intro j hj
  refine wpc_soundR [r258, r14] ?_
  by_cases hlt : (j : Int) < (D.length : Nat)
  rotate_left
  · have e : j = C.length := by omega
    subst e
    have eF : ((F.length : Nat) : Int) = ((delF p C).length : Nat) := by rw [hFl, ← hB, eb]
    have eB : ((B.length : Nat) : Int) = ((delF p C).length : Nat) := by rw [← hB, eb]
    simp -implicitDefEqProofs only [leafA, innerA, nodeA, patchA, Leaf.cells, Inner.cells, Node.cells, r258_c, r258_ask, r14_c, r14_ask, decide_true, decide_false, hlt, List.take_length, eF, eB, go_sem, Nat.reduceEqDiff, reduceIte, Nat.reduceAdd, Nat.reduceLeDiff, Nat.reduceLT, Nat.reduceSub]
  have hj' : j < C.length := by omega
  have hjd : j < D.length := by omega
  have wj := wrapS (show j < 9223372036854775807 by omega)
  have hsn := delF_take (p := p) hj'
  have hnj := hno j hj' hjd
  have hpj : p C[j] = decide (resI t C[j] = []) := by rw [hp]
  by_cases he : resI t C[j] = []
  · have hpt : p C[j] = true := by rw [hpj]; simp [he]
    rw [if_pos hpt] at hsn
    have hn2 : ¬ D[j] ∈ F := by rw [← hF, ef]; exact hnj hpt
    simp -implicitDefEqProofs only [leafA, innerA, nodeA, patchA, Leaf.cells, Inner.cells, Node.cells, r258_c, r258_ask, r14_c, r14_ask, decide_true, decide_false, hlt, fun H => index_ints H C j hj', fun H => index_ints H D j hjd, ht, kt, he, List.length_nil, z00, hFs, hn2, wj, go_sem, Nat.reduceEqDiff, reduceIte, Nat.reduceAdd, Nat.reduceLeDiff, Nat.reduceLT, Nat.reduceSub]
    exact ⟨j + 1, by omega, by omega, by simp [hsn]⟩
  · have hpt : p C[j] = false := by rw [hpj]; simp [he]
    rw [if_neg (by rw [hpt]; exact Bool.false_ne_true)] at hsn
    obtain ⟨k1, k2⟩ := delF_at hj' hpt
    have gl : ¬ ((resI t C[j]).length : Int) = 0 := by have := List.length_pos_iff.2 he; omega
    have hsj := hsb _ (List.getElem_mem hj')
    have hsj' : ¬ sibI C[j] t.length < 0 := by omega
    obtain ⟨k, hk⟩ : ∃ k, (delF p (C.take j)).length = k := ⟨_, rfl⟩
    rw [hk] at k1
    have eB : delF p C = B := by rw [← hB, eb]
    have kB : k < B.length := by rw [← eB]; exact k1
    have kF : k < F.length := by omega
    have bk : B[k] = C[j] := by
      have h1 : (delF p C)[k]? = some C[j] := by
        rw [← hk, List.getElem?_eq_getElem (by rw [hk]; exact k1)]; exact congrArg some k2
      rw [eB, List.getElem?_eq_getElem kB] at h1
      exact Option.some.inj h1
    have fk : F[k] = D[j] := by
      have h1 : F[k]? = some (parI C[j] t.length) := by
        rw [← hF, ef, eB, List.getElem?_map, List.getElem?_eq_getElem kB, bk]; rfl
      rw [List.getElem?_eq_getElem kF] at h1
      rw [Option.some.inj h1, hat j hj' hjd]
    have gF : ¬ (k : Int) ≥ (F.length : Nat) := by omega
    have gB : ¬ (k : Int) ≥ (B.length : Nat) := by omega
    have wk := wrapS (show k < 9223372036854775807 by omega)
    have hsl : (delF p (C.take (j + 1))).length = k + 1 := by rw [hsn, List.length_append, hk]; rfl
    rw [hk]
    simp -implicitDefEqProofs only [leafA, innerA, nodeA, patchA, Leaf.cells, Inner.cells, Node.cells, r258_c, r258_ask, r14_c, r14_ask, decide_true, decide_false, hlt, fun H => index_ints H C j hj', ht, kt, gl, go_sem, Nat.reduceEqDiff, reduceIte, Nat.reduceAdd, Nat.reduceLeDiff, Nat.reduceLT, Nat.reduceSub]
    refine WP.drawQ [r265] [.l, .l, .g 0 0, .l, .l, .l, .l, .g 0 0, .l, .l, .l, .l, .l, .g 0 0, .g 0 0, .l, .l, .g 0 0, .g 0 0, .l, .l, .l, .l, .l, .g 0 0, .g 0 0, .l, .l, .g 0 0, .g 0 0, .l, .l, .l, .l, .l, .g 0 0, .g 0 0, .l, .g 0 0, .l, .l, .l] mixed (by decide) ?_
    simp -implicitDefEqProofs only [leafA, innerA, nodeA, patchA, Leaf.cells, Inner.cells, Node.cells, r265_c, r265_ask, decide_true, decide_false, gF, gB, fun H => index_ints H F k kF, fun H => index_ints H B k kB, fun H => index_ints H C j hj', fun H => index_ints H D j hjd, bk, fk, hsj', not_true_eq_false, wk, wj, go_sem, Nat.reduceEqDiff, reduceIte, Nat.reduceAdd, Nat.reduceLeDiff, Nat.reduceLT, Nat.reduceSub]
    exact ⟨j + 1, by omega, by omega, by simp [hsl]⟩
end Go.Proofs.YtlehcigcaihoaaaDoor.Al
