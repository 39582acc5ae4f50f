/-
  SPECS: the document's answers: where nodes stand.
-/
import Derived.Test.YtlehcigcaihoaaaGreatDoorAlS3
import Derived.Test.YtlehcigcaihoaaaGreatDoorAlP16
import Derived.Test.YtlehcigcaihoaaaGreatDoorAlI1
set_option linter.unusedSimpArgs false
set_option linter.unusedVariables false
namespace Go.Proofs.YtlehcigcaihoaaaGreatDoor.Al
open Go
attribute [local go_sem] W_mv W_pick W_alloc W_box W_build W_bslice W_load W_store W_nilck W_bin W_isnil W_un W_convI W_convS W_mkiface W_mkfunc W_mkslice W_slice W_faddr W_field W_iaddr W_iaddrA W_idxA W_extract W_len W_lenS W_lenA W_min W_max W_append W_appendZ W_copy W_clear W_tassert W_invoke thenQ_normal thenQ_exit thenQ_goto thenQ_ret blockQ_normal blockQ_ret blockQ_goto blockQ_exit wpc_skip wpc_region wpc_draw wpc_seq wpc_cond wpc_block wpc_exit wpc_goto wpc_label wpc_ret wpc_loop wpc_range wpc_scope condW_true condW_false condW_dec condW_any W_nil W_call resW_some evalOp Opd.ev updo_envL updo_none setL_cons setL_nil envL_cons Option.map_some Option.bind_some evBin evInt List.map_cons List.map_nil Option.pure_def Option.bind_eq_bind W_grd' grdW_tt grdW_ff grdW_tf grdW_ft grdW_tup grdW_dt grdW_df lgrdW_tt lgrdW_ff lgrdW_tf lgrdW_ft lgrdW_tup lgrdW_dt lgrdW_df L_mv L_pick L_alloc L_box L_build L_bslice L_load L_store L_nilck L_bin L_isnil L_un L_convI L_convS L_mkiface L_mkfunc L_mkslice L_slice L_faddr L_field L_iaddr L_iaddrA L_idxA L_extract L_len L_lenS L_lenA L_min L_max L_append L_appendZ L_copy L_clear L_tassert L_nil L_call L_grd lresW_some upd_envL evUn beq_dec bne_dec leaves_ret1 leaves_end1 leaves_ret0 leaves_end0 leaves_ret2 leaves_ret3 rowLen_ints load_iptr0 not_dec heap_get0 heap_get1 heap_set0 heap_set1 heap_len1 heap_len2 heap_app heap_app2 bslice1_int seen_ints seen_one0 seen_one1 seen_one2 rowLen_own0 bslice0_int rowLen_own1 Nat.sub_zero Bool.not_true Bool.not_false List.length_nil List.length_cons List.nil_append List.cons_append Nat.zero_add load_iptrA canon_ptrI canon_bool canon_tup canon_agg canon_leafA canon_innerA canon_nodeA canon_ints' rowLen_ints0 seen_ints0 canon_ints0 rowLen_ints1 seen_ints1 canon_ints1 rowLen_ints2 seen_ints2 canon_ints2 rowLen_ints3 seen_ints3 canon_ints3 rowLen_octs seen_octs canon_octs' szOk_octs rowLen_octs0 seen_octs0 canon_octs0 rowLen_octs1 seen_octs1 canon_octs1 rowLen_octs2 seen_octs2 canon_octs2 rowLen_octs3 seen_octs3 canon_octs3 rowLen_intss seen_intss canon_intss' szOk_intss rowLen_intss0 seen_intss0 canon_intss0 rowLen_intss1 seen_intss1 canon_intss1 rowLen_intss2 seen_intss2 canon_intss2 rowLen_intss3 seen_intss3 canon_intss3 rowLen_octss seen_octss canon_octss' szOk_octss rowLen_octss0 seen_octss0 canon_octss0 rowLen_octss1 seen_octss1 canon_octss1 rowLen_octss2 seen_octss2 canon_octss2 rowLen_octss3 seen_octss3 canon_octss3 rowLen_nodes seen_nodes canon_nodes' szOk_nodes rowLen_nodes0 seen_nodes0 canon_nodes0 rowLen_nodes1 seen_nodes1 canon_nodes1 rowLen_nodes2 seen_nodes2 canon_nodes2 rowLen_nodes3 seen_nodes3 canon_nodes3 seen_list cells_int oneIn_int cells_bool oneIn_bool cells_str oneIn_str cells_list oneIn_list cells_func oneIn_func cells_nilfunc oneIn_nilfunc cells_iptr oneIn_iptr cells_iface oneIn_iface cells_nilIface oneIn_nilIface cells_own cells_ptr cells_anybool oneIn_anybool cells_agg oneIn_own0 oneIn_ptr0 seenL0 seenM0 oneIn_own1 oneIn_ptr1 seenL1 seenM1 oneIn_own2 oneIn_ptr2 seenL2 seenM2 oneIn_own3 oneIn_ptr3 seenL3 seenM3 oneIn_own4 oneIn_ptr4 seenL4 seenM4 oneIn_own5 oneIn_ptr5 seenL5 seenM5 cells_ints oneIn_ints cells_octs oneIn_octs cells_intss oneIn_intss cells_octss oneIn_octss cells_nodes oneIn_nodes ldB0 ldA0 adB0 stB0 ldB1 ldA1 adB1 stB1 ldB2 ldA2 adB2 stB2 ldB3 ldA3 adB3 stB3 ldB4 ldA4 adB4 stB4 ldB5 ldA5 adB5 stB5 List.getElem?_cons_zero List.getElem?_cons_succ beq_self_eq_true splice List.take_zero List.take_succ_cons List.drop_zero List.drop_succ_cons List.append_nil List.set_cons_zero List.set_cons_succ List.all_cons List.all_nil Bool.and_self and_self and_true true_and Nat.lt_irrefl Nat.zero_lt_one Nat.le_refl fillA evNil notA Bool.false_eq_true evMin_int evMax_int Option.map_none freezeP_all_nil freezeP_all_cons frzE_box frzE_arr frzE_dead foldA List.foldlM_cons List.foldlM_nil callW_f lcallW_f ansW_fn ansW_own lansW_fn lansW_own ansW_none lansW_none tab_cons tab_nil dI_int dB_bool dO_octs dO_ints dO_list dO_nil dOs_octss dOs_intss dOs_nil dLf_leafA dIn_innerA dN_nodeA dLf_agg dIn_agg dN_agg dNs_nodes dNs_list dNs_nil isI_int isU_int isB_bool isO_octs isO_nil isO_list isS_ints isS_nil isS_list isOs_octss isSs_intss isOs_nil isSs_nil isNs_nodes isNs_list isNs_nil isLf_leafA isIn_innerA isN_nodeA isLf_agg isIn_agg isN_agg leaf_eta inner_eta node_eta leaf_zero inner_zero node_zero dP_patchA dP_agg isP_patchA isP_agg patch_eta decide_eq_true_eq decide_eq_false_iff_not eq_self forall_const true_implies false_implies Bool.not_eq_true' Bool.not_eq_false' Bool.true_eq_false implies_true ne_eq ldI ldIA adI AV.tup.injEq AV.agg.injEq List.cons.injEq AV.int.injEq AV.bool.injEq nodes_inj octs_inj ints_inj nil_nodes nil_octs nil_ints canon_nilL decide_eq_decide two_ne four_ne b256_ne lendA_fn lendA_own lendA_none llendA_fn llendA_none plain_bool plain_int plain_tup2 isNs_own isO_own isS_own isOs_own false_and and_false Q_nil Q_l Q_g Q_h Q_grd qgrdW_b qgrdW_tup lightD_some heavyD_some readD_some fnD_some fnD_own fnD_none callL_f ownH_some callH_f litD_some litE_some Q_call Q_bslice H_call pendOk_nil pendOk_cons pastOk_nil pastOk_cons Q_mv Q_pick Q_bin Q_un Q_convI Q_mkfunc Q_extract Q_min Q_max Q_lenS Q_lenA Q_field Q_idxA Q_mkiface Q_tassert Q_alloc Q_box Q_store Q_mkslice Q_append Q_appendZ Q_copy Q_clear Q_build Q_load Q_nilck Q_isnil Q_convS Q_slice Q_faddr Q_iaddr Q_iaddrA Q_len H_alloc H_box H_bslice H_store H_mkslice H_append H_appendZ H_copy H_clear free_mv free_pick free_bin free_un free_convI free_mkfunc free_extract free_min free_max free_lenS free_lenA free_field free_idxA free_mkiface free_tassert free_build free_load free_nilck free_isnil free_convS free_slice free_faddr free_iaddr free_iaddrA free_len callW_y List.length_map List.length_set leaves_r evR_some evRess1 evRess2 evRess3 evRes_t evRes_c nz_kind nz_enc nz_cred nz_source nz_parent nz_ienc nz_hash nz_un true_or or_true bsl_node idbs_node idbs_int appN appI appO ixo_nodes canon_row canon_rowI canon_rowO not_false_eq_true not_true_eq_false ldE_a ldE_c adE_b stE_b onE_a onP_b bsl_zero idbs_zero appN_zero
attribute [local go_sem low] condW_b grdW_b lgrdW_b ldP adP stP onO onPt
attribute [local simp] envL_cons envL_nil idb_int idb_bool idb_str idb_ints idb_nil idb_own idb_ptr entB_ints' idb_octs entB_octs idb_intss entB_intss idb_octss entB_octss idb_nodes entB_nodes idb_leafA idb_innerA idb_nodeA idb_agg idb_tup idb_iptr idb_fn idb_undef entB_dead entB_box

theorem refIs_spec (x w : Int) : Fun seat 309 [.int .i64 x, .int .i64 w] (.bool (decide (IsN x w))) := by
  by_cases h : Whole w
  · by_cases h0 : x ≥ 0
    · have e : IsN x w ↔ x < w := ⟨fun k => k.2.2, fun k => ⟨h, h0, k⟩⟩
      refine Fun.of0R [r152] told309 (by simp [il309]) (by simp [idb_patchA]) (by simp [idb_patchA]) 4 ?_
      simp -implicitDefEqProofs only [il309, List.zipIdx_cons, List.zipIdx_nil, leafA, innerA, nodeA, patchA, Leaf.cells, Inner.cells, Node.cells, r152_c, r152_ask, decide_true, decide_false, h, h0, e, go_sem, Nat.reduceEqDiff, reduceIte, Nat.reduceAdd, Nat.reduceLeDiff, Nat.reduceLT, Nat.reduceSub]
    · have e : ¬ IsN x w := fun k => h0 k.2.1
      refine Fun.of0R [r152] told309 (by simp [il309]) (by simp [idb_patchA]) (by simp [idb_patchA]) 4 ?_
      simp -implicitDefEqProofs only [il309, List.zipIdx_cons, List.zipIdx_nil, leafA, innerA, nodeA, patchA, Leaf.cells, Inner.cells, Node.cells, r152_c, r152_ask, decide_true, decide_false, h, h0, e, go_sem, Nat.reduceEqDiff, reduceIte, Nat.reduceAdd, Nat.reduceLeDiff, Nat.reduceLT, Nat.reduceSub]
  · have e : ¬ IsN x w := fun k => h k.1
    refine Fun.of0R [r152] told309 (by simp [il309]) (by simp [idb_patchA]) (by simp [idb_patchA]) 4 ?_
    simp -implicitDefEqProofs only [il309, List.zipIdx_cons, List.zipIdx_nil, leafA, innerA, nodeA, patchA, Leaf.cells, Inner.cells, Node.cells, r152_c, r152_ask, decide_true, decide_false, h, e, go_sem, Nat.reduceEqDiff, reduceIte, Nat.reduceAdd, Nat.reduceLeDiff, Nat.reduceLT, Nat.reduceSub]
noncomputable def r309 : Reg seat := .of told309 (ask2 (fun a0' a1' => isI a0' ∧ isI a1') fun a0' a1' => .fn (.bool (decide (IsN (dI a0') (dI a1'))))) (ask2_ok fun a0' a1' h => SaidOk.fn (Fun.weak (.cons (isI.weak h.1) (.cons (isI.weak h.2) .nil)) (refIs_spec _ _)))
theorem r309_c : r309.c = 309 := rfl
open Classical in
theorem r309_ask (a0' a1' : AV) : r309.ask [a0', a1'] = if isI a0' ∧ isI a1' then some (Said.fn (.bool (decide (IsN (dI a0') (dI a1'))))) else none := by unfold r309 Reg.of ask2; exact ite_cl
theorem refRoot_spec (w : Int) : Fun seat 310 [.int .i64 w] (.int .i64 (if Whole w then w / 2 else -1)) := by
  by_cases h : Whole w
  · have h1 := h.le
    have h2 := h.odd
    have w1 : IntKind.i64.wrap (w - 1) = w - 1 := wrap64 _ (by omega) (by omega)
    have w2 : IntKind.i64.wrap ((w - 1).tdiv 2) = w / 2 := by rw [quo2 _ (by omega)]; omega
    refine Fun.of0R [r152] told310 (by simp [il310]) (by simp [idb_patchA]) (by simp [idb_patchA]) 4 ?_
    simp -implicitDefEqProofs only [il310, List.zipIdx_cons, List.zipIdx_nil, leafA, innerA, nodeA, patchA, Leaf.cells, Inner.cells, Node.cells, r152_c, r152_ask, decide_true, decide_false, h, w1, w2, go_sem, Nat.reduceEqDiff, reduceIte, Nat.reduceAdd, Nat.reduceLeDiff, Nat.reduceLT, Nat.reduceSub]
  · refine Fun.of0R [r152] told310 (by simp [il310]) (by simp [idb_patchA]) (by simp [idb_patchA]) 4 ?_
    simp -implicitDefEqProofs only [il310, List.zipIdx_cons, List.zipIdx_nil, leafA, innerA, nodeA, patchA, Leaf.cells, Inner.cells, Node.cells, r152_c, r152_ask, decide_true, decide_false, h, go_sem, Nat.reduceEqDiff, reduceIte, Nat.reduceAdd, Nat.reduceLeDiff, Nat.reduceLT, Nat.reduceSub]
noncomputable def r310 : Reg seat := .of told310 (ask1 (fun a0' => isI a0') fun a0' => .fn (.int .i64 (if Whole (dI a0') then (dI a0') / 2 else -1))) (ask1_ok fun a0' h => SaidOk.fn (Fun.weak (.cons (isI.weak h) .nil) (refRoot_spec _)))
theorem r310_c : r310.c = 310 := rfl
open Classical in
theorem r310_ask (a0' : AV) : r310.ask [a0'] = if isI a0' then some (Said.fn (.int .i64 (if Whole (dI a0') then (dI a0') / 2 else -1))) else none := by unfold r310 Reg.of ask1; exact ite_cl
theorem levF_odd {f x : Nat} (h : x % 2 = 1) : levF (f + 1) x = levF f (x / 2) + 1 := by conv => lhs; unfold levF
                                                                                         rw [if_pos h]
theorem levF_even {f x : Nat} (h : ¬ x % 2 = 1) : levF f x = 0 := by
  cases f with
  | zero => rfl
  | succ f => unfold levF; rw [if_neg h]
theorem refLevel_spec (x : Int) : Fun seat 311 [.int .i64 x] (.int .i64 (level x)) := by
  by_cases h0 : x < 0
  · have e : level x = -1 := if_neg (by omega)
    rw [e]
    refine Fun.of0R [] told311 (by simp [il311]) (by simp [idb_patchA]) (by simp [idb_patchA]) 4 ?_
    simp -implicitDefEqProofs only [il311, List.zipIdx_cons, List.zipIdx_nil, leafA, innerA, nodeA, patchA, Leaf.cells, Inner.cells, Node.cells, decide_true, decide_false, h0, go_sem, Nat.reduceEqDiff, reduceIte, Nat.reduceAdd, Nat.reduceLeDiff, Nat.reduceLT, Nat.reduceSub]
  by_cases h1 : x > 126
  · have e : level x = -1 := if_neg (by omega)
    rw [e]
    refine Fun.of0R [] told311 (by simp [il311]) (by simp [idb_patchA]) (by simp [idb_patchA]) 4 ?_
    simp -implicitDefEqProofs only [il311, List.zipIdx_cons, List.zipIdx_nil, leafA, innerA, nodeA, patchA, Leaf.cells, Inner.cells, Node.cells, decide_true, decide_false, h0, h1, go_sem, Nat.reduceEqDiff, reduceIte, Nat.reduceAdd, Nat.reduceLeDiff, Nat.reduceLT, Nat.reduceSub]
  have e : level x = lev x.toNat := if_pos (by omega)
  rw [e]
  obtain ⟨q, rfl⟩ : ∃ q : Nat, x = q := ⟨x.toNat, by omega⟩
  rw [Int.toNat_natCast]
  refine Fun.of0R [] told311 (by simp [il311]) (by simp [idb_patchA]) (by simp [idb_patchA]) 4 ?_
  simp -implicitDefEqProofs only [il311, List.zipIdx_cons, List.zipIdx_nil, leafA, innerA, nodeA, patchA, Leaf.cells, Inner.cells, Node.cells, decide_true, decide_false, h0, h1, go_sem, Nat.reduceEqDiff, reduceIte, Nat.reduceAdd, Nat.reduceLeDiff, Nat.reduceLT, Nat.reduceSub]
  refine WP.loop0 (fun s : Nat × Nat => s.1 ≤ 7 ∧ s.2 < 2 ^ (7 - s.1) ∧ levF (7 - s.1) s.2 + s.1 = lev q) (fun s => [(0, .int .i64 (s.2 : Nat)), (3, .int .i64 (s.1 : Nat))]) (fun s => 7 - s.1) (0, q) ⟨by simp, by simp; omega, rfl⟩ (fun s _ => by simp ) (by simp ) ?_
  rintro ⟨k, y⟩ ⟨hk, hy, hl⟩
  simp only at hk hy hl
  have tm : ((y : Nat) : Int).tmod 2 = ((y % 2 : Nat) : Int) := by rw [Int.tmod_eq_emod_of_nonneg (by omega)]; omega
  refine wpc_soundR [] ?_
  by_cases ho : y % 2 = 1
  · have hk7 : k < 7 := by
      rcases Nat.lt_or_ge k 7 with h | h
      · exact h
      · have : k = 7 := by omega
        subst this; simp at hy; subst hy; simp at ho
    have hg : (((y % 2 : Nat) : Int) = 1) = True := eq_true (by omega)
    have hb : y < 2 ^ 7 := Nat.lt_of_lt_of_le hy (Nat.pow_le_pow_right (by decide) (by omega))
    have q2 : IntKind.i64.wrap (((y : Nat) : Int).tdiv 2) = ((y / 2 : Nat) : Int) := by rw [quo2 _ (by omega)]; omega
    simp -implicitDefEqProofs only [leafA, innerA, nodeA, patchA, Leaf.cells, Inner.cells, Node.cells, decide_true, decide_false, tm, hg, q2, wrapS (show k < 9223372036854775807 by omega), go_sem, Nat.reduceEqDiff, reduceIte, Nat.reduceAdd, Nat.reduceLeDiff, Nat.reduceLT, Nat.reduceSub]
    obtain ⟨j, hj⟩ : ∃ j, 7 - k = j + 1 := ⟨6 - k, by omega⟩
    rw [hj] at hl hy
    rw [levF_odd ho] at hl
    refine ⟨(k + 1, y / 2), ⟨by simp only; omega, ?_, ?_⟩, by simp only; omega, by simp ⟩
    · simp only
      rw [show 7 - (k + 1) = j by omega]
      rw [Nat.pow_succ] at hy; omega
    · simp only
      rw [show 7 - (k + 1) = j by omega]; omega
  · have hg : ¬ (((y % 2 : Nat) : Int) = 1) := by omega
    rw [levF_even ho] at hl
    simp -implicitDefEqProofs only [leafA, innerA, nodeA, patchA, Leaf.cells, Inner.cells, Node.cells, decide_true, decide_false, tm, hg, go_sem, Nat.reduceEqDiff, reduceIte, Nat.reduceAdd, Nat.reduceLeDiff, Nat.reduceLT, Nat.reduceSub]
    first | omega | (simp; omega)
noncomputable def r311 : Reg seat := .of told311 (ask1 (fun a0' => isI a0') fun a0' => .fn (.int .i64 (level (dI a0')))) (ask1_ok fun a0' h => SaidOk.fn (Fun.weak (.cons (isI.weak h) .nil) (refLevel_spec _)))
theorem r311_c : r311.c = 311 := rfl
open Classical in
theorem r311_ask (a0' : AV) : r311.ask [a0'] = if isI a0' then some (Said.fn (.int .i64 (level (dI a0')))) else none := by unfold r311 Reg.of ask1; exact ite_cl
theorem power_spec (k : Nat) (hk : k ≤ 7) : Fun seat 312 [.int .i64 (k : Int)] (.int .i64 (2 ^ k)) := by
  refine Fun.of0R [] told312 (by simp [il312]) (by simp [idb_patchA]) (by simp [idb_patchA]) 4 ?_
  simp -implicitDefEqProofs only [il312, List.zipIdx_cons, List.zipIdx_nil, leafA, innerA, nodeA, patchA, Leaf.cells, Inner.cells, Node.cells, decide_true, decide_false, go_sem, Nat.reduceEqDiff, reduceIte, Nat.reduceAdd, Nat.reduceLeDiff, Nat.reduceLT, Nat.reduceSub]
  refine WP.loop0 (fun i => i ≤ k) (fun i => [(0, .int .i64 (k : Int)), (3, .int .i64 (2 ^ i)), (4, .int .i64 (i : Nat))]) (fun i => k - i) 0 (Nat.zero_le _) (fun i _ => by simp ) (by simp ) ?_
  intro i hi
  refine wpc_soundR [] ?_
  by_cases hlt : (i : Int) < (k : Int)
  · have hb : (2 : Int) ^ i ≤ 128 ∧ (0 : Int) ≤ 2 ^ i := by
      have h2 : ∀ j, j < 8 → (2 : Int) ^ j ≤ 128 ∧ (0 : Int) ≤ 2 ^ j := by decide
      exact h2 i (by omega)
    have w1 : IntKind.i64.wrap (2 * 2 ^ i) = 2 ^ (i + 1) := by rw [wrap64 _ (by omega) (by omega), Int.pow_succ]; omega
    simp -implicitDefEqProofs only [leafA, innerA, nodeA, patchA, Leaf.cells, Inner.cells, Node.cells, decide_true, decide_false, hlt, w1, wrapS (show i < 9223372036854775807 by omega), go_sem, Nat.reduceEqDiff, reduceIte, Nat.reduceAdd, Nat.reduceLeDiff, Nat.reduceLT, Nat.reduceSub]
    exact ⟨i + 1, by omega, by omega, by simp ⟩
  · have e : i = k := by omega
    subst e
    simp -implicitDefEqProofs only [leafA, innerA, nodeA, patchA, Leaf.cells, Inner.cells, Node.cells, decide_true, decide_false, hlt, go_sem, Nat.reduceEqDiff, reduceIte, Nat.reduceAdd, Nat.reduceLeDiff, Nat.reduceLT, Nat.reduceSub]
theorem powerI_spec (k : Int) (h : 0 ≤ k ∧ k ≤ 7) : Fun seat 312 [.int .i64 k] (.int .i64 (2 ^ k.toNat)) := by
  have := power_spec k.toNat (by omega)
  rwa [show ((k.toNat : Nat) : Int) = k by omega] at this
noncomputable def r312 : Reg seat := .of told312 (ask1 (fun a0' => isI a0' ∧ 0 ≤ (dI a0') ∧ (dI a0') ≤ 7) fun a0' => .fn (.int .i64 (2 ^ (dI a0').toNat))) (ask1_ok fun a0' h => SaidOk.fn (Fun.weak (.cons (isI.weak h.1) .nil) (powerI_spec _ h.2)))
theorem r312_c : r312.c = 312 := rfl
open Classical in
theorem r312_ask (a0' : AV) : r312.ask [a0'] = if isI a0' ∧ 0 ≤ (dI a0') ∧ (dI a0') ≤ 7 then some (Said.fn (.int .i64 (2 ^ (dI a0').toNat))) else none := by unfold r312 Reg.of ask1; exact ite_cl
theorem refLeft_spec (x w : Int) : Fun seat 306 [.int .i64 x, .int .i64 w] (.int .i64 (leftI x w)) := by
  by_cases h : IsN x w
  rotate_left
  · have e : leftI x w = -1 := if_neg h
    rw [e]
    refine Fun.of0R [r309] told306 (by simp [il306]) (by simp [idb_patchA]) (by simp [idb_patchA]) 4 ?_
    simp -implicitDefEqProofs only [il306, List.zipIdx_cons, List.zipIdx_nil, leafA, innerA, nodeA, patchA, Leaf.cells, Inner.cells, Node.cells, r309_c, r309_ask, decide_true, decide_false, h, go_sem, Nat.reduceEqDiff, reduceIte, Nat.reduceAdd, Nat.reduceLeDiff, Nat.reduceLT, Nat.reduceSub]
  have hl := lev_le h
  have hb := h.lt
  have e := level_in h
  unfold leftI
  rw [if_pos h]
  by_cases hk : lev x.toNat = 0
  · rw [if_pos hk]
    have g : (((lev x.toNat : Nat) : Int) = 0) = True := eq_true (by omega)
    refine Fun.of0R [r309, r311] told306 (by simp [il306]) (by simp [idb_patchA]) (by simp [idb_patchA]) 4 ?_
    simp -implicitDefEqProofs only [il306, List.zipIdx_cons, List.zipIdx_nil, leafA, innerA, nodeA, patchA, Leaf.cells, Inner.cells, Node.cells, r309_c, r309_ask, r311_c, r311_ask, decide_true, decide_false, h, e, g, go_sem, Nat.reduceEqDiff, reduceIte, Nat.reduceAdd, Nat.reduceLeDiff, Nat.reduceLT, Nat.reduceSub]
  · rw [if_neg hk]
    have g : ¬ ((lev x.toNat : Nat) : Int) = 0 := by omega
    have w1 : IntKind.i64.wrap (((lev x.toNat : Nat) : Int) - 1) = ((lev x.toNat : Nat) : Int) - 1 := wrap64 _ (by omega) (by omega)
    have p1 : 0 ≤ ((lev x.toNat : Nat) : Int) - 1 ∧ ((lev x.toNat : Nat) : Int) - 1 ≤ 7 := by omega
    have t1 : (((lev x.toNat : Nat) : Int) - 1).toNat = lev x.toNat - 1 := by omega
    have b := left_is h hk
    have hw := h.1.le
    have w2 : IntKind.i64.wrap (x - 2 ^ (lev x.toNat - 1)) = x - 2 ^ (lev x.toNat - 1) := wrap64 _ (by omega) (by omega)
    refine Fun.of0R [r309, r311, r312] told306 (by simp [il306]) (by simp [idb_patchA]) (by simp [idb_patchA]) 4 ?_
    simp -implicitDefEqProofs only [il306, List.zipIdx_cons, List.zipIdx_nil, leafA, innerA, nodeA, patchA, Leaf.cells, Inner.cells, Node.cells, r309_c, r309_ask, r311_c, r311_ask, r312_c, r312_ask, decide_true, decide_false, h, e, g, w1, p1, t1, w2, go_sem, Nat.reduceEqDiff, reduceIte, Nat.reduceAdd, Nat.reduceLeDiff, Nat.reduceLT, Nat.reduceSub]
noncomputable def r306 : Reg seat := .of told306 (ask2 (fun a0' a1' => isI a0' ∧ isI a1') fun a0' a1' => .fn (.int .i64 (leftI (dI a0') (dI a1')))) (ask2_ok fun a0' a1' h => SaidOk.fn (Fun.weak (.cons (isI.weak h.1) (.cons (isI.weak h.2) .nil)) (refLeft_spec _ _)))
theorem r306_c : r306.c = 306 := rfl
open Classical in
theorem r306_ask (a0' a1' : AV) : r306.ask [a0', a1'] = if isI a0' ∧ isI a1' then some (Said.fn (.int .i64 (leftI (dI a0') (dI a1')))) else none := by unfold r306 Reg.of ask2; exact ite_cl
theorem refRight_spec (x w : Int) : Fun seat 307 [.int .i64 x, .int .i64 w] (.int .i64 (rightI x w)) := by
  by_cases h : IsN x w
  rotate_left
  · have e : rightI x w = -1 := if_neg h
    rw [e]
    refine Fun.of0R [r309] told307 (by simp [il307]) (by simp [idb_patchA]) (by simp [idb_patchA]) 4 ?_
    simp -implicitDefEqProofs only [il307, List.zipIdx_cons, List.zipIdx_nil, leafA, innerA, nodeA, patchA, Leaf.cells, Inner.cells, Node.cells, r309_c, r309_ask, decide_true, decide_false, h, go_sem, Nat.reduceEqDiff, reduceIte, Nat.reduceAdd, Nat.reduceLeDiff, Nat.reduceLT, Nat.reduceSub]
  have hl := lev_le h
  have hb := h.lt
  have e := level_in h
  unfold rightI
  rw [if_pos h]
  by_cases hk : lev x.toNat = 0
  · rw [if_pos hk]
    have g : (((lev x.toNat : Nat) : Int) = 0) = True := eq_true (by omega)
    refine Fun.of0R [r309, r311] told307 (by simp [il307]) (by simp [idb_patchA]) (by simp [idb_patchA]) 4 ?_
    simp -implicitDefEqProofs only [il307, List.zipIdx_cons, List.zipIdx_nil, leafA, innerA, nodeA, patchA, Leaf.cells, Inner.cells, Node.cells, r309_c, r309_ask, r311_c, r311_ask, decide_true, decide_false, h, e, g, go_sem, Nat.reduceEqDiff, reduceIte, Nat.reduceAdd, Nat.reduceLeDiff, Nat.reduceLT, Nat.reduceSub]
  · rw [if_neg hk]
    have g : ¬ ((lev x.toNat : Nat) : Int) = 0 := by omega
    have w1 : IntKind.i64.wrap (((lev x.toNat : Nat) : Int) - 1) = ((lev x.toNat : Nat) : Int) - 1 := wrap64 _ (by omega) (by omega)
    have p1 : 0 ≤ ((lev x.toNat : Nat) : Int) - 1 ∧ ((lev x.toNat : Nat) : Int) - 1 ≤ 7 := by omega
    have t1 : (((lev x.toNat : Nat) : Int) - 1).toNat = lev x.toNat - 1 := by omega
    have b := left_is h hk
    have hw := h.1.le
    have w2 : IntKind.i64.wrap (x + 2 ^ (lev x.toNat - 1)) = x + 2 ^ (lev x.toNat - 1) := wrap64 _ (by omega) (by omega)
    refine Fun.of0R [r309, r311, r312] told307 (by simp [il307]) (by simp [idb_patchA]) (by simp [idb_patchA]) 4 ?_
    simp -implicitDefEqProofs only [il307, List.zipIdx_cons, List.zipIdx_nil, leafA, innerA, nodeA, patchA, Leaf.cells, Inner.cells, Node.cells, r309_c, r309_ask, r311_c, r311_ask, r312_c, r312_ask, decide_true, decide_false, h, e, g, w1, p1, t1, w2, go_sem, Nat.reduceEqDiff, reduceIte, Nat.reduceAdd, Nat.reduceLeDiff, Nat.reduceLT, Nat.reduceSub]
noncomputable def r307 : Reg seat := .of told307 (ask2 (fun a0' a1' => isI a0' ∧ isI a1') fun a0' a1' => .fn (.int .i64 (rightI (dI a0') (dI a1')))) (ask2_ok fun a0' a1' h => SaidOk.fn (Fun.weak (.cons (isI.weak h.1) (.cons (isI.weak h.2) .nil)) (refRight_spec _ _)))
theorem r307_c : r307.c = 307 := rfl
open Classical in
theorem r307_ask (a0' a1' : AV) : r307.ask [a0', a1'] = if isI a0' ∧ isI a1' then some (Said.fn (.int .i64 (rightI (dI a0') (dI a1')))) else none := by unfold r307 Reg.of ask2; exact ite_cl
theorem refParent_spec (x w : Int) : Fun seat 305 [.int .i64 x, .int .i64 w] (.int .i64 (parI x w)) := by
  by_cases h : IsN x w
  rotate_left
  · have e : parI x w = -1 := if_neg h
    rw [e]
    refine Fun.of0R [r309] told305 (by simp [il305]) (by simp [idb_patchA]) (by simp [idb_patchA]) 4 ?_
    simp -implicitDefEqProofs only [il305, List.zipIdx_cons, List.zipIdx_nil, leafA, innerA, nodeA, patchA, Leaf.cells, Inner.cells, Node.cells, r309_c, r309_ask, decide_true, decide_false, h, go_sem, Nat.reduceEqDiff, reduceIte, Nat.reduceAdd, Nat.reduceLeDiff, Nat.reduceLT, Nat.reduceSub]
  have hl := lev_le h
  have hb := h.lt
  have e := level_in h
  have hw := h.1
  unfold parI
  rw [if_pos h]
  by_cases hr : x = w / 2
  · rw [if_pos hr]
    refine Fun.of0R [r309, r310] told305 (by simp [il305]) (by simp [idb_patchA]) (by simp [idb_patchA]) 4 ?_
    simp -implicitDefEqProofs only [il305, List.zipIdx_cons, List.zipIdx_nil, leafA, innerA, nodeA, patchA, Leaf.cells, Inner.cells, Node.cells, r309_c, r309_ask, r310_c, r310_ask, decide_true, decide_false, h, hw, eq_true hr, go_sem, Nat.reduceEqDiff, reduceIte, Nat.reduceAdd, Nat.reduceLeDiff, Nat.reduceLT, Nat.reduceSub]
  · rw [if_neg hr]
    obtain ⟨q1, q2, q3, q4⟩ := par_ref h
    rw [q2]
    have w1 : IntKind.i64.wrap (((lev x.toNat : Nat) : Int) + 1) = ((lev x.toNat : Nat) : Int) + 1 := wrap64 _ (by omega) (by omega)
    have p1 : 0 ≤ ((lev x.toNat : Nat) : Int) + 1 ∧ ((lev x.toNat : Nat) : Int) + 1 ≤ 7 := by omega
    have p2 : 0 ≤ ((lev x.toNat : Nat) : Int) ∧ ((lev x.toNat : Nat) : Int) ≤ 7 := by omega
    have t1 : (((lev x.toNat : Nat) : Int) + 1).toNat = lev x.toNat + 1 := by omega
    have t2 : (((lev x.toNat : Nat) : Int)).toNat = lev x.toNat := by omega
    have w2 : IntKind.i64.wrap (x + 2 ^ lev x.toNat) = x + 2 ^ lev x.toNat := wrap64 _ (by omega) (by omega)
    have w3 : IntKind.i64.wrap (x - 2 ^ lev x.toNat) = x - 2 ^ lev x.toNat := wrap64 _ (by omega) (by omega)
    have nz : ¬ (2 : Int) ^ (lev x.toNat + 1) = 0 := by rw [Int.pow_succ]; omega
    by_cases hp : (x / 2 ^ (lev x.toNat + 1)).tmod 2 = 0
    · rw [if_pos hp]
      refine Fun.of0R [r309, r310, r311, r312] told305 (by simp [il305]) (by simp [idb_patchA]) (by simp [idb_patchA]) 4 ?_
      simp -implicitDefEqProofs only [il305, List.zipIdx_cons, List.zipIdx_nil, leafA, innerA, nodeA, patchA, Leaf.cells, Inner.cells, Node.cells, r309_c, r309_ask, r310_c, r310_ask, r311_c, r311_ask, r312_c, r312_ask, decide_true, decide_false, h, hw, hr, e, w1, p1, p2, t1, t2, w2, q1, eq_true hp, nz, go_sem, Nat.reduceEqDiff, reduceIte, Nat.reduceAdd, Nat.reduceLeDiff, Nat.reduceLT, Nat.reduceSub]
    · rw [if_neg hp]
      refine Fun.of0R [r309, r310, r311, r312] told305 (by simp [il305]) (by simp [idb_patchA]) (by simp [idb_patchA]) 4 ?_
      simp -implicitDefEqProofs only [il305, List.zipIdx_cons, List.zipIdx_nil, leafA, innerA, nodeA, patchA, Leaf.cells, Inner.cells, Node.cells, r309_c, r309_ask, r310_c, r310_ask, r311_c, r311_ask, r312_c, r312_ask, decide_true, decide_false, h, hw, hr, e, w1, p1, p2, t1, t2, w3, q1, hp, nz, go_sem, Nat.reduceEqDiff, reduceIte, Nat.reduceAdd, Nat.reduceLeDiff, Nat.reduceLT, Nat.reduceSub]
noncomputable def r305 : Reg seat := .of told305 (ask2 (fun a0' a1' => isI a0' ∧ isI a1') fun a0' a1' => .fn (.int .i64 (parI (dI a0') (dI a1')))) (ask2_ok fun a0' a1' h => SaidOk.fn (Fun.weak (.cons (isI.weak h.1) (.cons (isI.weak h.2) .nil)) (refParent_spec _ _)))
theorem r305_c : r305.c = 305 := rfl
open Classical in
theorem r305_ask (a0' a1' : AV) : r305.ask [a0', a1'] = if isI a0' ∧ isI a1' then some (Said.fn (.int .i64 (parI (dI a0') (dI a1')))) else none := by unfold r305 Reg.of ask2; exact ite_cl
theorem refSibling_spec (x w : Int) : Fun seat 308 [.int .i64 x, .int .i64 w] (.int .i64 (sibI x w)) := by
  by_cases hp : parI x w < 0
  · have e : sibI x w = -1 := if_pos hp
    rw [e]
    refine Fun.of0R [r305] told308 (by simp [il308]) (by simp [idb_patchA]) (by simp [idb_patchA]) 4 ?_
    simp -implicitDefEqProofs only [il308, List.zipIdx_cons, List.zipIdx_nil, leafA, innerA, nodeA, patchA, Leaf.cells, Inner.cells, Node.cells, r305_c, r305_ask, decide_true, decide_false, hp, go_sem, Nat.reduceEqDiff, reduceIte, Nat.reduceAdd, Nat.reduceLeDiff, Nat.reduceLT, Nat.reduceSub]
  · have hx : IsN x w := by
      by_cases hx : IsN x w
      · exact hx
      · unfold parI at hp; rw [if_neg hx] at hp; omega
    obtain ⟨_, _, _, s4⟩ := (sib_par hx).2 (by omega)
    by_cases hl : leftI (parI x w) w = x
    · rw [if_pos hl] at s4
      refine Fun.of0R [r305, r306, r307] told308 (by simp [il308]) (by simp [idb_patchA]) (by simp [idb_patchA]) 4 ?_
      simp -implicitDefEqProofs only [il308, List.zipIdx_cons, List.zipIdx_nil, leafA, innerA, nodeA, patchA, Leaf.cells, Inner.cells, Node.cells, r305_c, r305_ask, r306_c, r306_ask, r307_c, r307_ask, decide_true, decide_false, hp, eq_true hl, s4, go_sem, Nat.reduceEqDiff, reduceIte, Nat.reduceAdd, Nat.reduceLeDiff, Nat.reduceLT, Nat.reduceSub]
    · rw [if_neg hl] at s4
      have hl2 : ¬ sibI x w = x := by rw [← s4]; exact hl
      refine Fun.of0R [r305, r306, r307] told308 (by simp [il308]) (by simp [idb_patchA]) (by simp [idb_patchA]) 4 ?_
      simp -implicitDefEqProofs only [il308, List.zipIdx_cons, List.zipIdx_nil, leafA, innerA, nodeA, patchA, Leaf.cells, Inner.cells, Node.cells, r305_c, r305_ask, r306_c, r306_ask, r307_c, r307_ask, decide_true, decide_false, hp, hl2, s4, go_sem, Nat.reduceEqDiff, reduceIte, Nat.reduceAdd, Nat.reduceLeDiff, Nat.reduceLT, Nat.reduceSub]
noncomputable def r308 : Reg seat := .of told308 (ask2 (fun a0' a1' => isI a0' ∧ isI a1') fun a0' a1' => .fn (.int .i64 (sibI (dI a0') (dI a1')))) (ask2_ok fun a0' a1' h => SaidOk.fn (Fun.weak (.cons (isI.weak h.1) (.cons (isI.weak h.2) .nil)) (refSibling_spec _ _)))
theorem r308_c : r308.c = 308 := rfl
open Classical in
theorem r308_ask (a0' a1' : AV) : r308.ask [a0', a1'] = if isI a0' ∧ isI a1' then some (Said.fn (.int .i64 (sibI (dI a0') (dI a1')))) else none := by unfold r308 Reg.of ask2; exact ite_cl
end Go.Proofs.YtlehcigcaihoaaaGreatDoor.Al
