/-
  SPECS: where nodes stand in a row.
-/
import Derived.Test.YtihhinbjhiankaaGreatDoorAlS2
import Derived.Test.YtihhinbjhiankaaGreatDoorAlP13
import Derived.Shelf.Spec.TrailingZeros
set_option linter.unusedSimpArgs false
set_option linter.unusedVariables false
namespace Go.Proofs.YtihhinbjhiankaaGreatDoor.Al
open Go
attribute [local go_sem] W_mv W_pick W_alloc W_box W_build W_bslice W_load W_store W_nilck W_bin W_isnil W_un W_convI W_convS W_mkiface W_mkfunc W_mkslice W_slice W_faddr W_field W_iaddr W_iaddrA W_idxA W_extract W_len W_lenS W_lenA W_min W_max W_append W_appendZ W_copy W_clear W_tassert W_invoke thenQ_normal thenQ_exit thenQ_goto thenQ_ret blockQ_normal blockQ_ret blockQ_goto blockQ_exit wpc_skip wpc_region wpc_draw wpc_seq wpc_cond wpc_block wpc_exit wpc_goto wpc_label wpc_ret wpc_loop wpc_range wpc_scope condW_true condW_false condW_dec condW_any W_nil W_call resW_some evalOp Opd.ev updo_envL updo_none setL_cons setL_nil envL_cons Option.map_some Option.bind_some evBin evInt List.map_cons List.map_nil Option.pure_def Option.bind_eq_bind W_grd' grdW_tt grdW_ff grdW_tf grdW_ft grdW_tup grdW_dt grdW_df lgrdW_tt lgrdW_ff lgrdW_tf lgrdW_ft lgrdW_tup lgrdW_dt lgrdW_df L_mv L_pick L_alloc L_box L_build L_bslice L_load L_store L_nilck L_bin L_isnil L_un L_convI L_convS L_mkiface L_mkfunc L_mkslice L_slice L_faddr L_field L_iaddr L_iaddrA L_idxA L_extract L_len L_lenS L_lenA L_min L_max L_append L_appendZ L_copy L_clear L_tassert L_nil L_call L_grd lresW_some upd_envL evUn beq_dec bne_dec leaves_ret1 leaves_end1 leaves_ret0 leaves_end0 leaves_ret2 leaves_ret3 rowLen_ints load_iptr0 not_dec heap_get0 heap_get1 heap_set0 heap_set1 heap_len1 heap_len2 heap_app heap_app2 bslice1_int seen_ints seen_one0 seen_one1 seen_one2 rowLen_own0 bslice0_int rowLen_own1 Nat.sub_zero Bool.not_true Bool.not_false List.length_nil List.length_cons List.nil_append List.cons_append Nat.zero_add load_iptrA canon_ptrI canon_bool canon_tup canon_agg canon_leafA canon_innerA canon_nodeA canon_ints' rowLen_ints0 seen_ints0 canon_ints0 rowLen_ints1 seen_ints1 canon_ints1 rowLen_ints2 seen_ints2 canon_ints2 rowLen_ints3 seen_ints3 canon_ints3 rowLen_octs seen_octs canon_octs' szOk_octs rowLen_octs0 seen_octs0 canon_octs0 rowLen_octs1 seen_octs1 canon_octs1 rowLen_octs2 seen_octs2 canon_octs2 rowLen_octs3 seen_octs3 canon_octs3 rowLen_intss seen_intss canon_intss' szOk_intss rowLen_intss0 seen_intss0 canon_intss0 rowLen_intss1 seen_intss1 canon_intss1 rowLen_intss2 seen_intss2 canon_intss2 rowLen_intss3 seen_intss3 canon_intss3 rowLen_octss seen_octss canon_octss' szOk_octss rowLen_octss0 seen_octss0 canon_octss0 rowLen_octss1 seen_octss1 canon_octss1 rowLen_octss2 seen_octss2 canon_octss2 rowLen_octss3 seen_octss3 canon_octss3 rowLen_nodes seen_nodes canon_nodes' szOk_nodes rowLen_nodes0 seen_nodes0 canon_nodes0 rowLen_nodes1 seen_nodes1 canon_nodes1 rowLen_nodes2 seen_nodes2 canon_nodes2 rowLen_nodes3 seen_nodes3 canon_nodes3 seen_list cells_int oneIn_int cells_bool oneIn_bool cells_str oneIn_str cells_list oneIn_list cells_func oneIn_func cells_nilfunc oneIn_nilfunc cells_iptr oneIn_iptr cells_iface oneIn_iface cells_nilIface oneIn_nilIface cells_own cells_ptr cells_anybool oneIn_anybool cells_agg oneIn_own0 oneIn_ptr0 seenL0 seenM0 oneIn_own1 oneIn_ptr1 seenL1 seenM1 oneIn_own2 oneIn_ptr2 seenL2 seenM2 oneIn_own3 oneIn_ptr3 seenL3 seenM3 oneIn_own4 oneIn_ptr4 seenL4 seenM4 oneIn_own5 oneIn_ptr5 seenL5 seenM5 cells_ints oneIn_ints cells_octs oneIn_octs cells_intss oneIn_intss cells_octss oneIn_octss cells_nodes oneIn_nodes ldB0 ldA0 adB0 stB0 ldB1 ldA1 adB1 stB1 ldB2 ldA2 adB2 stB2 ldB3 ldA3 adB3 stB3 ldB4 ldA4 adB4 stB4 ldB5 ldA5 adB5 stB5 List.getElem?_cons_zero List.getElem?_cons_succ beq_self_eq_true splice List.take_zero List.take_succ_cons List.drop_zero List.drop_succ_cons List.append_nil List.set_cons_zero List.set_cons_succ List.all_cons List.all_nil Bool.and_self and_self and_true true_and Nat.lt_irrefl Nat.zero_lt_one Nat.le_refl fillA evNil notA Bool.false_eq_true evMin_int evMax_int Option.map_none freezeP_all_nil freezeP_all_cons frzE_box frzE_arr frzE_dead foldA List.foldlM_cons List.foldlM_nil callW_f lcallW_f ansW_fn ansW_own lansW_fn lansW_own ansW_none lansW_none tab_cons tab_nil dI_int dB_bool dO_octs dO_ints dO_list dO_nil dOs_octss dOs_intss dOs_nil dLf_leafA dIn_innerA dN_nodeA dLf_agg dIn_agg dN_agg dNs_nodes dNs_list dNs_nil isI_int isU_int isB_bool isO_octs isO_nil isO_list isS_ints isS_nil isS_list isOs_octss isSs_intss isOs_nil isSs_nil isNs_nodes isNs_list isNs_nil isLf_leafA isIn_innerA isN_nodeA isLf_agg isIn_agg isN_agg leaf_eta inner_eta node_eta leaf_zero inner_zero node_zero dP_patchA dP_agg isP_patchA isP_agg patch_eta decide_eq_true_eq decide_eq_false_iff_not eq_self forall_const true_implies false_implies Bool.not_eq_true' Bool.not_eq_false' Bool.true_eq_false implies_true ne_eq ldI ldIA adI AV.tup.injEq AV.agg.injEq List.cons.injEq AV.int.injEq AV.bool.injEq nodes_inj octs_inj ints_inj nil_nodes nil_octs nil_ints canon_nilL decide_eq_decide two_ne four_ne b256_ne lendA_fn lendA_own lendA_none llendA_fn llendA_none plain_bool plain_int plain_tup2 isNs_own isO_own isS_own isOs_own false_and and_false Q_nil Q_l Q_g Q_h Q_grd qgrdW_b qgrdW_tup lightD_some heavyD_some readD_some fnD_some fnD_own fnD_none callL_f ownH_some callH_f litD_some litE_some Q_call Q_bslice H_call pendOk_nil pendOk_cons pastOk_nil pastOk_cons Q_mv Q_pick Q_bin Q_un Q_convI Q_mkfunc Q_extract Q_min Q_max Q_lenS Q_lenA Q_field Q_idxA Q_mkiface Q_tassert Q_alloc Q_box Q_store Q_mkslice Q_append Q_appendZ Q_copy Q_clear Q_build Q_load Q_nilck Q_isnil Q_convS Q_slice Q_faddr Q_iaddr Q_iaddrA Q_len H_alloc H_box H_bslice H_store H_mkslice H_append H_appendZ H_copy H_clear free_mv free_pick free_bin free_un free_convI free_mkfunc free_extract free_min free_max free_lenS free_lenA free_field free_idxA free_mkiface free_tassert free_build free_load free_nilck free_isnil free_convS free_slice free_faddr free_iaddr free_iaddrA free_len callW_y List.length_map List.length_set leaves_r evR_some evRess1 evRess2 evRess3 evRes_t evRes_c nz_kind nz_enc nz_cred nz_source nz_parent nz_ienc nz_hash nz_un true_or or_true bsl_node idbs_node idbs_int appN appI appO ixo_nodes canon_row canon_rowI canon_rowO not_false_eq_true not_true_eq_false ldE_a ldE_c adE_b stE_b onE_a onP_b bsl_zero idbs_zero appN_zero
attribute [local go_sem low] condW_b grdW_b lgrdW_b ldP adP stP onO onPt
attribute [local simp] envL_cons envL_nil idb_int idb_bool idb_str idb_ints idb_nil idb_own idb_ptr entB_ints' idb_octs entB_octs idb_intss entB_intss idb_octss entB_octss idb_nodes entB_nodes idb_leafA idb_innerA idb_nodeA idb_agg idb_tup idb_iptr idb_fn idb_undef entB_dead entB_box

theorem tz_spec (x : Nat) (hx : x < 18446744073709551616) : Fun seat 281 [.int .u64 x] (.int .i64 (Lib.ctz 64 x)) := by
  intro H m I X w vs hs hv
  obtain ⟨v, rfl, hw⟩ := args1 hv
  cases hw
  have ef : seat.fn 281 = lays727Ren.f 27 := rfl
  rw [ef]
  refine (Any7.bits_TrailingZeros lays727At x hx w (fun _ => ?_)).mono ?_
  · exact (hs.gl (lays727Ren.g 1, Lib.deBruijn64tab) (by simp [seat]; rfl)).2
  · rintro e' w' ⟨rfl, rfl⟩
    exact ⟨_, H, _, m, I, rfl, ⟨rfl, rfl⟩, .int _ _, hs, .refl m, fun _ hb => hb, .refl I X _⟩
theorem lev_ctz : ∀ n, n < 127 → Lib.ctz 64 (18446744073709551615 - n) = lev n := by decide +kernel
theorem isN_spec (x w : Int) : Fun seat 257 [.int .i64 x, .int .i64 w] (.bool (decide (IsN x w))) := by
  by_cases h : Whole w
  · by_cases h0 : x ≥ 0
    · have e : IsN x w ↔ x < w := ⟨fun k => k.2.2, fun k => ⟨h, h0, k⟩⟩
      refine Fun.of0R [r125] told257 (by simp [il257]) (by simp [idb_patchA]) (by simp [idb_patchA]) 4 ?_
      simp -implicitDefEqProofs only [il257, List.zipIdx_cons, List.zipIdx_nil, leafA, innerA, nodeA, patchA, Leaf.cells, Inner.cells, Node.cells, r125_c, r125_ask, decide_true, decide_false, h, h0, e, go_sem, Nat.reduceEqDiff, reduceIte, Nat.reduceAdd, Nat.reduceLeDiff, Nat.reduceLT, Nat.reduceSub]
    · have e : ¬ IsN x w := fun k => h0 k.2.1
      refine Fun.of0R [r125] told257 (by simp [il257]) (by simp [idb_patchA]) (by simp [idb_patchA]) 4 ?_
      simp -implicitDefEqProofs only [il257, List.zipIdx_cons, List.zipIdx_nil, leafA, innerA, nodeA, patchA, Leaf.cells, Inner.cells, Node.cells, r125_c, r125_ask, decide_true, decide_false, h, h0, e, go_sem, Nat.reduceEqDiff, reduceIte, Nat.reduceAdd, Nat.reduceLeDiff, Nat.reduceLT, Nat.reduceSub]
  · have e : ¬ IsN x w := fun k => h k.1
    refine Fun.of0R [r125] told257 (by simp [il257]) (by simp [idb_patchA]) (by simp [idb_patchA]) 4 ?_
    simp -implicitDefEqProofs only [il257, List.zipIdx_cons, List.zipIdx_nil, leafA, innerA, nodeA, patchA, Leaf.cells, Inner.cells, Node.cells, r125_c, r125_ask, decide_true, decide_false, h, e, go_sem, Nat.reduceEqDiff, reduceIte, Nat.reduceAdd, Nat.reduceLeDiff, Nat.reduceLT, Nat.reduceSub]
noncomputable def r257 : Reg seat := .of told257 (ask2 (fun a0' a1' => isI a0' ∧ isI a1') fun a0' a1' => .fn (.bool (decide (IsN (dI a0') (dI a1'))))) (ask2_ok fun a0' a1' h => SaidOk.fn (Fun.weak (.cons (isI.weak h.1) (.cons (isI.weak h.2) .nil)) (isN_spec _ _)))
theorem r257_c : r257.c = 257 := rfl
open Classical in
theorem r257_ask (a0' a1' : AV) : r257.ask [a0', a1'] = if isI a0' ∧ isI a1' then some (Said.fn (.bool (decide (IsN (dI a0') (dI a1'))))) else none := by unfold r257 Reg.of ask2; exact ite_cl
theorem level_spec (x : Int) : Fun seat 279 [.int .i64 x] (.int .i64 (level x)) := by
  by_cases h0 : x < 0
  · have e : level x = -1 := if_neg (by omega)
    rw [e]
    refine Fun.of0R [] told279 (by simp [il279]) (by simp [idb_patchA]) (by simp [idb_patchA]) 4 ?_
    simp -implicitDefEqProofs only [il279, List.zipIdx_cons, List.zipIdx_nil, leafA, innerA, nodeA, patchA, Leaf.cells, Inner.cells, Node.cells, decide_true, decide_false, h0, go_sem, Nat.reduceEqDiff, reduceIte, Nat.reduceAdd, Nat.reduceLeDiff, Nat.reduceLT, Nat.reduceSub]
  by_cases h1 : x ≥ 127
  · have e : level x = -1 := if_neg (by omega)
    rw [e]
    refine Fun.of0R [] told279 (by simp [il279]) (by simp [idb_patchA]) (by simp [idb_patchA]) 4 ?_
    simp -implicitDefEqProofs only [il279, List.zipIdx_cons, List.zipIdx_nil, leafA, innerA, nodeA, patchA, Leaf.cells, Inner.cells, Node.cells, decide_true, decide_false, h0, h1, go_sem, Nat.reduceEqDiff, reduceIte, Nat.reduceAdd, Nat.reduceLeDiff, Nat.reduceLT, Nat.reduceSub]
  have e : level x = lev x.toNat := if_pos (by omega)
  rw [e]
  have hn : x.toNat < 127 := by omega
  have lc := lev_ctz _ hn
  have sg : (IntKind.u64.signed = true) = False := by simp [IntKind.signed]
  have bx : bits BinOp.xor IntKind.u64 IntKind.u64.max (IntKind.u64.wrap x) = ((18446744073709551615 - x.toNat : Nat) : Int) := by
    have key : ∀ n : Nat, n < 127 → bits BinOp.xor IntKind.u64 IntKind.u64.max (IntKind.u64.wrap (n : Int)) = ((18446744073709551615 - n : Nat) : Int) := by decide +kernel
    have := key _ hn
    rwa [show ((x.toNat : Nat) : Int) = x by omega] at this
  refine Fun.of0R [] told279 (by simp [il279]) (by simp [idb_patchA]) (by simp [idb_patchA]) 4 ?_
  simp -implicitDefEqProofs only [il279, List.zipIdx_cons, List.zipIdx_nil, leafA, innerA, nodeA, patchA, Leaf.cells, Inner.cells, Node.cells, decide_true, decide_false, h0, h1, sg, bx, go_sem, Nat.reduceEqDiff, reduceIte, Nat.reduceAdd, Nat.reduceLeDiff, Nat.reduceLT, Nat.reduceSub]
  refine Callee.f told281 (tz_spec _ (by omega)) ?_
  simp -implicitDefEqProofs only [leafA, innerA, nodeA, patchA, Leaf.cells, Inner.cells, Node.cells, decide_true, decide_false, lc, go_sem, Nat.reduceEqDiff, reduceIte, Nat.reduceAdd, Nat.reduceLeDiff, Nat.reduceLT, Nat.reduceSub]
noncomputable def r279 : Reg seat := .of told279 (ask1 (fun a0' => isI a0') fun a0' => .fn (.int .i64 (level (dI a0')))) (ask1_ok fun a0' h => SaidOk.fn (Fun.weak (.cons (isI.weak h) .nil) (level_spec _)))
theorem r279_c : r279.c = 279 := rfl
open Classical in
theorem r279_ask (a0' : AV) : r279.ask [a0'] = if isI a0' then some (Said.fn (.int .i64 (level (dI a0')))) else none := by unfold r279 Reg.of ask1; exact ite_cl
/-- Two to the power of k. -/
theorem shl1 (k : Int) (h : 0 ≤ k ∧ k ≤ 7) : evShift .shl .i64 1 k = some (.int .i64 (2 ^ k.toNat)) := by
  rcases (by omega : k = 0 ∨ k = 1 ∨ k = 2 ∨ k = 3 ∨ k = 4 ∨ k = 5 ∨ k = 6 ∨ k = 7) with rfl | rfl | rfl | rfl | rfl | rfl | rfl | rfl <;> rfl
theorem level_in {x w : Int} (h : IsN x w) : level x = lev x.toNat := if_pos h.lt
theorem left_is {x w : Int} (h : IsN x w) (hk : ¬ lev x.toNat = 0) : 0 ≤ x - 2 ^ (lev x.toNat - 1) ∧ x + 2 ^ (lev x.toNat - 1) < w ∧ (0 : Int) ≤ 2 ^ (lev x.toNat - 1) := by
  have := IsN.all (p := fun y n => ¬ lev y = 0 → 0 ≤ (y : Int) - 2 ^ (lev y - 1) ∧ (y : Int) + 2 ^ (lev y - 1) < (n : Int) ∧ (0 : Int) ≤ 2 ^ (lev y - 1)) (by decide +kernel) h
  rw [h.cast.1, h.cast.2] at this
  exact this hk
theorem left_spec (x w : Int) (h : IsN x w) : Fun seat 271 [.int .i64 w, .int .i64 x] (.int .i64 (leftI x w)) := by
  have hl := lev_le h
  have hb := h.lt
  have e := level_in h
  unfold leftI
  rw [if_pos h]
  by_cases hk : lev x.toNat = 0
  · rw [if_pos hk]
    have g : ¬ ((lev x.toNat : Nat) : Int) > 0 := by omega
    refine Fun.of0R [r279] told271 (by simp [il271]) (by simp [idb_patchA]) (by simp [idb_patchA]) 4 ?_
    simp -implicitDefEqProofs only [il271, List.zipIdx_cons, List.zipIdx_nil, leafA, innerA, nodeA, patchA, Leaf.cells, Inner.cells, Node.cells, r279_c, r279_ask, decide_true, decide_false, e, g, go_sem, Nat.reduceEqDiff, reduceIte, Nat.reduceAdd, Nat.reduceLeDiff, Nat.reduceLT, Nat.reduceSub]
  · rw [if_neg hk]
    have g : ((lev x.toNat : Nat) : Int) > 0 := by omega
    have w1 : IntKind.i64.wrap (((lev x.toNat : Nat) : Int) - 1) = ((lev x.toNat : Nat) : Int) - 1 := wrap64 _ (by omega) (by omega)
    have s1 := shl1 (((lev x.toNat : Nat) : Int) - 1) (by omega)
    rw [show (((lev x.toNat : Nat) : Int) - 1).toNat = lev x.toNat - 1 by omega] at s1
    have b := left_is h hk
    have hw := h.1.le
    have w2 : IntKind.i64.wrap (x - 2 ^ (lev x.toNat - 1)) = x - 2 ^ (lev x.toNat - 1) := wrap64 _ (by omega) (by omega)
    refine Fun.of0R [r279] told271 (by simp [il271]) (by simp [idb_patchA]) (by simp [idb_patchA]) 4 ?_
    simp -implicitDefEqProofs only [il271, List.zipIdx_cons, List.zipIdx_nil, leafA, innerA, nodeA, patchA, Leaf.cells, Inner.cells, Node.cells, r279_c, r279_ask, decide_true, decide_false, e, g, w1, s1, w2, go_sem, Nat.reduceEqDiff, reduceIte, Nat.reduceAdd, Nat.reduceLeDiff, Nat.reduceLT, Nat.reduceSub]
noncomputable def r271 : Reg seat := .of told271 (ask2 (fun a0' a1' => isI a0' ∧ isI a1' ∧ IsN (dI a1') (dI a0')) fun a0' a1' => .fn (.int .i64 (leftI (dI a1') (dI a0')))) (ask2_ok fun a0' a1' h => SaidOk.fn (Fun.weak (.cons (isI.weak h.1) (.cons (isI.weak h.2.1) .nil)) (left_spec _ _ h.2.2)))
theorem r271_c : r271.c = 271 := rfl
open Classical in
theorem r271_ask (a0' a1' : AV) : r271.ask [a0', a1'] = if isI a0' ∧ isI a1' ∧ IsN (dI a1') (dI a0') then some (Said.fn (.int .i64 (leftI (dI a1') (dI a0')))) else none := by unfold r271 Reg.of ask2; exact ite_cl
theorem right_spec (x w : Int) (h : IsN x w) : Fun seat 272 [.int .i64 w, .int .i64 x] (.int .i64 (rightI x w)) := by
  have hl := lev_le h
  have hb := h.lt
  have e := level_in h
  unfold rightI
  rw [if_pos h]
  by_cases hk : lev x.toNat = 0
  · rw [if_pos hk]
    have g : ¬ ((lev x.toNat : Nat) : Int) > 0 := by omega
    refine Fun.of0R [r279] told272 (by simp [il272]) (by simp [idb_patchA]) (by simp [idb_patchA]) 4 ?_
    simp -implicitDefEqProofs only [il272, List.zipIdx_cons, List.zipIdx_nil, leafA, innerA, nodeA, patchA, Leaf.cells, Inner.cells, Node.cells, r279_c, r279_ask, decide_true, decide_false, e, g, go_sem, Nat.reduceEqDiff, reduceIte, Nat.reduceAdd, Nat.reduceLeDiff, Nat.reduceLT, Nat.reduceSub]
  · rw [if_neg hk]
    have g : ((lev x.toNat : Nat) : Int) > 0 := by omega
    have w1 : IntKind.i64.wrap (((lev x.toNat : Nat) : Int) - 1) = ((lev x.toNat : Nat) : Int) - 1 := wrap64 _ (by omega) (by omega)
    have s1 := shl1 (((lev x.toNat : Nat) : Int) - 1) (by omega)
    rw [show (((lev x.toNat : Nat) : Int) - 1).toNat = lev x.toNat - 1 by omega] at s1
    have b := left_is h hk
    have hw := h.1.le
    have w2 : IntKind.i64.wrap (x + 2 ^ (lev x.toNat - 1)) = x + 2 ^ (lev x.toNat - 1) := wrap64 _ (by omega) (by omega)
    refine Fun.of0R [r279] told272 (by simp [il272]) (by simp [idb_patchA]) (by simp [idb_patchA]) 4 ?_
    simp -implicitDefEqProofs only [il272, List.zipIdx_cons, List.zipIdx_nil, leafA, innerA, nodeA, patchA, Leaf.cells, Inner.cells, Node.cells, r279_c, r279_ask, decide_true, decide_false, e, g, w1, s1, w2, go_sem, Nat.reduceEqDiff, reduceIte, Nat.reduceAdd, Nat.reduceLeDiff, Nat.reduceLT, Nat.reduceSub]
noncomputable def r272 : Reg seat := .of told272 (ask2 (fun a0' a1' => isI a0' ∧ isI a1' ∧ IsN (dI a1') (dI a0')) fun a0' a1' => .fn (.int .i64 (rightI (dI a1') (dI a0')))) (ask2_ok fun a0' a1' h => SaidOk.fn (Fun.weak (.cons (isI.weak h.1) (.cons (isI.weak h.2.1) .nil)) (right_spec _ _ h.2.2)))
theorem r272_c : r272.c = 272 := rfl
open Classical in
theorem r272_ask (a0' a1' : AV) : r272.ask [a0', a1'] = if isI a0' ∧ isI a1' ∧ IsN (dI a1') (dI a0') then some (Said.fn (.int .i64 (rightI (dI a1') (dI a0')))) else none := by unfold r272 Reg.of ask2; exact ite_cl
theorem par_bits {x w : Int} (h : IsN x w) : bits .andNot .i64 (bits .or .i64 x (2 ^ lev x.toNat)) (2 ^ (lev x.toNat + 1)) = (parN x.toNat : Int) := by
  have := IsN.all (p := fun y _ => bits .andNot .i64 (bits .or .i64 (y : Int) (2 ^ lev y)) (2 ^ (lev y + 1)) = (parN y : Int)) (by decide +kernel) h
  rwa [h.cast.1] at this
theorem par_spec' (x w : Int) (h : IsN x w) : Fun seat 280 [.int .i64 w, .int .i64 x] (.int .i64 (parI x w)) := by
  have hl := lev_le h
  have e := level_in h
  have hw := h.1
  unfold parI
  rw [if_pos h]
  by_cases hr : x = w / 2
  · rw [if_pos hr]
    refine Fun.of0R [r109] told280 (by simp [il280]) (by simp [idb_patchA]) (by simp [idb_patchA]) 4 ?_
    simp -implicitDefEqProofs only [il280, List.zipIdx_cons, List.zipIdx_nil, leafA, innerA, nodeA, patchA, Leaf.cells, Inner.cells, Node.cells, r109_c, r109_ask, decide_true, decide_false, hw, eq_true hr, go_sem, Nat.reduceEqDiff, reduceIte, Nat.reduceAdd, Nat.reduceLeDiff, Nat.reduceLT, Nat.reduceSub]
  · rw [if_neg hr]
    have w1 : IntKind.i64.wrap (((lev x.toNat : Nat) : Int) + 1) = ((lev x.toNat : Nat) : Int) + 1 := wrap64 _ (by omega) (by omega)
    have s1 := shl1 ((lev x.toNat : Nat) : Int) (by omega)
    have s2 := shl1 (((lev x.toNat : Nat) : Int) + 1) (by omega)
    rw [Int.toNat_natCast] at s1
    rw [show (((lev x.toNat : Nat) : Int) + 1).toNat = lev x.toNat + 1 by omega] at s2
    have pb := par_bits h
    refine Fun.of0R [r109, r279] told280 (by simp [il280]) (by simp [idb_patchA]) (by simp [idb_patchA]) 4 ?_
    simp -implicitDefEqProofs only [il280, List.zipIdx_cons, List.zipIdx_nil, leafA, innerA, nodeA, patchA, Leaf.cells, Inner.cells, Node.cells, r109_c, r109_ask, r279_c, r279_ask, decide_true, decide_false, hw, hr, e, go_sem, Nat.reduceEqDiff, reduceIte, Nat.reduceAdd, Nat.reduceLeDiff, Nat.reduceLT, Nat.reduceSub]
    refine WP.drawQ [] [.l, .l, .l, .l, .l, .l, .l, .l, .l] mixed (by decide) ?_
    simp -implicitDefEqProofs only [leafA, innerA, nodeA, patchA, Leaf.cells, Inner.cells, Node.cells, decide_true, decide_false, w1, s1, s2, pb, go_sem, Nat.reduceEqDiff, reduceIte, Nat.reduceAdd, Nat.reduceLeDiff, Nat.reduceLT, Nat.reduceSub]
noncomputable def r280 : Reg seat := .of told280 (ask2 (fun a0' a1' => isI a0' ∧ isI a1' ∧ IsN (dI a1') (dI a0')) fun a0' a1' => .fn (.int .i64 (parI (dI a1') (dI a0')))) (ask2_ok fun a0' a1' h => SaidOk.fn (Fun.weak (.cons (isI.weak h.1) (.cons (isI.weak h.2.1) .nil)) (par_spec' _ _ h.2.2)))
theorem r280_c : r280.c = 280 := rfl
open Classical in
theorem r280_ask (a0' a1' : AV) : r280.ask [a0', a1'] = if isI a0' ∧ isI a1' ∧ IsN (dI a1') (dI a0') then some (Said.fn (.int .i64 (parI (dI a1') (dI a0')))) else none := by unfold r280 Reg.of ask2; exact ite_cl
theorem par_bd {x w : Int} (h : IsN x w) : -1 ≤ parI x w ∧ parI x w < 127 := by
  have := IsN.all (p := fun y n => -1 ≤ parI (y : Int) (n : Int) ∧ parI (y : Int) (n : Int) < 127) (by decide +kernel) h
  rwa [h.cast.1, h.cast.2] at this
theorem sib_spec' (x w : Int) (h : IsN x w) : Fun seat 276 [.int .i64 w, .int .i64 x] (.int .i64 (sibI x w)) := by
  have b := par_bd h
  have hx := h.lt
  unfold sibI
  by_cases hp : parI x w < 0
  · rw [if_pos hp]
    refine Fun.of0R [r280] told276 (by simp [il276]) (by simp [idb_patchA]) (by simp [idb_patchA]) 4 ?_
    simp -implicitDefEqProofs only [il276, List.zipIdx_cons, List.zipIdx_nil, leafA, innerA, nodeA, patchA, Leaf.cells, Inner.cells, Node.cells, r280_c, r280_ask, decide_true, decide_false, h, hp, go_sem, Nat.reduceEqDiff, reduceIte, Nat.reduceAdd, Nat.reduceLeDiff, Nat.reduceLT, Nat.reduceSub]
  · rw [if_neg hp]
    have w1 : IntKind.i64.wrap (2 * parI x w) = 2 * parI x w := wrap64 _ (by omega) (by omega)
    have w2 : IntKind.i64.wrap (2 * parI x w - x) = 2 * parI x w - x := wrap64 _ (by omega) (by omega)
    refine Fun.of0R [r280] told276 (by simp [il276]) (by simp [idb_patchA]) (by simp [idb_patchA]) 4 ?_
    simp -implicitDefEqProofs only [il276, List.zipIdx_cons, List.zipIdx_nil, leafA, innerA, nodeA, patchA, Leaf.cells, Inner.cells, Node.cells, r280_c, r280_ask, decide_true, decide_false, h, hp, w1, w2, go_sem, Nat.reduceEqDiff, reduceIte, Nat.reduceAdd, Nat.reduceLeDiff, Nat.reduceLT, Nat.reduceSub]
noncomputable def r276 : Reg seat := .of told276 (ask2 (fun a0' a1' => isI a0' ∧ isI a1' ∧ IsN (dI a1') (dI a0')) fun a0' a1' => .fn (.int .i64 (sibI (dI a1') (dI a0')))) (ask2_ok fun a0' a1' h => SaidOk.fn (Fun.weak (.cons (isI.weak h.1) (.cons (isI.weak h.2.1) .nil)) (sib_spec' _ _ h.2.2)))
theorem r276_c : r276.c = 276 := rfl
open Classical in
theorem r276_ask (a0' a1' : AV) : r276.ask [a0', a1'] = if isI a0' ∧ isI a1' ∧ IsN (dI a1') (dI a0') then some (Said.fn (.int .i64 (sibI (dI a1') (dI a0')))) else none := by unfold r276 Reg.of ask2; exact ite_cl
theorem leftI_not {x w : Int} (h : ¬ IsN x w) : leftI x w = -1 := if_neg h
theorem rightI_not {x w : Int} (h : ¬ IsN x w) : rightI x w = -1 := if_neg h
theorem parI_not {x w : Int} (h : ¬ IsN x w) : parI x w = -1 := if_neg h
theorem sibI_not {x w : Int} (h : ¬ IsN x w) : sibI x w = -1 := by unfold sibI; rw [parI_not h]; rfl
theorem ofL_spec (x w : Int) : Fun seat 270 [.func (.f 271) [] [], .int .i64 x, .int .i64 w] (.int .i64 (leftI x w)) := by
  by_cases h : IsN x w
  · refine Fun.of0R [r257, r271] told270 (by simp [il270]) (by simp [idb_patchA]) (by simp [idb_patchA]) 4 ?_
    simp -implicitDefEqProofs only [il270, List.zipIdx_cons, List.zipIdx_nil, leafA, innerA, nodeA, patchA, Leaf.cells, Inner.cells, Node.cells, r257_c, r257_ask, r271_c, r271_ask, decide_true, decide_false, h, go_sem, Nat.reduceEqDiff, reduceIte, Nat.reduceAdd, Nat.reduceLeDiff, Nat.reduceLT, Nat.reduceSub]
  · rw [leftI_not h]
    refine Fun.of0R [r257] told270 (by simp [il270]) (by simp [idb_patchA]) (by simp [idb_patchA]) 4 ?_
    simp -implicitDefEqProofs only [il270, List.zipIdx_cons, List.zipIdx_nil, leafA, innerA, nodeA, patchA, Leaf.cells, Inner.cells, Node.cells, r257_c, r257_ask, decide_true, decide_false, h, go_sem, Nat.reduceEqDiff, reduceIte, Nat.reduceAdd, Nat.reduceLeDiff, Nat.reduceLT, Nat.reduceSub]
noncomputable def r270l : Reg seat := .of told270 (ask3 (fun a0' a1' a2' => a0' = .func (.f 271) [] [] ∧ isI a1' ∧ isI a2') fun a0' a1' a2' => .fn (.int .i64 (leftI (dI a1') (dI a2')))) (ask3_ok fun a0' a1' a2' h => SaidOk.fn (Fun.weak (.cons (Weak.of_eq h.1) (.cons (isI.weak h.2.1) (.cons (isI.weak h.2.2) .nil))) (ofL_spec _ _)))
theorem r270l_c : r270l.c = 270 := rfl
open Classical in
theorem r270l_ask (a0' a1' a2' : AV) : r270l.ask [a0', a1', a2'] = if a0' = .func (.f 271) [] [] ∧ isI a1' ∧ isI a2' then some (Said.fn (.int .i64 (leftI (dI a1') (dI a2')))) else none := by unfold r270l Reg.of ask3; exact ite_cl
theorem ofR_spec (x w : Int) : Fun seat 270 [.func (.f 272) [] [], .int .i64 x, .int .i64 w] (.int .i64 (rightI x w)) := by
  by_cases h : IsN x w
  · refine Fun.of0R [r257, r272] told270 (by simp [il270]) (by simp [idb_patchA]) (by simp [idb_patchA]) 4 ?_
    simp -implicitDefEqProofs only [il270, List.zipIdx_cons, List.zipIdx_nil, leafA, innerA, nodeA, patchA, Leaf.cells, Inner.cells, Node.cells, r257_c, r257_ask, r272_c, r272_ask, decide_true, decide_false, h, go_sem, Nat.reduceEqDiff, reduceIte, Nat.reduceAdd, Nat.reduceLeDiff, Nat.reduceLT, Nat.reduceSub]
  · rw [rightI_not h]
    refine Fun.of0R [r257] told270 (by simp [il270]) (by simp [idb_patchA]) (by simp [idb_patchA]) 4 ?_
    simp -implicitDefEqProofs only [il270, List.zipIdx_cons, List.zipIdx_nil, leafA, innerA, nodeA, patchA, Leaf.cells, Inner.cells, Node.cells, r257_c, r257_ask, decide_true, decide_false, h, go_sem, Nat.reduceEqDiff, reduceIte, Nat.reduceAdd, Nat.reduceLeDiff, Nat.reduceLT, Nat.reduceSub]
noncomputable def r270r : Reg seat := .of told270 (ask3 (fun a0' a1' a2' => a0' = .func (.f 272) [] [] ∧ isI a1' ∧ isI a2') fun a0' a1' a2' => .fn (.int .i64 (rightI (dI a1') (dI a2')))) (ask3_ok fun a0' a1' a2' h => SaidOk.fn (Fun.weak (.cons (Weak.of_eq h.1) (.cons (isI.weak h.2.1) (.cons (isI.weak h.2.2) .nil))) (ofR_spec _ _)))
theorem r270r_c : r270r.c = 270 := rfl
open Classical in
theorem r270r_ask (a0' a1' a2' : AV) : r270r.ask [a0', a1', a2'] = if a0' = .func (.f 272) [] [] ∧ isI a1' ∧ isI a2' then some (Said.fn (.int .i64 (rightI (dI a1') (dI a2')))) else none := by unfold r270r Reg.of ask3; exact ite_cl
theorem ofP_spec (x w : Int) : Fun seat 270 [.func (.f 280) [] [], .int .i64 x, .int .i64 w] (.int .i64 (parI x w)) := by
  by_cases h : IsN x w
  · refine Fun.of0R [r257, r280] told270 (by simp [il270]) (by simp [idb_patchA]) (by simp [idb_patchA]) 4 ?_
    simp -implicitDefEqProofs only [il270, List.zipIdx_cons, List.zipIdx_nil, leafA, innerA, nodeA, patchA, Leaf.cells, Inner.cells, Node.cells, r257_c, r257_ask, r280_c, r280_ask, decide_true, decide_false, h, go_sem, Nat.reduceEqDiff, reduceIte, Nat.reduceAdd, Nat.reduceLeDiff, Nat.reduceLT, Nat.reduceSub]
  · rw [parI_not h]
    refine Fun.of0R [r257] told270 (by simp [il270]) (by simp [idb_patchA]) (by simp [idb_patchA]) 4 ?_
    simp -implicitDefEqProofs only [il270, List.zipIdx_cons, List.zipIdx_nil, leafA, innerA, nodeA, patchA, Leaf.cells, Inner.cells, Node.cells, r257_c, r257_ask, decide_true, decide_false, h, go_sem, Nat.reduceEqDiff, reduceIte, Nat.reduceAdd, Nat.reduceLeDiff, Nat.reduceLT, Nat.reduceSub]
noncomputable def r270p : Reg seat := .of told270 (ask3 (fun a0' a1' a2' => a0' = .func (.f 280) [] [] ∧ isI a1' ∧ isI a2') fun a0' a1' a2' => .fn (.int .i64 (parI (dI a1') (dI a2')))) (ask3_ok fun a0' a1' a2' h => SaidOk.fn (Fun.weak (.cons (Weak.of_eq h.1) (.cons (isI.weak h.2.1) (.cons (isI.weak h.2.2) .nil))) (ofP_spec _ _)))
theorem r270p_c : r270p.c = 270 := rfl
open Classical in
theorem r270p_ask (a0' a1' a2' : AV) : r270p.ask [a0', a1', a2'] = if a0' = .func (.f 280) [] [] ∧ isI a1' ∧ isI a2' then some (Said.fn (.int .i64 (parI (dI a1') (dI a2')))) else none := by unfold r270p Reg.of ask3; exact ite_cl
theorem ofS_spec (x w : Int) : Fun seat 270 [.func (.f 276) [] [], .int .i64 x, .int .i64 w] (.int .i64 (sibI x w)) := by
  by_cases h : IsN x w
  · refine Fun.of0R [r257, r276] told270 (by simp [il270]) (by simp [idb_patchA]) (by simp [idb_patchA]) 4 ?_
    simp -implicitDefEqProofs only [il270, List.zipIdx_cons, List.zipIdx_nil, leafA, innerA, nodeA, patchA, Leaf.cells, Inner.cells, Node.cells, r257_c, r257_ask, r276_c, r276_ask, decide_true, decide_false, h, go_sem, Nat.reduceEqDiff, reduceIte, Nat.reduceAdd, Nat.reduceLeDiff, Nat.reduceLT, Nat.reduceSub]
  · rw [sibI_not h]
    refine Fun.of0R [r257] told270 (by simp [il270]) (by simp [idb_patchA]) (by simp [idb_patchA]) 4 ?_
    simp -implicitDefEqProofs only [il270, List.zipIdx_cons, List.zipIdx_nil, leafA, innerA, nodeA, patchA, Leaf.cells, Inner.cells, Node.cells, r257_c, r257_ask, decide_true, decide_false, h, go_sem, Nat.reduceEqDiff, reduceIte, Nat.reduceAdd, Nat.reduceLeDiff, Nat.reduceLT, Nat.reduceSub]
noncomputable def r270s : Reg seat := .of told270 (ask3 (fun a0' a1' a2' => a0' = .func (.f 276) [] [] ∧ isI a1' ∧ isI a2') fun a0' a1' a2' => .fn (.int .i64 (sibI (dI a1') (dI a2')))) (ask3_ok fun a0' a1' a2' h => SaidOk.fn (Fun.weak (.cons (Weak.of_eq h.1) (.cons (isI.weak h.2.1) (.cons (isI.weak h.2.2) .nil))) (ofS_spec _ _)))
theorem r270s_c : r270s.c = 270 := rfl
open Classical in
theorem r270s_ask (a0' a1' a2' : AV) : r270s.ask [a0', a1', a2'] = if a0' = .func (.f 276) [] [] ∧ isI a1' ∧ isI a2' then some (Said.fn (.int .i64 (sibI (dI a1') (dI a2')))) else none := by unfold r270s Reg.of ask3; exact ite_cl
theorem ixLeft_spec (x w : Int) : Fun seat 259 [.int .i64 x, .int .i64 w] (.int .i64 (leftI x w)) := by
  refine Fun.of0R [r270l] told259 (by simp [il259]) (by simp [idb_patchA]) (by simp [idb_patchA]) 4 ?_
  simp -implicitDefEqProofs only [il259, List.zipIdx_cons, List.zipIdx_nil, leafA, innerA, nodeA, patchA, Leaf.cells, Inner.cells, Node.cells, r270l_c, r270l_ask, decide_true, decide_false, go_sem, Nat.reduceEqDiff, reduceIte, Nat.reduceAdd, Nat.reduceLeDiff, Nat.reduceLT, Nat.reduceSub]
noncomputable def r259 : Reg seat := .of told259 (ask2 (fun a0' a1' => isI a0' ∧ isI a1') fun a0' a1' => .fn (.int .i64 (leftI (dI a0') (dI a1')))) (ask2_ok fun a0' a1' h => SaidOk.fn (Fun.weak (.cons (isI.weak h.1) (.cons (isI.weak h.2) .nil)) (ixLeft_spec _ _)))
theorem r259_c : r259.c = 259 := rfl
open Classical in
theorem r259_ask (a0' a1' : AV) : r259.ask [a0', a1'] = if isI a0' ∧ isI a1' then some (Said.fn (.int .i64 (leftI (dI a0') (dI a1')))) else none := by unfold r259 Reg.of ask2; exact ite_cl
theorem ixRight_spec (x w : Int) : Fun seat 260 [.int .i64 x, .int .i64 w] (.int .i64 (rightI x w)) := by
  refine Fun.of0R [r270r] told260 (by simp [il260]) (by simp [idb_patchA]) (by simp [idb_patchA]) 4 ?_
  simp -implicitDefEqProofs only [il260, List.zipIdx_cons, List.zipIdx_nil, leafA, innerA, nodeA, patchA, Leaf.cells, Inner.cells, Node.cells, r270r_c, r270r_ask, decide_true, decide_false, go_sem, Nat.reduceEqDiff, reduceIte, Nat.reduceAdd, Nat.reduceLeDiff, Nat.reduceLT, Nat.reduceSub]
noncomputable def r260 : Reg seat := .of told260 (ask2 (fun a0' a1' => isI a0' ∧ isI a1') fun a0' a1' => .fn (.int .i64 (rightI (dI a0') (dI a1')))) (ask2_ok fun a0' a1' h => SaidOk.fn (Fun.weak (.cons (isI.weak h.1) (.cons (isI.weak h.2) .nil)) (ixRight_spec _ _)))
theorem r260_c : r260.c = 260 := rfl
open Classical in
theorem r260_ask (a0' a1' : AV) : r260.ask [a0', a1'] = if isI a0' ∧ isI a1' then some (Said.fn (.int .i64 (rightI (dI a0') (dI a1')))) else none := by unfold r260 Reg.of ask2; exact ite_cl
theorem ixParent_spec (x w : Int) : Fun seat 273 [.int .i64 x, .int .i64 w] (.int .i64 (parI x w)) := by
  refine Fun.of0R [r270p] told273 (by simp [il273]) (by simp [idb_patchA]) (by simp [idb_patchA]) 4 ?_
  simp -implicitDefEqProofs only [il273, List.zipIdx_cons, List.zipIdx_nil, leafA, innerA, nodeA, patchA, Leaf.cells, Inner.cells, Node.cells, r270p_c, r270p_ask, decide_true, decide_false, go_sem, Nat.reduceEqDiff, reduceIte, Nat.reduceAdd, Nat.reduceLeDiff, Nat.reduceLT, Nat.reduceSub]
noncomputable def r273 : Reg seat := .of told273 (ask2 (fun a0' a1' => isI a0' ∧ isI a1') fun a0' a1' => .fn (.int .i64 (parI (dI a0') (dI a1')))) (ask2_ok fun a0' a1' h => SaidOk.fn (Fun.weak (.cons (isI.weak h.1) (.cons (isI.weak h.2) .nil)) (ixParent_spec _ _)))
theorem r273_c : r273.c = 273 := rfl
open Classical in
theorem r273_ask (a0' a1' : AV) : r273.ask [a0', a1'] = if isI a0' ∧ isI a1' then some (Said.fn (.int .i64 (parI (dI a0') (dI a1')))) else none := by unfold r273 Reg.of ask2; exact ite_cl
theorem ixSibling_spec (x w : Int) : Fun seat 265 [.int .i64 x, .int .i64 w] (.int .i64 (sibI x w)) := by
  refine Fun.of0R [r270s] told265 (by simp [il265]) (by simp [idb_patchA]) (by simp [idb_patchA]) 4 ?_
  simp -implicitDefEqProofs only [il265, List.zipIdx_cons, List.zipIdx_nil, leafA, innerA, nodeA, patchA, Leaf.cells, Inner.cells, Node.cells, r270s_c, r270s_ask, decide_true, decide_false, go_sem, Nat.reduceEqDiff, reduceIte, Nat.reduceAdd, Nat.reduceLeDiff, Nat.reduceLT, Nat.reduceSub]
noncomputable def r265 : Reg seat := .of told265 (ask2 (fun a0' a1' => isI a0' ∧ isI a1') fun a0' a1' => .fn (.int .i64 (sibI (dI a0') (dI a1')))) (ask2_ok fun a0' a1' h => SaidOk.fn (Fun.weak (.cons (isI.weak h.1) (.cons (isI.weak h.2) .nil)) (ixSibling_spec _ _)))
theorem r265_c : r265.c = 265 := rfl
open Classical in
theorem r265_ask (a0' a1' : AV) : r265.ask [a0', a1'] = if isI a0' ∧ isI a1' then some (Said.fn (.int .i64 (sibI (dI a0') (dI a1')))) else none := by unfold r265 Reg.of ask2; exact ite_cl
end Go.Proofs.YtihhinbjhiankaaGreatDoor.Al
