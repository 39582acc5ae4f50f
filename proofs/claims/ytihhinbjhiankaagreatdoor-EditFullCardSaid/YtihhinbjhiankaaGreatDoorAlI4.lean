/-
  SPECS: the way up, what stands beside it, who is under whom.
-/
import Derived.Test.YtihhinbjhiankaaGreatDoorAlI3
set_option linter.unusedSimpArgs false
set_option linter.unusedVariables false
namespace Go.Proofs.YtihhinbjhiankaaGreatDoor.Al
open Go
attribute [local go_sem] W_mv W_pick W_alloc W_box W_build W_bslice W_load W_store W_nilck W_bin W_isnil W_un W_convI W_convS W_mkiface W_mkfunc W_mkslice W_slice W_faddr W_field W_iaddr W_iaddrA W_idxA W_extract W_len W_lenS W_lenA W_min W_max W_append W_appendZ W_copy W_clear W_tassert W_invoke thenQ_normal thenQ_exit thenQ_goto thenQ_ret blockQ_normal blockQ_ret blockQ_goto blockQ_exit wpc_skip wpc_region wpc_draw wpc_seq wpc_cond wpc_block wpc_exit wpc_goto wpc_label wpc_ret wpc_loop wpc_range wpc_scope condW_true condW_false condW_dec condW_any W_nil W_call resW_some evalOp Opd.ev updo_envL updo_none setL_cons setL_nil envL_cons Option.map_some Option.bind_some evBin evInt List.map_cons List.map_nil Option.pure_def Option.bind_eq_bind W_grd' grdW_tt grdW_ff grdW_tf grdW_ft grdW_tup grdW_dt grdW_df lgrdW_tt lgrdW_ff lgrdW_tf lgrdW_ft lgrdW_tup lgrdW_dt lgrdW_df L_mv L_pick L_alloc L_box L_build L_bslice L_load L_store L_nilck L_bin L_isnil L_un L_convI L_convS L_mkiface L_mkfunc L_mkslice L_slice L_faddr L_field L_iaddr L_iaddrA L_idxA L_extract L_len L_lenS L_lenA L_min L_max L_append L_appendZ L_copy L_clear L_tassert L_nil L_call L_grd lresW_some upd_envL evUn beq_dec bne_dec leaves_ret1 leaves_end1 leaves_ret0 leaves_end0 leaves_ret2 leaves_ret3 rowLen_ints load_iptr0 not_dec heap_get0 heap_get1 heap_set0 heap_set1 heap_len1 heap_len2 heap_app heap_app2 bslice1_int seen_ints seen_one0 seen_one1 seen_one2 rowLen_own0 bslice0_int rowLen_own1 Nat.sub_zero Bool.not_true Bool.not_false List.length_nil List.length_cons List.nil_append List.cons_append Nat.zero_add load_iptrA canon_ptrI canon_bool canon_tup canon_agg canon_leafA canon_innerA canon_nodeA canon_ints' rowLen_ints0 seen_ints0 canon_ints0 rowLen_ints1 seen_ints1 canon_ints1 rowLen_ints2 seen_ints2 canon_ints2 rowLen_ints3 seen_ints3 canon_ints3 rowLen_octs seen_octs canon_octs' szOk_octs rowLen_octs0 seen_octs0 canon_octs0 rowLen_octs1 seen_octs1 canon_octs1 rowLen_octs2 seen_octs2 canon_octs2 rowLen_octs3 seen_octs3 canon_octs3 rowLen_intss seen_intss canon_intss' szOk_intss rowLen_intss0 seen_intss0 canon_intss0 rowLen_intss1 seen_intss1 canon_intss1 rowLen_intss2 seen_intss2 canon_intss2 rowLen_intss3 seen_intss3 canon_intss3 rowLen_octss seen_octss canon_octss' szOk_octss rowLen_octss0 seen_octss0 canon_octss0 rowLen_octss1 seen_octss1 canon_octss1 rowLen_octss2 seen_octss2 canon_octss2 rowLen_octss3 seen_octss3 canon_octss3 rowLen_nodes seen_nodes canon_nodes' szOk_nodes rowLen_nodes0 seen_nodes0 canon_nodes0 rowLen_nodes1 seen_nodes1 canon_nodes1 rowLen_nodes2 seen_nodes2 canon_nodes2 rowLen_nodes3 seen_nodes3 canon_nodes3 seen_list cells_int oneIn_int cells_bool oneIn_bool cells_str oneIn_str cells_list oneIn_list cells_func oneIn_func cells_nilfunc oneIn_nilfunc cells_iptr oneIn_iptr cells_iface oneIn_iface cells_nilIface oneIn_nilIface cells_own cells_ptr cells_anybool oneIn_anybool cells_agg oneIn_own0 oneIn_ptr0 seenL0 seenM0 oneIn_own1 oneIn_ptr1 seenL1 seenM1 oneIn_own2 oneIn_ptr2 seenL2 seenM2 oneIn_own3 oneIn_ptr3 seenL3 seenM3 oneIn_own4 oneIn_ptr4 seenL4 seenM4 oneIn_own5 oneIn_ptr5 seenL5 seenM5 cells_ints oneIn_ints cells_octs oneIn_octs cells_intss oneIn_intss cells_octss oneIn_octss cells_nodes oneIn_nodes ldB0 ldA0 adB0 stB0 ldB1 ldA1 adB1 stB1 ldB2 ldA2 adB2 stB2 ldB3 ldA3 adB3 stB3 ldB4 ldA4 adB4 stB4 ldB5 ldA5 adB5 stB5 List.getElem?_cons_zero List.getElem?_cons_succ beq_self_eq_true splice List.take_zero List.take_succ_cons List.drop_zero List.drop_succ_cons List.append_nil List.set_cons_zero List.set_cons_succ List.all_cons List.all_nil Bool.and_self and_self and_true true_and Nat.lt_irrefl Nat.zero_lt_one Nat.le_refl fillA evNil notA Bool.false_eq_true evMin_int evMax_int Option.map_none freezeP_all_nil freezeP_all_cons frzE_box frzE_arr frzE_dead foldA List.foldlM_cons List.foldlM_nil callW_f lcallW_f ansW_fn ansW_own lansW_fn lansW_own ansW_none lansW_none tab_cons tab_nil dI_int dB_bool dO_octs dO_ints dO_list dO_nil dOs_octss dOs_intss dOs_nil dLf_leafA dIn_innerA dN_nodeA dLf_agg dIn_agg dN_agg dNs_nodes dNs_list dNs_nil isI_int isU_int isB_bool isO_octs isO_nil isO_list isS_ints isS_nil isS_list isOs_octss isSs_intss isOs_nil isSs_nil isNs_nodes isNs_list isNs_nil isLf_leafA isIn_innerA isN_nodeA isLf_agg isIn_agg isN_agg leaf_eta inner_eta node_eta leaf_zero inner_zero node_zero dP_patchA dP_agg isP_patchA isP_agg patch_eta decide_eq_true_eq decide_eq_false_iff_not eq_self forall_const true_implies false_implies Bool.not_eq_true' Bool.not_eq_false' Bool.true_eq_false implies_true ne_eq ldI ldIA adI AV.tup.injEq AV.agg.injEq List.cons.injEq AV.int.injEq AV.bool.injEq nodes_inj octs_inj ints_inj nil_nodes nil_octs nil_ints canon_nilL decide_eq_decide two_ne four_ne b256_ne lendA_fn lendA_own lendA_none llendA_fn llendA_none plain_bool plain_int plain_tup2 isNs_own isO_own isS_own isOs_own false_and and_false Q_nil Q_l Q_g Q_h Q_grd qgrdW_b qgrdW_tup lightD_some heavyD_some readD_some fnD_some fnD_own fnD_none callL_f ownH_some callH_f litD_some litE_some Q_call Q_bslice H_call pendOk_nil pendOk_cons pastOk_nil pastOk_cons Q_mv Q_pick Q_bin Q_un Q_convI Q_mkfunc Q_extract Q_min Q_max Q_lenS Q_lenA Q_field Q_idxA Q_mkiface Q_tassert Q_alloc Q_box Q_store Q_mkslice Q_append Q_appendZ Q_copy Q_clear Q_build Q_load Q_nilck Q_isnil Q_convS Q_slice Q_faddr Q_iaddr Q_iaddrA Q_len H_alloc H_box H_bslice H_store H_mkslice H_append H_appendZ H_copy H_clear free_mv free_pick free_bin free_un free_convI free_mkfunc free_extract free_min free_max free_lenS free_lenA free_field free_idxA free_mkiface free_tassert free_build free_load free_nilck free_isnil free_convS free_slice free_faddr free_iaddr free_iaddrA free_len callW_y List.length_map List.length_set leaves_r evR_some evRess1 evRess2 evRess3 evRes_t evRes_c nz_kind nz_enc nz_cred nz_source nz_parent nz_ienc nz_hash nz_un true_or or_true bsl_node idbs_node idbs_int appN appI appO ixo_nodes canon_row canon_rowI canon_rowO not_false_eq_true not_true_eq_false ldE_a ldE_c adE_b stE_b onE_a onP_b bsl_zero idbs_zero appN_zero
attribute [local go_sem low] condW_b grdW_b lgrdW_b ldP adP stP onO onPt
attribute [local simp] envL_cons envL_nil idb_int idb_bool idb_str idb_ints idb_nil idb_own idb_ptr entB_ints' idb_octs entB_octs idb_intss entB_intss idb_octss entB_octss idb_nodes entB_nodes idb_leafA idb_innerA idb_nodeA idb_agg idb_tup idb_iptr idb_fn idb_undef entB_dead entB_box

theorem slice_own {H : List Entry} {rid v : Nat} {l : List Int} (hr : H[rid]? = some (.arr 1 v (l.map (AV.int .i64)))) (m : Nat) (hm : m ≤ l.length) : evSlice H 1 (.own rid v 0 l.length) (some (.int .i64 m)) none none = some (.own rid v m l.length) := by
  simp [evSlice, hr, evBound, hm]
theorem canon_own {H : List Entry} {rid v : Nat} {l : List Int} (hr : H[rid]? = some (.arr 1 v (l.map (AV.int .i64)))) (m : Nat) : canon H 4 (.own rid v m l.length) = ints (l.drop m) := by
  have h2 : (freezeP all H)[rid]? = some (.frz 1 v (l.map (AV.int .i64))) := by rw [freezeP_get, hr]; rfl
  simp only [canon, derefN, h2, List.length_map, Nat.le_refl, and_self, if_true, ints]
  rw [List.take_of_length_le (by simp), ← List.map_drop, List.map_map]
  rfl
theorem z00 : ((0 : Nat) : Int) = 0 := rfl
theorem lt01 : ((0 : Int) < 1) = True := eq_true (by decide)
theorem direct_spec (x w : Int) : Fun seat 263 [.int .i64 x, .int .i64 w] (ints (directI x w)) := by
  have hl := ups_len x w
  refine Fun.of0W told263 (by simp [il263]) (by simp ) (by simp ) 4 ?_
  simp only [il263, List.zipIdx_cons, List.zipIdx_nil, Nat.zero_add]
  refine wpc_soundR [] ?_
  simp -implicitDefEqProofs only [leafA, innerA, nodeA, patchA, Leaf.cells, Inner.cells, Node.cells, decide_true, decide_false, go_sem, Nat.reduceEqDiff, reduceIte, Nat.reduceAdd, Nat.reduceLeDiff, Nat.reduceLT, Nat.reduceSub]
  refine Callee.plain (Callable.of told266) (up_spec x w []) ?_
  rintro _ _ ⟨rfl, rfl⟩
  simp -implicitDefEqProofs only [leafA, innerA, nodeA, patchA, Leaf.cells, Inner.cells, Node.cells, decide_true, decide_false, List.nil_append, List.length_nil, go_sem, Nat.reduceEqDiff, reduceIte, Nat.reduceAdd, Nat.reduceLeDiff, Nat.reduceLT, Nat.reduceSub]
  refine Callee.plain (Callable.of told40) (collectO_spec (ups x w) (by omega) 277 il277 told277 _ _ _ (up1_gives x w 0)) ?_
  rintro r H' (⟨he, rfl⟩ | ⟨rid, v, rfl, hr⟩)
  · have l0 : rowLen H' (.list true []) = some 0 := rfl
    have d0 : directI x w = [] := by unfold directI; rw [he]; rfl
    have s0 : evSlice H' 1 (.list true []) (some (.int .i64 0)) none none = some (.list true []) := rfl
    rw [d0]
    simp -implicitDefEqProofs only [leafA, innerA, nodeA, patchA, Leaf.cells, Inner.cells, Node.cells, decide_true, decide_false, l0, Option.bind_some, evMin_int, z00, lt01, s0, go_sem, Nat.reduceEqDiff, reduceIte, Nat.reduceAdd, Nat.reduceLeDiff, Nat.reduceLT, Nat.reduceSub]
  · have l0 : rowLen H' (.own rid v 0 (ups x w).length) = some (ups x w).length := by simp [rowLen, own_one hr]
    by_cases hn : (ups x w).length = 0
    · have hd : directI x w = (ups x w).drop 0 := by unfold directI; rw [List.eq_nil_of_length_eq_zero hn]; rfl
      have s0 : evSlice H' 1 (.own rid v 0 (ups x w).length) (some (.int .i64 0)) none none = some (.own rid v 0 (ups x w).length) := slice_own hr 0 (Nat.zero_le _)
      have n0 : ((ups x w).length : Int) = 0 := by omega
      rw [hd]
      simp -implicitDefEqProofs only [leafA, innerA, nodeA, patchA, Leaf.cells, Inner.cells, Node.cells, decide_true, decide_false, l0, Option.bind_some, evMin_int, n0, lt01, s0, go_sem, Nat.reduceEqDiff, reduceIte, Nat.reduceAdd, Nat.reduceLeDiff, Nat.reduceLT, Nat.reduceSub]
      exact canon_own hr 0
    · have hd : directI x w = (ups x w).drop 1 := by unfold directI; rw [List.drop_one]
      have s0 : evSlice H' 1 (.own rid v 0 (ups x w).length) (some (.int .i64 1)) none none = some (.own rid v 1 (ups x w).length) := slice_own hr 1 (by omega)
      have m0 : ¬ ((ups x w).length : Int) < 1 := by omega
      rw [hd]
      simp -implicitDefEqProofs only [leafA, innerA, nodeA, patchA, Leaf.cells, Inner.cells, Node.cells, decide_true, decide_false, l0, Option.bind_some, evMin_int, m0, s0, go_sem, Nat.reduceEqDiff, reduceIte, Nat.reduceAdd, Nat.reduceLeDiff, Nat.reduceLT, Nat.reduceSub]
      exact canon_own hr 1
noncomputable def r263 : Reg seat := .of told263 (ask2 (fun a0' a1' => isI a0' ∧ isI a1') fun a0' a1' => .fn (ints (directI (dI a0') (dI a1')))) (ask2_ok fun a0' a1' h => SaidOk.fn (Fun.weak (.cons (isI.weak h.1) (.cons (isI.weak h.2) .nil)) (direct_spec _ _)))
theorem r263_c : r263.c = 263 := rfl
open Classical in
theorem r263_ask (a0' a1' : AV) : r263.ask [a0', a1'] = if isI a0' ∧ isI a1' then some (Said.fn (ints (directI (dI a0') (dI a1')))) else none := by unfold r263 Reg.of ask2; exact ite_cl

theorem ups_len' (x w : Int) : ∀ y ∈ (ups x w).map fun y => [AV.int .i64 y], y.length = [11].length := by
  intro y hy
  obtain ⟨z, _, rfl⟩ := List.mem_map.1 hy
  rfl
set_option maxHeartbeats 1000000 in
theorem under_spec (x y w : Int) : Fun seat 255 [.int .i64 x, .int .i64 y, .int .i64 w] (.bool (decide (y ∈ ups x w))) := by
  refine Fun.of0W told255 (by simp [il255]) (by simp ) (by simp ) 4 ?_
  simp only [il255, List.zipIdx_cons, List.zipIdx_nil, Nat.zero_add]
  refine wpc_soundR [] ?_
  simp -implicitDefEqProofs only [leafA, innerA, nodeA, patchA, Leaf.cells, Inner.cells, Node.cells, decide_true, decide_false, go_sem, Nat.reduceEqDiff, reduceIte, Nat.reduceAdd, Nat.reduceLeDiff, Nat.reduceLT, Nat.reduceSub]
  refine Callee.plain (Callable.of told266) (up_spec x w [.box [.int .i64 y], .box [.bool false]]) ?_
  rintro _ _ ⟨rfl, rfl⟩
  simp -implicitDefEqProofs only [leafA, innerA, nodeA, patchA, Leaf.cells, Inner.cells, Node.cells, decide_true, decide_false, List.cons_append, List.nil_append, List.length_cons, List.length_nil, go_sem, Nat.reduceEqDiff, reduceIte, Nat.reduceAdd, Nat.reduceLeDiff, Nat.reduceLT, Nat.reduceSub]
  refine WP.rangeO 2 (.box [.int .i64 x]) ((ups x w).map fun y => [.int .i64 y]) (c := 277) (cap := [.ptr 2 0, .iptr [.int .i64 w] 0]) (by simp only [go_sem, Nat.reduceEqDiff, reduceIte, Nat.reduceAdd, Nat.reduceLeDiff, Nat.reduceLT, Nat.reduceSub]) (Callable.of told277) (up1_gives x w 2) (ups_len' x w)
    (fun _ e => [.box [.int .i64 y], .box [.bool false], e, .dead]) (fun k => ∀ j (h : j < (ups x w).length), j < k → ¬ (ups x w)[j] = y) (by simp) (fun _ _ => rfl) (fun _ _ => rfl) (fun _ _ _ => rfl) (fun _ _ h => absurd h (Nat.not_lt_zero _)) rfl ?_ ?_
  · intro k hk e hP l T b hb
    have hk' : k < (ups x w).length := by simpa using hk
    rw [List.getElem_map]
    simp only [setPs]
    refine wpc_soundR [] ?_
    simp -implicitDefEqProofs only [leafA, innerA, nodeA, patchA, Leaf.cells, Inner.cells, Node.cells, decide_true, decide_false, List.cons_append, List.nil_append, go_sem, Nat.reduceEqDiff, reduceIte, Nat.reduceAdd, Nat.reduceLeDiff, Nat.reduceLT, Nat.reduceSub]
    refine ⟨[], by simp, fun T' hT' => wpc_soundR [] ?_⟩
    by_cases hy : (ups x w)[k] = y
    · simp -implicitDefEqProofs only [leafA, innerA, nodeA, patchA, Leaf.cells, Inner.cells, Node.cells, decide_true, decide_false, eq_true hy, List.append_nil, go_sem, Nat.reduceEqDiff, reduceIte, Nat.reduceAdd, Nat.reduceLeDiff, Nat.reduceLT, Nat.reduceSub]
      refine ⟨[.box [.int .i64 y], .box [.bool true], e, .dead], T', rfl, rfl, fun _ _ => rfl, .ret, rfl, fun T3 => ?_⟩
      have hm : y ∈ ups x w := by rw [← hy]; exact List.getElem_mem hk'
      simp -implicitDefEqProofs only [leafA, innerA, nodeA, patchA, Leaf.cells, Inner.cells, Node.cells, decide_true, decide_false, Jump.leave, List.cons_append, List.nil_append, hm, go_sem, Nat.reduceEqDiff, reduceIte, Nat.reduceAdd, Nat.reduceLeDiff, Nat.reduceLT, Nat.reduceSub]
    · simp -implicitDefEqProofs only [leafA, innerA, nodeA, patchA, Leaf.cells, Inner.cells, Node.cells, decide_true, decide_false, hy, List.append_nil, go_sem, Nat.reduceEqDiff, reduceIte, Nat.reduceAdd, Nat.reduceLeDiff, Nat.reduceLT, Nat.reduceSub]
      refine ⟨[.box [.int .i64 y], .box [.bool false], e, .dead], T', rfl, rfl, fun _ _ => rfl, fun j h hj => ?_, rfl⟩
      rcases Nat.lt_or_ge j k with h3 | h3
      · exact hP j h h3
      · obtain rfl : j = k := by omega
        exact hy
  · intro hP e T
    have hn : ¬ y ∈ ups x w := fun h => by
      obtain ⟨j, hj, rfl⟩ := List.getElem_of_mem h
      exact hP j hj (by simpa using hj) rfl
    simp -implicitDefEqProofs only [leafA, innerA, nodeA, patchA, Leaf.cells, Inner.cells, Node.cells, decide_true, decide_false, List.cons_append, List.nil_append, hn, go_sem, Nat.reduceEqDiff, reduceIte, Nat.reduceAdd, Nat.reduceLeDiff, Nat.reduceLT, Nat.reduceSub]
noncomputable def r255 : Reg seat := .of told255 (ask3 (fun a0' a1' a2' => isI a0' ∧ isI a1' ∧ isI a2') fun a0' a1' a2' => .fn (.bool (decide ((dI a1') ∈ ups (dI a0') (dI a2'))))) (ask3_ok fun a0' a1' a2' h => SaidOk.fn (Fun.weak (.cons (isI.weak h.1) (.cons (isI.weak h.2.1) (.cons (isI.weak h.2.2) .nil))) (under_spec _ _ _)))
theorem r255_c : r255.c = 255 := rfl
open Classical in
theorem r255_ask (a0' a1' a2' : AV) : r255.ask [a0', a1', a2'] = if isI a0' ∧ isI a1' ∧ isI a2' then some (Said.fn (.bool (decide ((dI a1') ∈ ups (dI a0') (dI a2'))))) else none := by unfold r255 Reg.of ask3; exact ite_cl
end Go.Proofs.YtihhinbjhiankaaGreatDoor.Al
