/-
  SPECS: what is wrong with leaves and inner nodes.
-/
import Derived.Test.YtihhinbjhiankaaGreatDoorAlN2
set_option linter.unusedSimpArgs false
set_option linter.unusedVariables false
namespace Go.Proofs.YtihhinbjhiankaaGreatDoor.Al
open Go
attribute [local go_sem] W_mv W_pick W_alloc W_box W_build W_bslice W_load W_store W_nilck W_bin W_isnil W_un W_convI W_convS W_mkiface W_mkfunc W_mkslice W_slice W_faddr W_field W_iaddr W_iaddrA W_idxA W_extract W_len W_lenS W_lenA W_min W_max W_append W_appendZ W_copy W_clear W_tassert W_invoke thenQ_normal thenQ_exit thenQ_goto thenQ_ret blockQ_normal blockQ_ret blockQ_goto blockQ_exit wpc_skip wpc_region wpc_draw wpc_seq wpc_cond wpc_block wpc_exit wpc_goto wpc_label wpc_ret wpc_loop wpc_range wpc_scope condW_true condW_false condW_dec condW_any W_nil W_call resW_some evalOp Opd.ev updo_envL updo_none setL_cons setL_nil envL_cons Option.map_some Option.bind_some evBin evInt List.map_cons List.map_nil Option.pure_def Option.bind_eq_bind W_grd' grdW_tt grdW_ff grdW_tf grdW_ft grdW_tup grdW_dt grdW_df lgrdW_tt lgrdW_ff lgrdW_tf lgrdW_ft lgrdW_tup lgrdW_dt lgrdW_df L_mv L_pick L_alloc L_box L_build L_bslice L_load L_store L_nilck L_bin L_isnil L_un L_convI L_convS L_mkiface L_mkfunc L_mkslice L_slice L_faddr L_field L_iaddr L_iaddrA L_idxA L_extract L_len L_lenS L_lenA L_min L_max L_append L_appendZ L_copy L_clear L_tassert L_nil L_call L_grd lresW_some upd_envL evUn beq_dec bne_dec leaves_ret1 leaves_end1 leaves_ret0 leaves_end0 leaves_ret2 leaves_ret3 rowLen_ints load_iptr0 not_dec heap_get0 heap_get1 heap_set0 heap_set1 heap_len1 heap_len2 heap_app heap_app2 bslice1_int seen_ints seen_one0 seen_one1 seen_one2 rowLen_own0 bslice0_int rowLen_own1 Nat.sub_zero Bool.not_true Bool.not_false List.length_nil List.length_cons List.nil_append List.cons_append Nat.zero_add load_iptrA canon_ptrI canon_bool canon_tup canon_agg canon_leafA canon_innerA canon_nodeA canon_ints' rowLen_ints0 seen_ints0 canon_ints0 rowLen_ints1 seen_ints1 canon_ints1 rowLen_ints2 seen_ints2 canon_ints2 rowLen_ints3 seen_ints3 canon_ints3 rowLen_octs seen_octs canon_octs' szOk_octs rowLen_octs0 seen_octs0 canon_octs0 rowLen_octs1 seen_octs1 canon_octs1 rowLen_octs2 seen_octs2 canon_octs2 rowLen_octs3 seen_octs3 canon_octs3 rowLen_intss seen_intss canon_intss' szOk_intss rowLen_intss0 seen_intss0 canon_intss0 rowLen_intss1 seen_intss1 canon_intss1 rowLen_intss2 seen_intss2 canon_intss2 rowLen_intss3 seen_intss3 canon_intss3 rowLen_octss seen_octss canon_octss' szOk_octss rowLen_octss0 seen_octss0 canon_octss0 rowLen_octss1 seen_octss1 canon_octss1 rowLen_octss2 seen_octss2 canon_octss2 rowLen_octss3 seen_octss3 canon_octss3 rowLen_nodes seen_nodes canon_nodes' szOk_nodes rowLen_nodes0 seen_nodes0 canon_nodes0 rowLen_nodes1 seen_nodes1 canon_nodes1 rowLen_nodes2 seen_nodes2 canon_nodes2 rowLen_nodes3 seen_nodes3 canon_nodes3 seen_list cells_int oneIn_int cells_bool oneIn_bool cells_str oneIn_str cells_list oneIn_list cells_func oneIn_func cells_nilfunc oneIn_nilfunc cells_iptr oneIn_iptr cells_iface oneIn_iface cells_nilIface oneIn_nilIface cells_own cells_ptr cells_anybool oneIn_anybool cells_agg oneIn_own0 oneIn_ptr0 seenL0 seenM0 oneIn_own1 oneIn_ptr1 seenL1 seenM1 oneIn_own2 oneIn_ptr2 seenL2 seenM2 oneIn_own3 oneIn_ptr3 seenL3 seenM3 oneIn_own4 oneIn_ptr4 seenL4 seenM4 oneIn_own5 oneIn_ptr5 seenL5 seenM5 cells_ints oneIn_ints cells_octs oneIn_octs cells_intss oneIn_intss cells_octss oneIn_octss cells_nodes oneIn_nodes ldB0 ldA0 adB0 stB0 ldB1 ldA1 adB1 stB1 ldB2 ldA2 adB2 stB2 ldB3 ldA3 adB3 stB3 ldB4 ldA4 adB4 stB4 ldB5 ldA5 adB5 stB5 List.getElem?_cons_zero List.getElem?_cons_succ beq_self_eq_true splice List.take_zero List.take_succ_cons List.drop_zero List.drop_succ_cons List.append_nil List.set_cons_zero List.set_cons_succ List.all_cons List.all_nil Bool.and_self and_self and_true true_and Nat.lt_irrefl Nat.zero_lt_one Nat.le_refl fillA evNil notA Bool.false_eq_true evMin_int evMax_int Option.map_none freezeP_all_nil freezeP_all_cons frzE_box frzE_arr frzE_dead foldA List.foldlM_cons List.foldlM_nil
attribute [local simp] envL_cons envL_nil idb_int idb_bool idb_str idb_ints idb_nil idb_own idb_ptr entB_ints' idb_octs entB_octs idb_intss entB_intss idb_octss entB_octss idb_nodes entB_nodes idb_leafA idb_innerA idb_nodeA idb_agg idb_tup idb_iptr idb_fn idb_undef entB_dead entB_box

/-- leaf.Check. -/
theorem leafCheck_spec (l : Leaf) : Fun seat 146 [leafA l] (.int .i64 (leafCheck l)) := by
  refine Fun.of0 told146 (by simp [il146]) (by simp [idb_leafA]) (by simp ) 0 ?_
  simp only [il146, List.zipIdx_cons, List.zipIdx_nil, Nat.zero_add, leafA, Leaf.cells, go_sem, Nat.reduceEqDiff, reduceIte, Nat.reduceAdd, Nat.reduceLeDiff, Nat.reduceLT, Nat.reduceSub]
  refine ⟨fun h => ?_, fun h => ?_⟩
  · have h0 : l.enc.length = 0 := by omega
    simp [leafCheck, h0]
  have h0 : ¬ l.enc.length = 0 := by omega
  have bs : evBslice [.box [octs l.enc, octs l.cred, .int .i64 l.source, octs l.parent]] 1 3 (.list true []) [(0, octs l.enc), (1, octs l.cred), (2, octs l.parent)] = some (.own 1 0 0 3, [.box [octs l.enc, octs l.cred, .int .i64 l.source, octs l.parent], .arr 1 0 [octs l.enc, octs l.cred, octs l.parent]]) := rfl
  simp only [go_sem, Nat.reduceEqDiff, reduceIte, Nat.reduceAdd, Nat.reduceLeDiff, Nat.reduceLT, Nat.reduceSub, bs]
  refine Callee.lend (r := .bool ([l.enc, l.cred, l.parent].any fun x => decide ((x.length : Int) > 200))) 1 told159 (any159_spec [l.enc, l.cred, l.parent] (fun x => decide ((x.length : Int) > 200)) 158 il158 told158 [] (by simp) fun x _ => big_spec x) (.bool _) ?_
  by_cases h1 : l.enc.length > 200 ∨ l.cred.length > 200 ∨ l.parent.length > 200
  · have e : ([l.enc, l.cred, l.parent].any fun x => decide ((x.length : Int) > 200)) = true := by simp; omega
    simp only [go_sem, Nat.reduceEqDiff, reduceIte, Nat.reduceAdd, Nat.reduceLeDiff, Nat.reduceLT, Nat.reduceSub, e]
    simp [leafCheck, h0, h1]
  have e : ([l.enc, l.cred, l.parent].any fun x => decide ((x.length : Int) > 200)) = false := by simp; omega
  simp only [go_sem, Nat.reduceEqDiff, reduceIte, Nat.reduceAdd, Nat.reduceLeDiff, Nat.reduceLT, Nat.reduceSub, e]
  refine Callee.f told160 (source_spec l.source) ?_
  by_cases h2 : l.source < 1 ∨ l.source > 3
  · have e2 : decide (l.source ≥ 1 ∧ l.source ≤ 3) = false := by simp; omega
    simp only [go_sem, Nat.reduceEqDiff, reduceIte, Nat.reduceAdd, Nat.reduceLeDiff, Nat.reduceLT, Nat.reduceSub, e2]
    simp [leafCheck, h0, h1, h2]
  have e2 : decide (l.source ≥ 1 ∧ l.source ≤ 3) = true := by simp; omega
  by_cases h3 : l.source = 3
  · simp only [go_sem, Nat.reduceEqDiff, reduceIte, Nat.reduceAdd, Nat.reduceLeDiff, Nat.reduceLT, Nat.reduceSub, e2, h3, decide_true, decide_false, ne_eq, not_true_eq_false, Bool.not_true]
    simp [leafCheck, h0, h1, h3]
  · simp only [go_sem, Nat.reduceEqDiff, reduceIte, Nat.reduceAdd, Nat.reduceLeDiff, Nat.reduceLT, Nat.reduceSub, e2, h3, decide_true, decide_false, ne_eq, not_true_eq_false, not_false_eq_true, Bool.not_true]
    refine ⟨fun h4 => ?_, fun h4 => ?_⟩
    · have h5 : l.parent.length > 0 := by omega
      rw [show leafCheck l = 2 from by rw [leafCheck, if_neg h0, if_neg h1, if_neg h2, if_pos ⟨h3, h5⟩]]
    · have h5 : l.parent.length = 0 := by omega
      rw [show leafCheck l = 0 from by rw [leafCheck, if_neg h0, if_neg h1, if_neg h2, if_neg (by omega)]]


/-- inner.Check. -/
theorem innerCheck_spec (l : Inner) : Fun seat 147 [innerA l] (.int .i64 (innerCheck l)) := by
  refine Fun.of0 told147 (by simp [il147]) (by simp [idb_innerA]) (by simp ) 0 ?_
  simp only [il147, List.zipIdx_cons, List.zipIdx_nil, Nat.zero_add, innerA, Inner.cells]
  by_cases h : (l.enc.length : Int) = 0
  · have h0 : l.enc.length = 0 := by omega
    simp only [go_sem, Nat.reduceEqDiff, reduceIte, Nat.reduceAdd, Nat.reduceLeDiff, Nat.reduceLT, Nat.reduceSub, h, decide_true]
    simp [innerCheck, h0]
  have h0 : ¬ l.enc.length = 0 := by omega
  by_cases hA : (l.enc.length : Int) > 200
  · have h1 : l.enc.length > 200 ∨ l.hash.length > 200 ∨ l.unmerged.length > 64 := by omega
    simp only [go_sem, Nat.reduceEqDiff, reduceIte, Nat.reduceAdd, Nat.reduceLeDiff, Nat.reduceLT, Nat.reduceSub, h, hA, decide_true, decide_false]
    rw [show innerCheck l = 4 from by rw [innerCheck, if_neg h0, if_pos h1]]
  by_cases hB : (l.hash.length : Int) > 200
  · have h1 : l.enc.length > 200 ∨ l.hash.length > 200 ∨ l.unmerged.length > 64 := by omega
    simp only [go_sem, Nat.reduceEqDiff, reduceIte, Nat.reduceAdd, Nat.reduceLeDiff, Nat.reduceLT, Nat.reduceSub, h, hA, hB, decide_true, decide_false]
    rw [show innerCheck l = 4 from by rw [innerCheck, if_neg h0, if_pos h1]]
  by_cases hC : (l.unmerged.length : Int) > 64
  · have h1 : l.enc.length > 200 ∨ l.hash.length > 200 ∨ l.unmerged.length > 64 := by omega
    simp only [go_sem, Nat.reduceEqDiff, reduceIte, Nat.reduceAdd, Nat.reduceLeDiff, Nat.reduceLT, Nat.reduceSub, h, hA, hB, hC, decide_true, decide_false]
    rw [show innerCheck l = 4 from by rw [innerCheck, if_neg h0, if_pos h1]]
  have h1 : ¬ (l.enc.length > 200 ∨ l.hash.length > 200 ∨ l.unmerged.length > 64) := by omega
  simp only [go_sem, Nat.reduceEqDiff, reduceIte, Nat.reduceAdd, Nat.reduceLeDiff, Nat.reduceLT, Nat.reduceSub, h, hA, hB, hC, decide_true, decide_false]
  refine Callee.f told162 (any162_spec l.unmerged (fun i => decide (i < 0 ∨ i > 63)) 161 il161 told161 [] (by simp) fun x _ => wide_spec x) ?_
  by_cases h2 : ∃ i ∈ l.unmerged, i < 0 ∨ i > 63
  · have e : (l.unmerged.any fun i => decide (i < 0 ∨ i > 63)) = true := by
      obtain ⟨i, hi, hw⟩ := h2
      exact List.any_eq_true.2 ⟨i, hi, by simpa using hw⟩
    simp only [go_sem, Nat.reduceEqDiff, reduceIte, Nat.reduceAdd, Nat.reduceLeDiff, Nat.reduceLT, Nat.reduceSub, e]
    rw [show innerCheck l = 3 from by rw [innerCheck, if_neg h0, if_neg h1, if_pos h2]]
  have e : (l.unmerged.any fun i => decide (i < 0 ∨ i > 63)) = false := by
    rw [Bool.eq_false_iff]
    intro h
    obtain ⟨i, hi, hw⟩ := List.any_eq_true.1 h
    exact h2 ⟨i, hi, by simpa using hw⟩
  simp only [go_sem, Nat.reduceEqDiff, reduceIte, Nat.reduceAdd, Nat.reduceLeDiff, Nat.reduceLT, Nat.reduceSub, e]
  refine WP.drawL mixed (by decide) ?_
  simp only [go_sem, Nat.reduceEqDiff, reduceIte, Nat.reduceAdd, Nat.reduceLeDiff, Nat.reduceLT, Nat.reduceSub]
  refine ⟨_, CallF.f told163 (thin_spec l.unmerged (by omega)), ?_⟩
  simp only [go_sem, Nat.reduceEqDiff, reduceIte, Nat.reduceAdd, Nat.reduceLeDiff, Nat.reduceLT, Nat.reduceSub]
  refine ⟨_, CallF.f told157 (eqInts_spec _ _), ?_⟩
  by_cases h3 : rise l.unmerged = l.unmerged
  · simp only [go_sem, Nat.reduceEqDiff, reduceIte, Nat.reduceAdd, Nat.reduceLeDiff, Nat.reduceLT, Nat.reduceSub, h3, decide_true, Bool.not_true]
    rw [show innerCheck l = 0 from by rw [innerCheck, if_neg h0, if_neg h1, if_neg h2, if_neg (not_not_intro h3)]]
  · simp only [go_sem, Nat.reduceEqDiff, reduceIte, Nat.reduceAdd, Nat.reduceLeDiff, Nat.reduceLT, Nat.reduceSub, h3, decide_false, Bool.not_false]
    rw [show innerCheck l = 8 from by rw [innerCheck, if_neg h0, if_neg h1, if_neg h2, if_pos h3]]

end Go.Proofs.YtihhinbjhiankaaGreatDoor.Al
