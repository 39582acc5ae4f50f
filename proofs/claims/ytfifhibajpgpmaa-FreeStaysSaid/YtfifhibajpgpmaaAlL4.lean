/-
  THE LAW FreeNew.
-/
import Derived.Test.YtfifhibajpgpmaaAlL2
set_option linter.unusedSimpArgs false
set_option linter.unusedVariables false
namespace Go.Proofs.Ytfifhibajpgpmaa.Al
open Go
attribute [local go_sem] W_mv W_pick W_alloc W_box W_build W_bslice W_load W_store W_nilck W_bin W_isnil W_un W_convI W_convS W_mkiface W_mkfunc W_mkslice W_slice W_faddr W_field W_iaddr W_iaddrA W_idxA W_extract W_len W_lenS W_lenA W_min W_max W_append W_appendZ W_copy W_clear W_tassert W_invoke thenQ_normal thenQ_exit thenQ_goto thenQ_ret blockQ_normal blockQ_ret blockQ_goto blockQ_exit wpc_skip wpc_region wpc_draw wpc_seq wpc_cond wpc_block wpc_exit wpc_goto wpc_label wpc_ret wpc_loop wpc_range wpc_scope condW_true condW_false condW_dec condW_any W_nil W_call resW_some evalOp Opd.ev updo_envL updo_none setL_cons setL_nil envL_cons Option.map_some Option.bind_some evBin evInt List.map_cons List.map_nil Option.pure_def Option.bind_eq_bind W_grd' grdW_tt grdW_ff grdW_tf grdW_ft grdW_tup grdW_dt grdW_df lgrdW_tt lgrdW_ff lgrdW_tf lgrdW_ft lgrdW_tup lgrdW_dt lgrdW_df L_mv L_pick L_alloc L_box L_build L_bslice L_load L_store L_nilck L_bin L_isnil L_un L_convI L_convS L_mkiface L_mkfunc L_mkslice L_slice L_faddr L_field L_iaddr L_iaddrA L_idxA L_extract L_len L_lenS L_lenA L_min L_max L_append L_appendZ L_copy L_clear L_tassert L_nil L_call L_grd lresW_some upd_envL evUn beq_dec bne_dec leaves_ret1 leaves_end1 leaves_ret0 leaves_end0 leaves_ret2 leaves_ret3 rowLen_ints load_iptr0 not_dec heap_get0 heap_get1 heap_set0 heap_set1 heap_len1 heap_len2 heap_app heap_app2 bslice1_int seen_ints seen_one0 seen_one1 seen_one2 rowLen_own0 bslice0_int rowLen_own1 Nat.sub_zero Bool.not_true Bool.not_false List.length_nil List.length_cons List.nil_append List.cons_append Nat.zero_add load_iptrA canon_ptrI canon_bool canon_tup canon_agg canon_leafA canon_innerA canon_nodeA canon_ints' rowLen_ints0 seen_ints0 canon_ints0 rowLen_ints1 seen_ints1 canon_ints1 rowLen_ints2 seen_ints2 canon_ints2 rowLen_ints3 seen_ints3 canon_ints3 rowLen_octs seen_octs canon_octs' szOk_octs rowLen_octs0 seen_octs0 canon_octs0 rowLen_octs1 seen_octs1 canon_octs1 rowLen_octs2 seen_octs2 canon_octs2 rowLen_octs3 seen_octs3 canon_octs3 rowLen_intss seen_intss canon_intss' szOk_intss rowLen_intss0 seen_intss0 canon_intss0 rowLen_intss1 seen_intss1 canon_intss1 rowLen_intss2 seen_intss2 canon_intss2 rowLen_intss3 seen_intss3 canon_intss3 rowLen_octss seen_octss canon_octss' szOk_octss rowLen_octss0 seen_octss0 canon_octss0 rowLen_octss1 seen_octss1 canon_octss1 rowLen_octss2 seen_octss2 canon_octss2 rowLen_octss3 seen_octss3 canon_octss3 rowLen_nodes seen_nodes canon_nodes' szOk_nodes rowLen_nodes0 seen_nodes0 canon_nodes0 rowLen_nodes1 seen_nodes1 canon_nodes1 rowLen_nodes2 seen_nodes2 canon_nodes2 rowLen_nodes3 seen_nodes3 canon_nodes3 seen_list cells_int oneIn_int cells_bool oneIn_bool cells_str oneIn_str cells_list oneIn_list cells_func oneIn_func cells_nilfunc oneIn_nilfunc cells_iptr oneIn_iptr cells_iface oneIn_iface cells_nilIface oneIn_nilIface cells_own cells_ptr cells_anybool oneIn_anybool cells_agg oneIn_own0 oneIn_ptr0 seenL0 seenM0 oneIn_own1 oneIn_ptr1 seenL1 seenM1 oneIn_own2 oneIn_ptr2 seenL2 seenM2 oneIn_own3 oneIn_ptr3 seenL3 seenM3 oneIn_own4 oneIn_ptr4 seenL4 seenM4 oneIn_own5 oneIn_ptr5 seenL5 seenM5 cells_ints oneIn_ints cells_octs oneIn_octs cells_intss oneIn_intss cells_octss oneIn_octss cells_nodes oneIn_nodes ldB0 ldA0 adB0 stB0 ldB1 ldA1 adB1 stB1 ldB2 ldA2 adB2 stB2 ldB3 ldA3 adB3 stB3 ldB4 ldA4 adB4 stB4 ldB5 ldA5 adB5 stB5 List.getElem?_cons_zero List.getElem?_cons_succ beq_self_eq_true splice List.take_zero List.take_succ_cons List.drop_zero List.drop_succ_cons List.append_nil List.set_cons_zero List.set_cons_succ List.all_cons List.all_nil Bool.and_self and_self and_true true_and Nat.lt_irrefl Nat.zero_lt_one Nat.le_refl fillA evNil notA Bool.false_eq_true evMin_int evMax_int Option.map_none freezeP_all_nil freezeP_all_cons frzE_box frzE_arr frzE_dead foldA List.foldlM_cons List.foldlM_nil
attribute [local simp] envL_cons envL_nil idb_int idb_bool idb_str idb_ints idb_nil idb_own idb_ptr entB_ints' idb_octs entB_octs idb_intss entB_intss idb_octss entB_octss idb_nodes entB_nodes idb_leafA idb_innerA idb_nodeA idb_agg idb_tup idb_iptr idb_fn idb_undef entB_dead entB_box

theorem rises_upto (k : Nat) : Rises (upto k) := by
  unfold Rises upto
  rw [List.pairwise_map]
  exact List.Pairwise.imp (fun h => by simpa using h) (List.pairwise_lt_range)

theorem rise_snoc (l : List Int) (x : Int) : ins x (rise l) = rise (l ++ [x]) := rises_ext (rises_ins (rises_rise l)) (rises_rise _) fun y => by
  rw [mem_ins, mem_rise, mem_rise, List.mem_append]
  simp only [List.mem_singleton]
  exact or_comm

theorem freeNew_spec (n : Int) (back : List Int) : Fun seat 4 [.int .i64 n, ints back] (.bool true) := by
  refine Fun.bd fun hbd => ?_
  have hlb : back.length ≤ 9223372036854775807 := encI64.bd_len (t := false) hbd (by simp [ints, encI64])
  refine Fun.of0 told4 (by simp [il4]) (by simp ) (by simp ) 1 ?_
  simp only [il4, List.zipIdx_cons, List.zipIdx_nil, Nat.zero_add, go_sem, Nat.reduceEqDiff, reduceIte, Nat.reduceAdd, Nat.reduceLeDiff, Nat.reduceLT, Nat.reduceSub]
  refine Callee.f told9 free_awake ?_
  by_cases hn0 : n < 0
  · simp only [go_sem, Nat.reduceEqDiff, reduceIte, Nat.reduceAdd, Nat.reduceLeDiff, Nat.reduceLT, Nat.reduceSub, hn0, decide_true]
  by_cases hn2 : n > 200
  · simp only [go_sem, Nat.reduceEqDiff, reduceIte, Nat.reduceAdd, Nat.reduceLeDiff, Nat.reduceLT, Nat.reduceSub, hn0, hn2, decide_true, decide_false]
  by_cases hbl : (back.length : Int) > 100
  · simp only [go_sem, Nat.reduceEqDiff, reduceIte, Nat.reduceAdd, Nat.reduceLeDiff, Nat.reduceLT, Nat.reduceSub, rowLen_ints, hn0, hn2, hbl, decide_true, decide_false]
  simp only [go_sem, Nat.reduceEqDiff, reduceIte, Nat.reduceAdd, Nat.reduceLeDiff, Nat.reduceLT, Nat.reduceSub, rowLen_ints, hn0, hn2, hbl, decide_false]
  obtain ⟨M, rfl⟩ : ∃ M : Nat, n = (M : Int) := ⟨n.toNat, by omega⟩
  have hM : M ≤ 200 := by omega
  have hb : back.length ≤ 100 := by omega
  refine Callee.f told15 (new15_spec M) ?_
  have e0 : (min (M : Int) 200).toNat = M := by omega
  rw [e0]
  simp only [go_sem, Nat.reduceEqDiff, reduceIte, Nat.reduceAdd, Nat.reduceLeDiff, Nat.reduceLT, Nat.reduceSub, setA]
  have hS := rises_upto M
  have hSl : (upto M).length = M := upto_length M
  refine Callee.f told11 (all11_spec (upto M) (by omega)) ?_
  rw [(Rep.of hS).sorted]
  simp only [go_sem, Nat.reduceEqDiff, reduceIte, Nat.reduceAdd, Nat.reduceLeDiff, Nat.reduceLT, Nat.reduceSub]
  refine WP.loopG (fun a : Nat × List Int => a.1 ≤ M ∧ Rep a.2 ((upto M).drop a.1)) (fun a => [(0, .int .i64 M), (1, ints back), (5, .bool true), (6, .ptr 0 0), (7, ints (upto M)), (8, .int .i64 a.1)]) (fun a => [.box [ints a.2]]) (fun a => M - a.1) (0, upto M) ⟨by simp, by simpa using Rep.of hS⟩
    (fun a _ => ⟨by simp, by simp , by simp ⟩) ⟨by simp , by simp⟩ ?_
  rintro ⟨k, s⟩ ⟨hk, hrep⟩
  simp only at hk hrep
  have hsl := hrep.len
  rw [List.length_drop, hSl] at hsl
  refine wpc_sound ?_
  simp only [go_sem, Nat.reduceEqDiff, reduceIte, Nat.reduceAdd, Nat.reduceLeDiff, Nat.reduceLT, Nat.reduceSub]
  refine ⟨fun h => ?_, fun h => ?_⟩
  · have hk' : k < (upto M).length := by omega
    have h0 : 0 < s.length := by omega
    have hd : (upto M).drop k = (upto M)[k] :: (upto M).drop (k + 1) := drop_cons hk'
    have hke : (upto M)[k] = (k : Int) := by simp [upto]
    have hi : at' s 0 = k := by rw [hrep.least', hd, ← hke]; rfl
    have ht := hrep.take
    rw [hd, List.tail_cons] at ht
    have hge : ¬ ((k : Int) ≥ (upto M).length) := by omega
    refine Callee.f told12 (take12_spec s (by omega)) ?_
    simp only [go_sem, Nat.reduceEqDiff, reduceIte, Nat.reduceAdd, Nat.reduceLeDiff, Nat.reduceLT, Nat.reduceSub, setA, h0, hi, hge, hke, rowLen_ints, index_ints _ (upto M) k hk', decide_true, decide_false, ne_eq, not_true_eq_false]
    exact ⟨(k + 1, takeS s), ⟨by omega, ht⟩, by simp; omega, by simp [wrapS (show k < 9223372036854775807 by omega)], rfl⟩
  · have hke : k = M := by omega
    subst hke
    have hs0 : s = [] := List.eq_nil_of_length_eq_zero (by omega)
    subst hs0
    refine WP.loopG (fun a : Nat × List Int => a.1 ≤ back.length ∧ Rep a.2 (rise (back.take a.1))) (fun a => [(1, ints back), (5, .bool true), (6, .ptr 0 0), (12, .int .i64 a.1)]) (fun a => [.box [ints a.2]]) (fun a => back.length - a.1) (0, []) ⟨by simp, by simpa [rise] using Rep.of (S := []) List.Pairwise.nil⟩
      (fun a _ => ⟨by simp, by simp , by simp ⟩) ⟨by simp , by simp⟩ ?_
    rintro ⟨j, s⟩ ⟨hj, hrep⟩
    simp only at hj hrep
    have hsl := hrep.len
    have hsl2 := length_rise_le (back.take j)
    rw [List.length_take] at hsl2
    refine wpc_sound ?_
    simp only [go_sem, Nat.reduceEqDiff, reduceIte, Nat.reduceAdd, Nat.reduceLeDiff, Nat.reduceLT, Nat.reduceSub, rowLen_ints]
    refine ⟨fun h => ?_, fun h => ?_⟩
    · have hj' : j < back.length := by omega
      have ht := hrep.put back[j]
      rw [rise_snoc, ← List.take_succ_eq_append_getElem hj'] at ht
      refine WP.drawS mixed _ _ (rfl : _ = [_, _, _, _, _, _] ++ [_]) (by decide) ?_
      simp only [go_sem, Nat.reduceEqDiff, reduceIte, Nat.reduceAdd, Nat.reduceLeDiff, Nat.reduceLT, Nat.reduceSub, index_ints _ back j hj']
      refine ⟨_, CallF.f told16 (put16_spec s back[j] (by omega)), ?_⟩
      simp only [go_sem, Nat.reduceEqDiff, reduceIte, Nat.reduceAdd, Nat.reduceLeDiff, Nat.reduceLT, Nat.reduceSub, setA]
      refine ⟨rfl, _, _, rfl, ?_⟩
      simp only [go_sem, Nat.reduceEqDiff, reduceIte, Nat.reduceAdd, Nat.reduceLeDiff, Nat.reduceLT, Nat.reduceSub]
      exact ⟨(j + 1, putS s back[j]), ⟨by omega, ht⟩, by simp; omega, by simp [wrapS (show j < 9223372036854775807 by omega)], rfl⟩
    · have hje : j = back.length := by omega
      subst hje
      rw [List.take_length] at hrep
      have hl1 := hrep.len
      refine WP.drawL mixed (by decide) ?_
      simp only [go_sem, Nat.reduceEqDiff, reduceIte, Nat.reduceAdd, Nat.reduceLeDiff, Nat.reduceLT, Nat.reduceSub]
      refine ⟨_, CallF.f told10 (of10_spec back (by omega)), ?_⟩
      simp only [go_sem, Nat.reduceEqDiff, reduceIte, Nat.reduceAdd, Nat.reduceLeDiff, Nat.reduceLT, Nat.reduceSub, setA]
      refine ⟨_, CallF.f told13 (len13_spec _), ?_⟩
      simp only [go_sem, Nat.reduceEqDiff, reduceIte, Nat.reduceAdd, Nat.reduceLeDiff, Nat.reduceLT, Nat.reduceSub, setA]
      refine ⟨_, CallF.f told13 (len13_spec _), ?_⟩
      simp only [go_sem, Nat.reduceEqDiff, reduceIte, Nat.reduceAdd, Nat.reduceLeDiff, Nat.reduceLT, Nat.reduceSub, hl1, decide_true, setA]
      refine ⟨_, CallF.f told11 (all11_spec s (by omega)), ?_⟩
      rw [hrep.sorted]
      simp only [go_sem, Nat.reduceEqDiff, reduceIte, Nat.reduceAdd, Nat.reduceLeDiff, Nat.reduceLT, Nat.reduceSub]
      refine ⟨_, CallF.f told10 (of10_spec back (by omega)), ?_⟩
      simp only [go_sem, Nat.reduceEqDiff, reduceIte, Nat.reduceAdd, Nat.reduceLeDiff, Nat.reduceLT, Nat.reduceSub, setA]
      refine ⟨_, CallF.f told11 (all11_spec (rise back) (by have := length_rise_le back; omega)), ?_⟩
      rw [(Rep.of (rises_rise back)).sorted]
      simp only [go_sem, Nat.reduceEqDiff, reduceIte, Nat.reduceAdd, Nat.reduceLeDiff, Nat.reduceLT, Nat.reduceSub]
      refine ⟨_, CallF.f told17 (same_spec (rise back) (rise back)), ?_⟩
      simp only [go_sem, Nat.reduceEqDiff, reduceIte, Nat.reduceAdd, Nat.reduceLeDiff, Nat.reduceLT, Nat.reduceSub, decide_true]

end Go.Proofs.Ytfifhibajpgpmaa.Al
