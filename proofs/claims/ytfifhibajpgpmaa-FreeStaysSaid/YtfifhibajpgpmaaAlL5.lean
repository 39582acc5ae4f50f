/-
  THE LAWS FreePut, FreeIs.
-/
import Derived.Test.YtfifhibajpgpmaaAlL4
set_option linter.unusedSimpArgs false
set_option linter.unusedVariables false
namespace Go.Proofs.Ytfifhibajpgpmaa.Al
open Go
attribute [local go_sem] W_mv W_pick W_alloc W_box W_build W_bslice W_load W_store W_nilck W_bin W_isnil W_un W_convI W_convS W_mkiface W_mkfunc W_mkslice W_slice W_faddr W_field W_iaddr W_iaddrA W_idxA W_extract W_len W_lenS W_lenA W_min W_max W_append W_appendZ W_copy W_clear W_tassert W_invoke thenQ_normal thenQ_exit thenQ_goto thenQ_ret blockQ_normal blockQ_ret blockQ_goto blockQ_exit wpc_skip wpc_region wpc_draw wpc_seq wpc_cond wpc_block wpc_exit wpc_goto wpc_label wpc_ret wpc_loop wpc_range wpc_scope condW_true condW_false condW_dec condW_any W_nil W_call resW_some evalOp Opd.ev updo_envL updo_none setL_cons setL_nil envL_cons Option.map_some Option.bind_some evBin evInt List.map_cons List.map_nil Option.pure_def Option.bind_eq_bind W_grd' grdW_tt grdW_ff grdW_tf grdW_ft grdW_tup grdW_dt grdW_df lgrdW_tt lgrdW_ff lgrdW_tf lgrdW_ft lgrdW_tup lgrdW_dt lgrdW_df L_mv L_pick L_alloc L_box L_build L_bslice L_load L_store L_nilck L_bin L_isnil L_un L_convI L_convS L_mkiface L_mkfunc L_mkslice L_slice L_faddr L_field L_iaddr L_iaddrA L_idxA L_extract L_len L_lenS L_lenA L_min L_max L_append L_appendZ L_copy L_clear L_tassert L_nil L_call L_grd lresW_some upd_envL evUn beq_dec bne_dec leaves_ret1 leaves_end1 leaves_ret0 leaves_end0 leaves_ret2 leaves_ret3 rowLen_ints load_iptr0 not_dec heap_get0 heap_get1 heap_set0 heap_set1 heap_len1 heap_len2 heap_app heap_app2 bslice1_int seen_ints seen_one0 seen_one1 seen_one2 rowLen_own0 bslice0_int rowLen_own1 Nat.sub_zero Bool.not_true Bool.not_false List.length_nil List.length_cons List.nil_append List.cons_append Nat.zero_add load_iptrA canon_ptrI canon_bool canon_tup canon_agg canon_leafA canon_innerA canon_nodeA canon_ints' rowLen_ints0 seen_ints0 canon_ints0 rowLen_ints1 seen_ints1 canon_ints1 rowLen_ints2 seen_ints2 canon_ints2 rowLen_ints3 seen_ints3 canon_ints3 rowLen_octs seen_octs canon_octs' szOk_octs rowLen_octs0 seen_octs0 canon_octs0 rowLen_octs1 seen_octs1 canon_octs1 rowLen_octs2 seen_octs2 canon_octs2 rowLen_octs3 seen_octs3 canon_octs3 rowLen_intss seen_intss canon_intss' szOk_intss rowLen_intss0 seen_intss0 canon_intss0 rowLen_intss1 seen_intss1 canon_intss1 rowLen_intss2 seen_intss2 canon_intss2 rowLen_intss3 seen_intss3 canon_intss3 rowLen_octss seen_octss canon_octss' szOk_octss rowLen_octss0 seen_octss0 canon_octss0 rowLen_octss1 seen_octss1 canon_octss1 rowLen_octss2 seen_octss2 canon_octss2 rowLen_octss3 seen_octss3 canon_octss3 rowLen_nodes seen_nodes canon_nodes' szOk_nodes rowLen_nodes0 seen_nodes0 canon_nodes0 rowLen_nodes1 seen_nodes1 canon_nodes1 rowLen_nodes2 seen_nodes2 canon_nodes2 rowLen_nodes3 seen_nodes3 canon_nodes3 seen_list cells_int oneIn_int cells_bool oneIn_bool cells_str oneIn_str cells_list oneIn_list cells_func oneIn_func cells_nilfunc oneIn_nilfunc cells_iptr oneIn_iptr cells_iface oneIn_iface cells_nilIface oneIn_nilIface cells_own cells_ptr cells_anybool oneIn_anybool cells_agg oneIn_own0 oneIn_ptr0 seenL0 seenM0 oneIn_own1 oneIn_ptr1 seenL1 seenM1 oneIn_own2 oneIn_ptr2 seenL2 seenM2 oneIn_own3 oneIn_ptr3 seenL3 seenM3 oneIn_own4 oneIn_ptr4 seenL4 seenM4 oneIn_own5 oneIn_ptr5 seenL5 seenM5 cells_ints oneIn_ints cells_octs oneIn_octs cells_intss oneIn_intss cells_octss oneIn_octss cells_nodes oneIn_nodes ldB0 ldA0 adB0 stB0 ldB1 ldA1 adB1 stB1 ldB2 ldA2 adB2 stB2 ldB3 ldA3 adB3 stB3 ldB4 ldA4 adB4 stB4 ldB5 ldA5 adB5 stB5 List.getElem?_cons_zero List.getElem?_cons_succ beq_self_eq_true splice List.take_zero List.take_succ_cons List.drop_zero List.drop_succ_cons List.append_nil List.set_cons_zero List.set_cons_succ List.all_cons List.all_nil Bool.and_self and_self and_true true_and Nat.lt_irrefl Nat.zero_lt_one Nat.le_refl fillA evNil notA Bool.false_eq_true evMin_int evMax_int Option.map_none freezeP_all_nil freezeP_all_cons frzE_box frzE_arr frzE_dead foldA List.foldlM_cons List.foldlM_nil
attribute [local simp] envL_cons envL_nil idb_int idb_bool idb_str idb_ints idb_nil idb_own idb_ptr entB_ints' idb_octs entB_octs idb_intss entB_intss idb_octss entB_octss idb_nodes entB_nodes idb_leafA idb_innerA idb_nodeA idb_agg idb_tup idb_iptr idb_fn idb_undef entB_dead entB_box

theorem filter_ne_length {x : Int} : ∀ {S : List Int}, S.Nodup → x ∈ S → (S.filter fun y => decide (y ≠ x)).length + 1 = S.length
  | [], _, h => by simp at h
  | y :: S, hn, h => by
    rw [List.nodup_cons] at hn
    by_cases e : y = x
    · subst e
      rw [List.filter_cons, if_neg (by simp), List.filter_eq_self.2 (fun z hz => by simp; rintro rfl; exact hn.1 hz)]
      rfl
    · rw [List.filter_cons, if_pos (by simpa using e)]
      have hm : x ∈ S := by rcases List.mem_cons.1 h with h | h; exact absurd h.symm e; exact h
      simp only [List.length_cons]
      rw [filter_ne_length hn.2 hm]

theorem ins_length_le (x : Int) : ∀ l : List Int, (ins x l).length ≤ l.length + 1
  | [] => by simp [ins]
  | y :: l => by
    have := ins_length_le x l
    simp only [ins]
    split
    · simp
    · split
      · simp
      · simp; omega

set_option maxRecDepth 100000 in
theorem freePut_spec (l : List Int) (i k : Int) : Fun seat 8 [ints l, .int .i64 i, .int .i64 k] (.bool true) := by
  refine Fun.bd fun hbd => ?_
  have hlb : l.length ≤ 9223372036854775807 := encI64.bd_len (t := false) hbd (by simp [ints, encI64])
  refine Fun.of0W told8 (by simp [il8]) (by simp ) (by simp ) 1 ?_
  simp only [il8, List.zipIdx_cons, List.zipIdx_nil, Nat.zero_add, List.map_cons, List.map_nil, Nat.reduceAdd]
  refine WP.seqH fun K hK => ?_
  simp only [go_sem, Nat.reduceEqDiff, reduceIte, Nat.reduceAdd, Nat.reduceLeDiff, Nat.reduceLT, Nat.reduceSub]
  refine hK _ (WP.seqH fun K hK => ?_)
  simp only [go_sem, Nat.reduceEqDiff, reduceIte, Nat.reduceAdd, Nat.reduceLeDiff, Nat.reduceLT, Nat.reduceSub]
  refine Callee.f told9 free_awake ?_
  simp only [go_sem, Nat.reduceEqDiff, reduceIte, Nat.reduceAdd, Nat.reduceLeDiff, Nat.reduceLT, Nat.reduceSub]
  refine hK _ (WP.seqH fun K hK => ?_)
  simp only [go_sem, Nat.reduceEqDiff, reduceIte, Nat.reduceAdd, Nat.reduceLeDiff, Nat.reduceLT, Nat.reduceSub, rowLen_ints]
  refine ⟨fun _ => trivial, fun hle => ?_⟩
  have hl : l.length ≤ 100 := by omega
  refine hK _ (WP.seqH fun K hK => ?_)
  simp only [go_sem, Nat.reduceEqDiff, reduceIte, Nat.reduceAdd, Nat.reduceLeDiff, Nat.reduceLT, Nat.reduceSub]
  refine Callee.f told10 (of10_spec l (by omega)) ?_
  have hS : Rises (rise l) := rises_rise l
  have hSl : (rise l).length ≤ 100 := Nat.le_trans (rise_length_le l) hl
  have hm : ∀ x, x ∈ rise l ↔ x ∈ l := fun x => mem_rise
  simp only [go_sem, Nat.reduceEqDiff, reduceIte, Nat.reduceAdd, Nat.reduceLeDiff, Nat.reduceLT, Nat.reduceSub, setA]
  generalize rise l = S at hS hSl hm ⊢
  have rP := (Rep.of hS).put i
  have hPl := ins_length_le i S
  have rD := rP.drop i
  have hiP : i ∈ ins i S := mem_ins.2 (.inl rfl)
  have hDl := filter_ne_length (rises_nodup rP.rises) hiP
  have hpl := rP.len
  have hdl := rD.len
  refine hK _ (WP.seqH fun K hK => ?_)
  simp only [go_sem, Nat.reduceEqDiff, reduceIte, Nat.reduceAdd, Nat.reduceLeDiff, Nat.reduceLT, Nat.reduceSub]
  refine Callee.f told16 (put16_spec S i (by omega)) ?_
  simp only [go_sem, Nat.reduceEqDiff, reduceIte, Nat.reduceAdd, Nat.reduceLeDiff, Nat.reduceLT, Nat.reduceSub, setA]
  refine hK _ (WP.seqH fun K hK => ?_)
  simp only [go_sem, Nat.reduceEqDiff, reduceIte, Nat.reduceAdd, Nat.reduceLeDiff, Nat.reduceLT, Nat.reduceSub]
  refine Callee.f told19 (drop19_spec (putS S i) i (by omega)) ?_
  simp only [go_sem, Nat.reduceEqDiff, reduceIte, Nat.reduceAdd, Nat.reduceLeDiff, Nat.reduceLT, Nat.reduceSub, setA]
  refine hK _ (WP.seqH fun K hK => ?_)
  simp only [go_sem, Nat.reduceEqDiff, reduceIte, Nat.reduceAdd, Nat.reduceLeDiff, Nat.reduceLT, Nat.reduceSub]
  refine Callee.f told11 (all11_spec (putS S i) (by omega)) ?_
  rw [rP.sorted]
  simp only [go_sem, Nat.reduceEqDiff, reduceIte, Nat.reduceAdd, Nat.reduceLeDiff, Nat.reduceLT, Nat.reduceSub]
  refine hK _ (WP.seqH fun K hK => ?_)
  simp only [go_sem, Nat.reduceEqDiff, reduceIte, Nat.reduceAdd, Nat.reduceLeDiff, Nat.reduceLT, Nat.reduceSub]
  refine Callee.f told11 (all11_spec (dropS (putS S i) i) (by omega)) ?_
  rw [rD.sorted]
  simp only [go_sem, Nat.reduceEqDiff, reduceIte, Nat.reduceAdd, Nat.reduceLeDiff, Nat.reduceLT, Nat.reduceSub]
  refine hK _ (WP.seqH fun K hK => ?_)
  have hall : ∀ x ∈ l, (ins i S).contains x = true := fun x hx => by simpa using mem_ins.2 (.inr ((hm x).2 hx))
  have hgone : ∀ x ∈ l, ((ins i S).filter fun y => decide (y ≠ i)).contains x = decide (x ≠ i) := fun x hx => by
    have := mem_ins.2 (.inr ((hm x).2 hx) : x = i ∨ x ∈ S)
    rw [Bool.eq_iff_iff]
    simp [this]
  simp only [go_sem, Nat.reduceEqDiff, reduceIte, Nat.reduceAdd, Nat.reduceLeDiff, Nat.reduceLT, Nat.reduceSub]
  refine WP.loopG (fun j => j ≤ l.length) (fun j => [(0, ints l), (1, .int .i64 i), (2, .int .i64 k), (7, .bool true), (8, .ptr 0 0), (9, .ptr 1 0), (10, .ptr 2 0), (11, ints (ins i S)), (12, ints ((ins i S).filter fun y => decide (y ≠ i))), (13, .int .i64 j)])
    (fun j => [.box [ints S], .box [ints (putS S i)], .box [ints (dropS (putS S i) i)]]) (fun j => l.length - j) 0 (Nat.zero_le _) (fun a _ => ⟨by simp, by simp , by simp ⟩) ⟨by simp , by simp⟩ ?_
  intro j hj
  refine wpc_sound ?_
  simp only [go_sem, Nat.reduceEqDiff, reduceIte, Nat.reduceAdd, Nat.reduceLeDiff, Nat.reduceLT, Nat.reduceSub, rowLen_ints]
  refine ⟨fun h => ?_, fun h => ?_⟩
  · have hj' : j < l.length := by omega
    refine WP.drawL mixed (by decide) ?_
    simp only [go_sem, Nat.reduceEqDiff, reduceIte, Nat.reduceAdd, Nat.reduceLeDiff, Nat.reduceLT, Nat.reduceSub, index_ints _ l j hj']
    refine ⟨_, CallF.f told14 (has_spec (ins i S) l[j]), ?_⟩
    rw [hall _ (List.getElem_mem hj')]
    simp only [go_sem, Nat.reduceEqDiff, reduceIte, Nat.reduceAdd, Nat.reduceLeDiff, Nat.reduceLT, Nat.reduceSub, index_ints _ l j hj']
    refine ⟨_, CallF.f told14 (has_spec ((ins i S).filter fun y => decide (y ≠ i)) l[j]), ?_⟩
    rw [hgone _ (List.getElem_mem hj')]
    simp only [go_sem, Nat.reduceEqDiff, reduceIte, Nat.reduceAdd, Nat.reduceLeDiff, Nat.reduceLT, Nat.reduceSub, index_ints _ l j hj']
    exact ⟨j + 1, by omega, by omega, by simp [wrapS (show j < 9223372036854775807 by omega)]⟩
  · have c1 : (ins i S).contains i = true := by simpa using hiP
    have c2 : ((ins i S).filter fun y => decide (y ≠ i)).contains i = false := by simp
    have rPi := rP.put i
    have ePi : ins i (ins i S) = ins i S := rises_ext rPi.rises rP.rises fun x => by simp [mem_ins]
    rw [ePi] at rPi
    have rik := rP.put k
    have rk := (Rep.of hS).put k
    have rki := rk.put i
    have e2 : ins i (ins k S) = ins k (ins i S) := rises_ext rki.rises rik.rises fun x => by
      simp only [mem_ins]
      constructor <;> (rintro (h | h | h) <;> simp [h])
    rw [e2] at rki
    have hkl := rk.len
    have hkl2 := ins_length_le k S
    have hikl := rik.len
    have hikl2 := ins_length_le k (ins i S)
    have hkil := rki.len
    have hpil := rPi.len
    have hw : IntKind.i64.wrap (((putS S i).length : Int) - 1) = ((dropS (putS S i) i).length : Int) := by rw [wrap64 _ (by omega) (by omega)]; omega
    refine hK _ (WP.seqH fun K hK => ?_)
    refine WP.drawL mixed (by decide) ?_
    simp only [go_sem, Nat.reduceEqDiff, reduceIte, Nat.reduceAdd, Nat.reduceLeDiff, Nat.reduceLT, Nat.reduceSub]
    refine ⟨_, CallF.f told14 (has_spec (ins i S) i), ?_⟩
    rw [c1]
    simp only [go_sem, Nat.reduceEqDiff, reduceIte, Nat.reduceAdd, Nat.reduceLeDiff, Nat.reduceLT, Nat.reduceSub]
    refine ⟨_, CallF.f told14 (has_spec ((ins i S).filter fun y => decide (y ≠ i)) i), ?_⟩
    rw [c2]
    simp only [go_sem, Nat.reduceEqDiff, reduceIte, Nat.reduceAdd, Nat.reduceLeDiff, Nat.reduceLT, Nat.reduceSub]
    refine ⟨_, CallF.f told16 (put16_spec (putS S i) i (by omega)), ?_⟩
    simp only [go_sem, Nat.reduceEqDiff, reduceIte, Nat.reduceAdd, Nat.reduceLeDiff, Nat.reduceLT, Nat.reduceSub, setA]
    refine ⟨_, CallF.f told11 (all11_spec _ (by omega)), ?_⟩
    rw [rPi.sorted]
    simp only [go_sem, Nat.reduceEqDiff, reduceIte, Nat.reduceAdd, Nat.reduceLeDiff, Nat.reduceLT, Nat.reduceSub]
    refine ⟨_, CallF.f told17 (same_spec _ _), ?_⟩
    simp only [go_sem, Nat.reduceEqDiff, reduceIte, Nat.reduceAdd, Nat.reduceLeDiff, Nat.reduceLT, Nat.reduceSub, decide_true]
    refine ⟨_, CallF.f told16 (put16_spec S i (by omega)), ?_⟩
    simp only [go_sem, Nat.reduceEqDiff, reduceIte, Nat.reduceAdd, Nat.reduceLeDiff, Nat.reduceLT, Nat.reduceSub, setA]
    refine ⟨_, CallF.f told16 (put16_spec (putS S i) k (by omega)), ?_⟩
    simp only [go_sem, Nat.reduceEqDiff, reduceIte, Nat.reduceAdd, Nat.reduceLeDiff, Nat.reduceLT, Nat.reduceSub, setA]
    refine ⟨_, CallF.f told11 (all11_spec _ (by omega)), ?_⟩
    rw [rik.sorted]
    simp only [go_sem, Nat.reduceEqDiff, reduceIte, Nat.reduceAdd, Nat.reduceLeDiff, Nat.reduceLT, Nat.reduceSub]
    refine ⟨_, CallF.f told16 (put16_spec S k (by omega)), ?_⟩
    simp only [go_sem, Nat.reduceEqDiff, reduceIte, Nat.reduceAdd, Nat.reduceLeDiff, Nat.reduceLT, Nat.reduceSub, setA]
    refine ⟨_, CallF.f told16 (put16_spec (putS S k) i (by omega)), ?_⟩
    simp only [go_sem, Nat.reduceEqDiff, reduceIte, Nat.reduceAdd, Nat.reduceLeDiff, Nat.reduceLT, Nat.reduceSub, setA]
    refine ⟨_, CallF.f told11 (all11_spec _ (by omega)), ?_⟩
    rw [rki.sorted]
    simp only [go_sem, Nat.reduceEqDiff, reduceIte, Nat.reduceAdd, Nat.reduceLeDiff, Nat.reduceLT, Nat.reduceSub]
    refine ⟨_, CallF.f told17 (same_spec _ _), ?_⟩
    simp only [go_sem, Nat.reduceEqDiff, reduceIte, Nat.reduceAdd, Nat.reduceLeDiff, Nat.reduceLT, Nat.reduceSub, decide_true]
    refine ⟨_, CallF.f told13 (len13_spec _), ?_⟩
    simp only [go_sem, Nat.reduceEqDiff, reduceIte, Nat.reduceAdd, Nat.reduceLeDiff, Nat.reduceLT, Nat.reduceSub, setA]
    refine ⟨_, CallF.f told13 (len13_spec _), ?_⟩
    simp only [go_sem, Nat.reduceEqDiff, reduceIte, Nat.reduceAdd, Nat.reduceLeDiff, Nat.reduceLT, Nat.reduceSub, hw, decide_true]
    refine hK _ (wpc_sound ?_)
    simp only [go_sem, Nat.reduceEqDiff, reduceIte, Nat.reduceAdd, Nat.reduceLeDiff, Nat.reduceLT, Nat.reduceSub]

end Go.Proofs.Ytfifhibajpgpmaa.Al
