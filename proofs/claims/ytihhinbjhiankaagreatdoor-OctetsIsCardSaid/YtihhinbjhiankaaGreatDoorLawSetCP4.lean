/-
  JOINED: N3, N4, S1, Q1, Q2, Q3, Q4, Q5, IlsK, M1, M2, M3
-/
import Derived.Test.YtihhinbjhiankaaGreatDoorLawSetCP3
import Derived.Test.YtihhinbjhiankaaGreatDoorLawSetCP2
set_option linter.unusedSimpArgs false
set_option linter.unusedVariables false
namespace Go.Proofs.YtihhinbjhiankaaGreatDoor.Al
open Go
attribute [local go_sem] W_mv W_pick W_alloc W_box W_build W_bslice W_load W_store W_bin W_isnil W_un W_convI W_convS W_mkiface W_mkfunc W_slice W_faddr W_iaddr W_idxA W_extract W_len W_min W_max W_append thenQ_normal thenQ_exit thenQ_ret blockQ_normal blockQ_ret blockQ_exit wpc_skip wpc_region wpc_draw wpc_seq wpc_cond wpc_block wpc_exit wpc_ret wpc_loop wpc_range condW_true condW_false condW_dec condW_any W_nil W_call resW_some evalOp Opd.ev updo_envL updo_none setL_cons setL_nil envL_cons Option.map_some Option.bind_some evBin evInt List.map_cons List.map_nil Option.pure_def Option.bind_eq_bind W_grd' grdW_tt grdW_ff grdW_tf grdW_ft grdW_tup grdW_dt grdW_df L_mv L_load L_bin L_un L_faddr L_iaddr L_nil L_call lresW_some upd_envL evUn beq_dec bne_dec leaves_ret1 leaves_ret0 leaves_end0 rowLen_ints load_iptr0 not_dec heap_get0 heap_get1 heap_set0 heap_set1 heap_len1 heap_app bslice1_int seen_one0 Nat.sub_zero Bool.not_true Bool.not_false List.length_nil List.length_cons List.nil_append List.cons_append Nat.zero_add canon_ptrI canon_bool canon_tup canon_agg canon_ints' canon_ints0 rowLen_octs seen_octs canon_octs' rowLen_nodes canon_nodes' rowLen_nodes0 rowLen_nodes3 seen_list cells_int oneIn_int cells_bool oneIn_bool cells_list oneIn_list cells_func oneIn_func cells_own cells_ptr cells_agg oneIn_own0 oneIn_own1 seenL1 seenM1 oneIn_ptr2 seenL2 oneIn_own3 seenL3 cells_ints oneIn_ints cells_octs oneIn_octs cells_nodes oneIn_nodes ldB0 ldA0 adB0 stB0 ldB1 ldA1 adB1 stB1 ldB2 ldA2 adB2 stB2 ldB3 stB3 List.getElem?_cons_zero List.getElem?_cons_succ beq_self_eq_true splice List.take_zero List.take_succ_cons List.drop_zero List.drop_succ_cons List.append_nil List.set_cons_zero List.set_cons_succ List.all_cons List.all_nil Bool.and_self and_self and_true true_and Nat.lt_irrefl Nat.zero_lt_one Nat.le_refl fillA evNil notA Bool.false_eq_true evMin_int evMax_int Option.map_none freezeP_all_nil freezeP_all_cons frzE_box frzE_arr foldA List.foldlM_cons List.foldlM_nil
attribute [local simp] envL_cons envL_nil idb_int idb_bool idb_ints idb_nil idb_own idb_ptr idb_octs idb_nodes idb_leafA idb_innerA idb_nodeA idb_agg idb_tup idb_iptr idb_fn entB_dead entB_box
theorem leafCheck_spec (l : Leaf) : Fun seat 146 [leafA l] (.int .i64 (leafCheck l)) := by
  refine Fun.of0 told146 (by simp [il146]) (by simp [idb_leafA]) (by simp ) 0 ?_
  simp only [il146, List.zipIdx_cons, List.zipIdx_nil, Nat.zero_add, leafA, Leaf.cells, go_sem, Nat.reduceEqDiff, reduceIte, Nat.reduceAdd, Nat.reduceLeDiff, Nat.reduceLT, Nat.reduceSub]
  refine ⟨fun h => ?_, fun h => ?_⟩
  · have h0 : l.enc.length = 0 := by omega
    simp [leafCheck, h0]
  have h0 : ¬ l.enc.length = 0 := by omega
  have bs : evBslice [.box [octs l.enc, octs l.cred, .int .i64 l.source, octs l.parent]] 1 3 (.list true []) [(0, octs l.enc), (1, octs l.cred), (2, octs l.parent)] = some (.own 1 0 0 3, [.box [octs l.enc, octs l.cred, .int .i64 l.source, octs l.parent], .arr 1 0 [octs l.enc, octs l.cred, octs l.parent]]) := rfl
  simp only [go_sem, Nat.reduceEqDiff, reduceIte, Nat.reduceAdd, Nat.reduceLeDiff, Nat.reduceLT, Nat.reduceSub, bs]
  refine Callee.lend (r := .bool ([l.enc, l.cred, l.parent].any fun x => decide ((x.length : Int) > 200))) 1 told159 (any159_spec [l.enc, l.cred, l.parent] (fun x => decide ((x.length : Int) > 200)) 158 il158 told158 [] (by simp) fun x _ => big_spec x) (.bool _) ?_
  by_cases h1 : l.enc.length > 200 ∨ l.cred.length > 200 ∨ l.parent.length > 200
  · have e : ([l.enc, l.cred, l.parent].any fun x => decide ((x.length : Int) > 200)) = true := by simp; omega
    simp only [go_sem, Nat.reduceEqDiff, reduceIte, Nat.reduceAdd, Nat.reduceLeDiff, Nat.reduceLT, Nat.reduceSub, e]
    simp [leafCheck, h0, h1]
  have e : ([l.enc, l.cred, l.parent].any fun x => decide ((x.length : Int) > 200)) = false := by simp; omega
  simp only [go_sem, Nat.reduceEqDiff, reduceIte, Nat.reduceAdd, Nat.reduceLeDiff, Nat.reduceLT, Nat.reduceSub, e]
  refine Callee.f told160 (source_spec l.source) ?_
  by_cases h2 : l.source < 1 ∨ l.source > 3
  · have e2 : decide (l.source ≥ 1 ∧ l.source ≤ 3) = false := by simp; omega
    simp only [go_sem, Nat.reduceEqDiff, reduceIte, Nat.reduceAdd, Nat.reduceLeDiff, Nat.reduceLT, Nat.reduceSub, e2]
    simp [leafCheck, h0, h1, h2]
  have e2 : decide (l.source ≥ 1 ∧ l.source ≤ 3) = true := by simp; omega
  by_cases h3 : l.source = 3
  · simp only [go_sem, Nat.reduceEqDiff, reduceIte, Nat.reduceAdd, Nat.reduceLeDiff, Nat.reduceLT, Nat.reduceSub, e2, h3, decide_true, decide_false, ne_eq, not_true_eq_false, Bool.not_true]
    simp [leafCheck, h0, h1, h3]
  · simp only [go_sem, Nat.reduceEqDiff, reduceIte, Nat.reduceAdd, Nat.reduceLeDiff, Nat.reduceLT, Nat.reduceSub, e2, h3, decide_true, decide_false, ne_eq, not_true_eq_false, not_false_eq_true, Bool.not_true]
    refine ⟨fun h4 => ?_, fun h4 => ?_⟩
    · have h5 : l.parent.length > 0 := by omega
      rw [show leafCheck l = 2 from by rw [leafCheck, if_neg h0, if_neg h1, if_neg h2, if_pos ⟨h3, h5⟩]]
    · have h5 : l.parent.length = 0 := by omega
      rw [show leafCheck l = 0 from by rw [leafCheck, if_neg h0, if_neg h1, if_neg h2, if_neg (by omega)]]

theorem innerCheck_spec (l : Inner) : Fun seat 147 [innerA l] (.int .i64 (innerCheck l)) := by
  refine Fun.of0 told147 (by simp [il147]) (by simp [idb_innerA]) (by simp ) 0 ?_
  simp only [il147, List.zipIdx_cons, List.zipIdx_nil, Nat.zero_add, innerA, Inner.cells]
  by_cases h : (l.enc.length : Int) = 0
  · have h0 : l.enc.length = 0 := by omega
    simp only [go_sem, Nat.reduceEqDiff, reduceIte, Nat.reduceAdd, Nat.reduceLeDiff, Nat.reduceLT, Nat.reduceSub, h, decide_true]
    simp [innerCheck, h0]
  have h0 : ¬ l.enc.length = 0 := by omega
  by_cases hA : (l.enc.length : Int) > 200
  · have h1 : l.enc.length > 200 ∨ l.hash.length > 200 ∨ l.unmerged.length > 64 := by omega
    simp only [go_sem, Nat.reduceEqDiff, reduceIte, Nat.reduceAdd, Nat.reduceLeDiff, Nat.reduceLT, Nat.reduceSub, h, hA, decide_true, decide_false]
    rw [show innerCheck l = 4 from by rw [innerCheck, if_neg h0, if_pos h1]]
  by_cases hB : (l.hash.length : Int) > 200
  · have h1 : l.enc.length > 200 ∨ l.hash.length > 200 ∨ l.unmerged.length > 64 := by omega
    simp only [go_sem, Nat.reduceEqDiff, reduceIte, Nat.reduceAdd, Nat.reduceLeDiff, Nat.reduceLT, Nat.reduceSub, h, hA, hB, decide_true, decide_false]
    rw [show innerCheck l = 4 from by rw [innerCheck, if_neg h0, if_pos h1]]
  by_cases hC : (l.unmerged.length : Int) > 64
  · have h1 : l.enc.length > 200 ∨ l.hash.length > 200 ∨ l.unmerged.length > 64 := by omega
    simp only [go_sem, Nat.reduceEqDiff, reduceIte, Nat.reduceAdd, Nat.reduceLeDiff, Nat.reduceLT, Nat.reduceSub, h, hA, hB, hC, decide_true, decide_false]
    rw [show innerCheck l = 4 from by rw [innerCheck, if_neg h0, if_pos h1]]
  have h1 : ¬ (l.enc.length > 200 ∨ l.hash.length > 200 ∨ l.unmerged.length > 64) := by omega
  simp only [go_sem, Nat.reduceEqDiff, reduceIte, Nat.reduceAdd, Nat.reduceLeDiff, Nat.reduceLT, Nat.reduceSub, h, hA, hB, hC, decide_true, decide_false]
  refine Callee.f told162 (any162_spec l.unmerged (fun i => decide (i < 0 ∨ i > 63)) 161 il161 told161 [] (by simp) fun x _ => wide_spec x) ?_
  by_cases h2 : ∃ i ∈ l.unmerged, i < 0 ∨ i > 63
  · have e : (l.unmerged.any fun i => decide (i < 0 ∨ i > 63)) = true := by
      obtain ⟨i, hi, hw⟩ := h2
      exact List.any_eq_true.2 ⟨i, hi, by simpa using hw⟩
    simp only [go_sem, Nat.reduceEqDiff, reduceIte, Nat.reduceAdd, Nat.reduceLeDiff, Nat.reduceLT, Nat.reduceSub, e]
    rw [show innerCheck l = 3 from by rw [innerCheck, if_neg h0, if_neg h1, if_pos h2]]
  have e : (l.unmerged.any fun i => decide (i < 0 ∨ i > 63)) = false := by
    rw [Bool.eq_false_iff]
    intro h
    obtain ⟨i, hi, hw⟩ := List.any_eq_true.1 h
    exact h2 ⟨i, hi, by simpa using hw⟩
  simp only [go_sem, Nat.reduceEqDiff, reduceIte, Nat.reduceAdd, Nat.reduceLeDiff, Nat.reduceLT, Nat.reduceSub, e]
  refine WP.drawL mixed (by decide) ?_
  simp only [go_sem, Nat.reduceEqDiff, reduceIte, Nat.reduceAdd, Nat.reduceLeDiff, Nat.reduceLT, Nat.reduceSub]
  refine ⟨_, CallF.f told163 (thin_spec l.unmerged (by omega)), ?_⟩
  simp only [go_sem, Nat.reduceEqDiff, reduceIte, Nat.reduceAdd, Nat.reduceLeDiff, Nat.reduceLT, Nat.reduceSub]
  refine ⟨_, CallF.f told157 (eqInts_spec _ _), ?_⟩
  by_cases h3 : rise l.unmerged = l.unmerged
  · simp only [go_sem, Nat.reduceEqDiff, reduceIte, Nat.reduceAdd, Nat.reduceLeDiff, Nat.reduceLT, Nat.reduceSub, h3, decide_true, Bool.not_true]
    rw [show innerCheck l = 0 from by rw [innerCheck, if_neg h0, if_neg h1, if_neg h2, if_neg (not_not_intro h3)]]
  · simp only [go_sem, Nat.reduceEqDiff, reduceIte, Nat.reduceAdd, Nat.reduceLeDiff, Nat.reduceLT, Nat.reduceSub, h3, decide_false, Bool.not_false]
    rw [show innerCheck l = 8 from by rw [innerCheck, if_neg h0, if_neg h1, if_neg h2, if_pos h3]]

end Go.Proofs.YtihhinbjhiankaaGreatDoor.Al

set_option linter.unusedSimpArgs false
set_option linter.unusedVariables false
namespace Go.Proofs.YtihhinbjhiankaaGreatDoor.Al
open Go
attribute [local go_sem] W_mv W_pick W_alloc W_box W_build W_bslice W_load W_store W_bin W_isnil W_un W_convI W_convS W_mkiface W_mkfunc W_slice W_faddr W_iaddr W_idxA W_extract W_len W_min W_max W_append thenQ_normal thenQ_exit thenQ_ret blockQ_normal blockQ_ret blockQ_exit wpc_skip wpc_region wpc_draw wpc_seq wpc_cond wpc_block wpc_exit wpc_ret wpc_loop wpc_range condW_true condW_false condW_dec condW_any W_nil W_call resW_some evalOp Opd.ev updo_envL updo_none setL_cons setL_nil envL_cons Option.map_some Option.bind_some evBin evInt List.map_cons List.map_nil Option.pure_def Option.bind_eq_bind W_grd' grdW_tt grdW_ff grdW_tf grdW_ft grdW_tup grdW_dt grdW_df L_mv L_load L_bin L_un L_faddr L_iaddr L_nil L_call lresW_some upd_envL evUn beq_dec bne_dec leaves_ret1 leaves_ret0 leaves_end0 rowLen_ints load_iptr0 not_dec heap_get0 heap_get1 heap_set0 heap_set1 heap_len1 heap_app bslice1_int seen_one0 Nat.sub_zero Bool.not_true Bool.not_false List.length_nil List.length_cons List.nil_append List.cons_append Nat.zero_add canon_ptrI canon_bool canon_tup canon_agg canon_ints' canon_ints0 rowLen_octs seen_octs canon_octs' rowLen_nodes canon_nodes' rowLen_nodes0 rowLen_nodes3 seen_list cells_int oneIn_int cells_bool oneIn_bool cells_list oneIn_list cells_func oneIn_func cells_own cells_ptr cells_agg oneIn_own0 oneIn_own1 seenL1 seenM1 oneIn_ptr2 seenL2 oneIn_own3 seenL3 cells_ints oneIn_ints cells_octs oneIn_octs cells_nodes oneIn_nodes ldB0 ldA0 adB0 stB0 ldB1 ldA1 adB1 stB1 ldB2 ldA2 adB2 stB2 ldB3 stB3 List.getElem?_cons_zero List.getElem?_cons_succ beq_self_eq_true splice List.take_zero List.take_succ_cons List.drop_zero List.drop_succ_cons List.append_nil List.set_cons_zero List.set_cons_succ List.all_cons List.all_nil Bool.and_self and_self and_true true_and Nat.lt_irrefl Nat.zero_lt_one Nat.le_refl fillA evNil notA Bool.false_eq_true evMin_int evMax_int Option.map_none freezeP_all_nil freezeP_all_cons frzE_box frzE_arr foldA List.foldlM_cons List.foldlM_nil callW_f lcallW_f ansW_fn ansW_own lansW_fn ansW_none tab_cons tab_nil dI_int dB_bool dO_octs dO_ints dO_list dO_nil dN_nodeA dLf_agg dIn_agg dN_agg dNs_nodes dNs_nil isI_int isB_bool isO_octs isO_nil isO_list isS_ints isS_nil isNs_nodes isNs_nil isN_nodeA isLf_agg isIn_agg isN_agg leaf_eta inner_eta node_eta leaf_zero inner_zero decide_eq_true_eq decide_eq_false_iff_not eq_self forall_const true_implies false_implies Bool.not_eq_true' Bool.not_eq_false' Bool.true_eq_false implies_true ne_eq ldI ldIA adI AV.tup.injEq AV.agg.injEq List.cons.injEq AV.int.injEq AV.bool.injEq nodes_inj octs_inj ints_inj nil_nodes nil_octs nil_ints canon_nilL decide_eq_decide two_ne four_ne b256_ne lendA_own lendA_none isO_own false_and and_false Q_nil Q_l Q_g Q_h Q_grd qgrdW_b lightD_some heavyD_some readD_some fnD_some callL_f Q_call pendOk_nil pendOk_cons pastOk_nil Q_mv Q_pick Q_bin Q_extract Q_min Q_load Q_slice Q_len H_store free_mv free_pick free_bin free_extract free_min free_load free_slice free_len callW_y List.length_map List.length_set leaves_r evR_some evRess1 evRess2 evRess3 evRes_t evRes_c nz_kind nz_enc nz_cred nz_source nz_parent nz_ienc nz_hash nz_un true_or or_true bsl_node appI appO canon_rowI canon_rowO not_false_eq_true not_true_eq_false ldE_a ldE_c adE_b stE_b onP_b
attribute [local go_sem low] condW_b ldP adP stP onO
attribute [local simp] envL_cons envL_nil idb_int idb_bool idb_ints idb_nil idb_own idb_ptr idb_octs idb_nodes idb_leafA idb_innerA idb_nodeA idb_agg idb_tup idb_iptr idb_fn entB_dead entB_box
noncomputable def r142 : Reg seat := .of told142 (ask2 (fun a0' a1' => isLf a0' ∧ isLf a1' ∧ (dLf a0').Ok ∧ (dLf a1').Ok) fun a0' a1' => .fn (.bool (decide ((dLf a0') = (dLf a1'))))) (ask2_ok fun a0' a1' h => SaidOk.fn (Fun.weak (.cons (isLf.weak h.1) (.cons (isLf.weak h.2.1) .nil)) (leafSame_spec _ _ h.2.2.1 h.2.2.2)))
theorem r142_c : r142.c = 142 := rfl
open Classical in
theorem r142_ask (a0' a1' : AV) : r142.ask [a0', a1'] = if isLf a0' ∧ isLf a1' ∧ (dLf a0').Ok ∧ (dLf a1').Ok then some (Said.fn (.bool (decide ((dLf a0') = (dLf a1'))))) else none := by unfold r142 Reg.of ask2; exact ite_cl
noncomputable def r143 : Reg seat := .of told143 (ask2 (fun a0' a1' => isIn a0' ∧ isIn a1' ∧ (dIn a0').Ok ∧ (dIn a1').Ok) fun a0' a1' => .fn (.bool (decide ((dIn a0') = (dIn a1'))))) (ask2_ok fun a0' a1' h => SaidOk.fn (Fun.weak (.cons (isIn.weak h.1) (.cons (isIn.weak h.2.1) .nil)) (innerSame_spec _ _ h.2.2.1 h.2.2.2)))
theorem r143_c : r143.c = 143 := rfl
open Classical in
theorem r143_ask (a0' a1' : AV) : r143.ask [a0', a1'] = if isIn a0' ∧ isIn a1' ∧ (dIn a0').Ok ∧ (dIn a1').Ok then some (Said.fn (.bool (decide ((dIn a0') = (dIn a1'))))) else none := by unfold r143 Reg.of ask2; exact ite_cl
noncomputable def r146 : Reg seat := .of told146 (ask1 (fun a0' => isLf a0') fun a0' => .fn (.int .i64 (leafCheck (dLf a0')))) (ask1_ok fun a0' h => SaidOk.fn (Fun.weak (.cons (isLf.weak h) .nil) (leafCheck_spec _)))
theorem r146_c : r146.c = 146 := rfl
open Classical in
theorem r146_ask (a0' : AV) : r146.ask [a0'] = if isLf a0' then some (Said.fn (.int .i64 (leafCheck (dLf a0')))) else none := by unfold r146 Reg.of ask1; exact ite_cl
noncomputable def r147 : Reg seat := .of told147 (ask1 (fun a0' => isIn a0') fun a0' => .fn (.int .i64 (innerCheck (dIn a0')))) (ask1_ok fun a0' h => SaidOk.fn (Fun.weak (.cons (isIn.weak h) .nil) (innerCheck_spec _)))
theorem r147_c : r147.c = 147 := rfl
open Classical in
theorem r147_ask (a0' : AV) : r147.ask [a0'] = if isIn a0' then some (Said.fn (.int .i64 (innerCheck (dIn a0')))) else none := by unfold r147 Reg.of ask1; exact ite_cl

theorem nodeCheck_spec (n : Node) (hn : n.Ok) : Fun seat 124 [nodeA n] (.int .i64 (nodeCheck n)) := by
  refine Fun.of0R [r142, r143, r146, r147] told124 (by simp [il124]) (by simp [idb_nodeA]) (by simp ) 0 ?_
  have h1 := hn.leaf
  have h2 := hn.inner
  simp only [il124, List.zipIdx_cons, List.zipIdx_nil, nodeA, Node.cells, h1, h2, Leaf.Ok.zero, Inner.Ok.zero, r142_c, r142_ask, r143_c, r143_ask, r146_c, r146_ask, r147_c, r147_ask, go_sem, Nat.reduceEqDiff, reduceIte, Nat.reduceAdd, Nat.reduceLeDiff, Nat.reduceLT, Nat.reduceSub]
  repeat' (first | refine And.intro ?_ ?_ | intro _)
  all_goals grind [nodeCheck]
noncomputable def r124 : Reg seat := .of told124 (ask1 (fun a0' => isN a0' ∧ (dN a0').Ok) fun a0' => .fn (.int .i64 (nodeCheck (dN a0')))) (ask1_ok fun a0' h => SaidOk.fn (Fun.weak (.cons (isN.weak h.1) .nil) (nodeCheck_spec _ h.2)))
theorem r124_c : r124.c = 124 := rfl
open Classical in
theorem r124_ask (a0' : AV) : r124.ask [a0'] = if isN a0' ∧ (dN a0').Ok then some (Said.fn (.int .i64 (nodeCheck (dN a0')))) else none := by unfold r124 Reg.of ask1; exact ite_cl

theorem ref02Ints_spec (a b : List Int) : Fun seat 35 [ints a, ints b] (.bool (decide (a = b))) := by
  refine Fun.bd fun hbd => ?_
  have hlb : a.length ≤ 9223372036854775807 := encI64.bd_len (t := false) hbd (by simp [ints, encI64])
  refine Fun.of0R [] told35 (by simp [il35]) (by simp [idb_patchA]) (by simp [idb_patchA]) 4 ?_
  simp only [il35, List.zipIdx_cons, List.zipIdx_nil, leafA, innerA, nodeA, patchA, Leaf.cells, Inner.cells, Node.cells, go_sem, Nat.reduceEqDiff, reduceIte, Nat.reduceAdd, Nat.reduceLeDiff, Nat.reduceLT, Nat.reduceSub]
  refine ⟨fun h => ?_, fun h => ?_⟩
  · grind
  have hl : a.length = b.length := by omega
  refine WP.loop0 (fun k => k ≤ a.length ∧ ∀ j (h : j < a.length) (h' : j < b.length), j < k → a[j] = b[j]) (fun k => [(0, ints a), (1, ints b), (5, .int .i64 k)]) (fun k => a.length - k) 0 ⟨Nat.zero_le _, fun j _ _ h => by omega⟩
    (fun k _ => by simp ) (by simp ) ?_
  rintro k ⟨hk, hno⟩
  refine wpc_soundR [] ?_
  simp only [leafA, innerA, nodeA, patchA, Leaf.cells, Inner.cells, Node.cells, go_sem, Nat.reduceEqDiff, reduceIte, Nat.reduceAdd, Nat.reduceLeDiff, Nat.reduceLT, Nat.reduceSub]
  refine ⟨fun hlt => ?_, fun hge => ?_⟩
  · have hk' : k < a.length := by omega
    refine WP.drawR [] mixed (by decide) ?_
    simp only [leafA, innerA, nodeA, patchA, Leaf.cells, Inner.cells, Node.cells, index_ints [] a k hk', index_ints [] b k (by omega), go_sem, Nat.reduceEqDiff, reduceIte, Nat.reduceAdd, Nat.reduceLeDiff, Nat.reduceLT, Nat.reduceSub]
    refine ⟨fun ht => ?_, fun ht => ⟨k + 1, ⟨hk', fun j h h' hj => ?_⟩, by omega, by simp [wrapS (show k < 9223372036854775807 by omega)]⟩⟩
    · grind
    · rcases Nat.lt_or_ge j k with h1 | h1
      · exact hno j h h' h1
      · obtain rfl : j = k := by omega
        exact Classical.not_not.1 ht
  · have : a = b := List.ext_getElem hl fun j h1 h2 => hno j h1 h2 (by omega)
    grind
noncomputable def r35 : Reg seat := .of told35 (ask2 (fun a0' a1' => isS a0' ∧ isS a1') fun a0' a1' => .fn (.bool (decide ((dO a0') = (dO a1'))))) (ask2_ok fun a0' a1' h => SaidOk.fn (Fun.weak (.cons (isS.weak h.1) (.cons (isS.weak h.2) .nil)) (ref02Ints_spec _ _)))
theorem r35_c : r35.c = 35 := rfl
open Classical in
theorem r35_ask (a0' a1' : AV) : r35.ask [a0', a1'] = if isS a0' ∧ isS a1' then some (Said.fn (.bool (decide ((dO a0') = (dO a1'))))) else none := by unfold r35 Reg.of ask2; exact ite_cl

theorem bytes_eq (a b : List Int) (ha : Oct a) (hb : Oct b) : (bytesOf a = bytesOf b) = (a = b) := propext ⟨bytesOf_inj ha hb, fun h => by rw [h]⟩

theorem refLeafSame_spec (a b : Leaf) (ha : a.Ok) (hb : b.Ok) : Fun seat 149 [leafA a, leafA b] (.bool (decide (a = b))) := by
  refine Fun.of0R [] told149 (by simp [il149]) (by simp [idb_patchA]) (by simp [idb_patchA]) 4 ?_
  simp only [il149, List.zipIdx_cons, List.zipIdx_nil, leafA, innerA, nodeA, patchA, Leaf.cells, Inner.cells, Node.cells, bytes_octs, evStr_eql, bytes_eq _ _ ha.enc hb.enc, bytes_eq _ _ ha.cred hb.cred, bytes_eq _ _ ha.parent hb.parent, go_sem, Nat.reduceEqDiff, reduceIte, Nat.reduceAdd, Nat.reduceLeDiff, Nat.reduceLT, Nat.reduceSub]
  rcases a with ⟨a1, a2, a3, a4⟩
  rcases b with ⟨b1, b2, b3, b4⟩
  simp only [Leaf.mk.injEq]
  iterate 12 ((all_goals intros); (all_goals try refine And.intro ?_ ?_))
  all_goals first | (show WP _ _ _ _ _ _ _) | grind
noncomputable def r149 : Reg seat := .of told149 (ask2 (fun a0' a1' => isLf a0' ∧ isLf a1' ∧ (dLf a0').Ok ∧ (dLf a1').Ok) fun a0' a1' => .fn (.bool (decide ((dLf a0') = (dLf a1'))))) (ask2_ok fun a0' a1' h => SaidOk.fn (Fun.weak (.cons (isLf.weak h.1) (.cons (isLf.weak h.2.1) .nil)) (refLeafSame_spec _ _ h.2.2.1 h.2.2.2)))
theorem r149_c : r149.c = 149 := rfl
open Classical in
theorem r149_ask (a0' a1' : AV) : r149.ask [a0', a1'] = if isLf a0' ∧ isLf a1' ∧ (dLf a0').Ok ∧ (dLf a1').Ok then some (Said.fn (.bool (decide ((dLf a0') = (dLf a1'))))) else none := by unfold r149 Reg.of ask2; exact ite_cl

theorem refInnerSame_spec (a b : Inner) (ha : a.Ok) (hb : b.Ok) : Fun seat 150 [innerA a, innerA b] (.bool (decide (a = b))) := by
  refine Fun.of0R [r35] told150 (by simp [il150]) (by simp [idb_patchA]) (by simp [idb_patchA]) 4 ?_
  simp only [il150, List.zipIdx_cons, List.zipIdx_nil, leafA, innerA, nodeA, patchA, Leaf.cells, Inner.cells, Node.cells, r35_c, r35_ask, bytes_octs, evStr_eql, bytes_eq _ _ ha.enc hb.enc, bytes_eq _ _ ha.hash hb.hash, go_sem, Nat.reduceEqDiff, reduceIte, Nat.reduceAdd, Nat.reduceLeDiff, Nat.reduceLT, Nat.reduceSub]
  rcases a with ⟨a1, a2, a3⟩
  rcases b with ⟨b1, b2, b3⟩
  simp only [Inner.mk.injEq]
  iterate 12 ((all_goals intros); (all_goals try refine And.intro ?_ ?_))
  all_goals first | (show WP _ _ _ _ _ _ _) | grind
noncomputable def r150 : Reg seat := .of told150 (ask2 (fun a0' a1' => isIn a0' ∧ isIn a1' ∧ (dIn a0').Ok ∧ (dIn a1').Ok) fun a0' a1' => .fn (.bool (decide ((dIn a0') = (dIn a1'))))) (ask2_ok fun a0' a1' h => SaidOk.fn (Fun.weak (.cons (isIn.weak h.1) (.cons (isIn.weak h.2.1) .nil)) (refInnerSame_spec _ _ h.2.2.1 h.2.2.2)))
theorem r150_c : r150.c = 150 := rfl
open Classical in
theorem r150_ask (a0' a1' : AV) : r150.ask [a0', a1'] = if isIn a0' ∧ isIn a1' ∧ (dIn a0').Ok ∧ (dIn a1').Ok then some (Said.fn (.bool (decide ((dIn a0') = (dIn a1'))))) else none := by unfold r150 Reg.of ask2; exact ite_cl

theorem node_ext (a b : Node) : (a = b) = (a.kind = b.kind ∧ a.leaf = b.leaf ∧ a.inner = b.inner) := by
  cases a; cases b; simp only [Node.mk.injEq]

theorem refNodeSame_spec (a b : Node) (ha : a.Ok) (hb : b.Ok) : Fun seat 130 [nodeA a, nodeA b] (.bool (decide (a = b))) := by
  refine Fun.of0R [r149, r150] told130 (by simp [il130]) (by simp [idb_patchA]) (by simp [idb_patchA]) 4 ?_
  simp only [il130, List.zipIdx_cons, List.zipIdx_nil, leafA, innerA, nodeA, patchA, Leaf.cells, Inner.cells, Node.cells, r149_c, r149_ask, r150_c, r150_ask, ha.leaf, hb.leaf, ha.inner, hb.inner, go_sem, Nat.reduceEqDiff, reduceIte, Nat.reduceAdd, Nat.reduceLeDiff, Nat.reduceLT, Nat.reduceSub]
  simp only [node_ext]
  iterate 12 ((all_goals intros); (all_goals try refine And.intro ?_ ?_))
  all_goals first | (show WP _ _ _ _ _ _ _) | grind
noncomputable def r130 : Reg seat := .of told130 (ask2 (fun a0' a1' => isN a0' ∧ isN a1' ∧ (dN a0').Ok ∧ (dN a1').Ok) fun a0' a1' => .fn (.bool (decide ((dN a0') = (dN a1'))))) (ask2_ok fun a0' a1' h => SaidOk.fn (Fun.weak (.cons (isN.weak h.1) (.cons (isN.weak h.2.1) .nil)) (refNodeSame_spec _ _ h.2.2.1 h.2.2.2)))
theorem r130_c : r130.c = 130 := rfl
open Classical in
theorem r130_ask (a0' a1' : AV) : r130.ask [a0', a1'] = if isN a0' ∧ isN a1' ∧ (dN a0').Ok ∧ (dN a1').Ok then some (Said.fn (.bool (decide ((dN a0') = (dN a1'))))) else none := by unfold r130 Reg.of ask2; exact ite_cl

theorem leafFew_spec (l : Leaf) (hl : l.Ok) : Fun seat 144 [leafA l] (.bool (decide (l.enc.length + l.cred.length + l.parent.length ≤ 1000))) := by
  have h1 := hl.enc.len
  have h2 := hl.cred.len
  have h3 := hl.parent.len
  refine Fun.of0R [] told144 (by simp [il144]) (by simp [idb_patchA]) (by simp [idb_patchA]) 4 ?_
  simp only [il144, List.zipIdx_cons, List.zipIdx_nil, leafA, innerA, nodeA, patchA, Leaf.cells, Inner.cells, Node.cells, wrap64s ((l.enc.length : Int) + l.cred.length) (by omega), wrap64s ((l.enc.length : Int) + l.cred.length + l.parent.length) (by omega), go_sem, Nat.reduceEqDiff, reduceIte, Nat.reduceAdd, Nat.reduceLeDiff, Nat.reduceLT, Nat.reduceSub]
  omega
noncomputable def r144 : Reg seat := .of told144 (ask1 (fun a0' => isLf a0' ∧ (dLf a0').Ok) fun a0' => .fn (.bool (decide ((dLf a0').enc.length + (dLf a0').cred.length + (dLf a0').parent.length ≤ 1000)))) (ask1_ok fun a0' h => SaidOk.fn (Fun.weak (.cons (isLf.weak h.1) .nil) (leafFew_spec _ h.2)))
theorem r144_c : r144.c = 144 := rfl
open Classical in
theorem r144_ask (a0' : AV) : r144.ask [a0'] = if isLf a0' ∧ (dLf a0').Ok then some (Said.fn (.bool (decide ((dLf a0').enc.length + (dLf a0').cred.length + (dLf a0').parent.length ≤ 1000)))) else none := by unfold r144 Reg.of ask1; exact ite_cl

theorem innerFew_spec (l : Inner) (hl : l.Ok) : Fun seat 145 [innerA l] (.bool (decide (l.enc.length + l.hash.length + l.unmerged.length ≤ 600))) := by
  have h1 := hl.enc.len
  have h2 := hl.hash.len
  have h3 := hl.unmerged.len
  refine Fun.of0R [] told145 (by simp [il145]) (by simp [idb_patchA]) (by simp [idb_patchA]) 4 ?_
  simp only [il145, List.zipIdx_cons, List.zipIdx_nil, leafA, innerA, nodeA, patchA, Leaf.cells, Inner.cells, Node.cells, wrap64s ((l.enc.length : Int) + l.hash.length) (by omega), wrap64s ((l.enc.length : Int) + l.hash.length + l.unmerged.length) (by omega), go_sem, Nat.reduceEqDiff, reduceIte, Nat.reduceAdd, Nat.reduceLeDiff, Nat.reduceLT, Nat.reduceSub]
  omega
noncomputable def r145 : Reg seat := .of told145 (ask1 (fun a0' => isIn a0' ∧ (dIn a0').Ok) fun a0' => .fn (.bool (decide ((dIn a0').enc.length + (dIn a0').hash.length + (dIn a0').unmerged.length ≤ 600)))) (ask1_ok fun a0' h => SaidOk.fn (Fun.weak (.cons (isIn.weak h.1) .nil) (innerFew_spec _ h.2)))
theorem r145_c : r145.c = 145 := rfl
open Classical in
theorem r145_ask (a0' : AV) : r145.ask [a0'] = if isIn a0' ∧ (dIn a0').Ok then some (Said.fn (.bool (decide ((dIn a0').enc.length + (dIn a0').hash.length + (dIn a0').unmerged.length ≤ 600)))) else none := by unfold r145 Reg.of ask1; exact ite_cl

def nodeFew (n : Node) : Prop := n.leaf.enc.length + n.leaf.cred.length + n.leaf.parent.length ≤ 1000 ∧ n.inner.enc.length + n.inner.hash.length + n.inner.unmerged.length ≤ 600
instance (n : Node) : Decidable (nodeFew n) := inferInstanceAs (Decidable (_ ∧ _))
theorem nodeFew_spec (n : Node) (hn : n.Ok) : Fun seat 122 [nodeA n] (.bool (decide (nodeFew n))) := by
  refine Fun.of0R [r144, r145] told122 (by simp [il122]) (by simp [idb_patchA]) (by simp [idb_patchA]) 4 ?_
  simp only [il122, List.zipIdx_cons, List.zipIdx_nil, leafA, innerA, nodeA, patchA, Leaf.cells, Inner.cells, Node.cells, r144_c, r144_ask, r145_c, r145_ask, hn.leaf, hn.inner, go_sem, Nat.reduceEqDiff, reduceIte, Nat.reduceAdd, Nat.reduceLeDiff, Nat.reduceLT, Nat.reduceSub]
  iterate 12 ((all_goals intros); (all_goals try refine And.intro ?_ ?_))
  all_goals first | (show WP _ _ _ _ _ _ _) | grind [nodeFew]
noncomputable def r122 : Reg seat := .of told122 (ask1 (fun a0' => isN a0' ∧ (dN a0').Ok) fun a0' => .fn (.bool (decide (nodeFew (dN a0'))))) (ask1_ok fun a0' h => SaidOk.fn (Fun.weak (.cons (isN.weak h.1) .nil) (nodeFew_spec _ h.2)))
theorem r122_c : r122.c = 122 := rfl
open Classical in
theorem r122_ask (a0' : AV) : r122.ask [a0'] = if isN a0' ∧ (dN a0').Ok then some (Said.fn (.bool (decide (nodeFew (dN a0'))))) else none := by unfold r122 Reg.of ask1; exact ite_cl

def vsize (n : Int) : Int := if n < 0 ∨ n > 1073741823 then 0 else if n < 64 then 1 else if n < 16384 then 2 else 4
def vput (n : Int) : List Int := if n < 0 ∨ n > 1073741823 then [] else if n < 64 then [n] else if n < 16384 then [64 + n / 256, n % 256] else [128 + n / 16777216, n / 65536 % 256, n / 256 % 256, n % 256]
def num (l : List Int) : Int := l.foldl (fun n x => n * 256 + x) 0
def vk (x : Int) : Nat := if x < 64 then 1 else if x < 128 then 2 else if x < 192 then 4 else 0
def vget : List Int → Int × List Int × Int
  | [] => (0, [], 1)
  | x :: b => if vk x = 0 then (0, [], 2) else if b.length + 1 < vk x then (0, [], 1) else
    if vsize (num (x % 64 :: b.take (vk x - 1))) ≠ vk x then (0, [], 2) else (num (x % 64 :: b.take (vk x - 1)), b.drop (vk x - 1), 0)

theorem vget_put {n : Int} (h0 : 0 ≤ n) (h : n ≤ 1073741823) (t : List Int) : vget (vput n ++ t) = (n, t, 0) := by
  unfold vput
  rw [if_neg (by omega)]
  by_cases h1 : n < 64
  · rw [if_pos h1]
    have e : n % 64 = n := by omega
    simp [vget, vk, h1, num, e, vsize, show ¬ (n < 0 ∨ 1073741823 < n) by omega]
  · rw [if_neg h1]
    by_cases h2 : n < 16384
    · rw [if_pos h2]
      have k : vk (64 + n / 256) = 2 := by unfold vk; rw [if_neg (by omega), if_pos (by omega)]
      have e : (64 + n / 256) % 64 * 256 + n % 256 = n := by omega
      have s : vsize n = 2 := by unfold vsize; rw [if_neg (by omega), if_neg h1, if_pos h2]
      have u : num ((64 + n / 256) % 64 :: [n % 256]) = n := by rw [← e]; simp only [num, List.foldl_cons, List.foldl_nil]; omega
      simp only [vget, List.cons_append, List.nil_append, k]
      rw [if_neg (by decide), if_neg (by simp only [List.length_cons]; omega)]
      simp only [Nat.reduceSub, List.take_succ_cons, List.take_zero, List.drop_succ_cons, List.drop_zero, u, s]
      rfl
    · rw [if_neg h2]
      have k : vk (128 + n / 16777216) = 4 := by unfold vk; rw [if_neg (by omega), if_neg (by omega), if_pos (by omega)]
      have e : (((128 + n / 16777216) % 64 * 256 + n / 65536 % 256) * 256 + n / 256 % 256) * 256 + n % 256 = n := by omega
      have s : vsize n = 4 := by unfold vsize; rw [if_neg (by omega), if_neg h1, if_neg h2]
      have u : num ((128 + n / 16777216) % 64 :: [n / 65536 % 256, n / 256 % 256, n % 256]) = n := by simp only [num, List.foldl_cons, List.foldl_nil]; omega
      simp only [vget, List.cons_append, List.nil_append, k]
      rw [if_neg (by decide), if_neg (by simp only [List.length_cons]; omega)]
      simp only [Nat.reduceSub, List.take_succ_cons, List.take_zero, List.drop_succ_cons, List.drop_zero, u, s]
      rfl
theorem vput_len {n : Int} (h0 : 0 ≤ n) (h : n ≤ 1073741823) : (vput n).length = (vsize n).toNat := by
  have hc : ¬ (n < 0 ∨ n > 1073741823) := by omega
  simp only [vput, vsize, hc, if_false]
  split
  · rfl
  · split <;> rfl
def Bytes (b : List Int) : Prop := ∀ x ∈ b, 0 ≤ x ∧ x ≤ 255
theorem Bytes.app {a b : List Int} : Bytes (a ++ b) ↔ Bytes a ∧ Bytes b := by
  simp only [Bytes, List.mem_append]
  exact ⟨fun h => ⟨fun x hx => h x (.inl hx), fun x hx => h x (.inr hx)⟩, fun h x hx => hx.elim (h.1 x) (h.2 x)⟩
theorem vget_only {b : List Int} (hb : Bytes b) {n : Int} {r : List Int} (h : vget b = (n, r, 0)) : 0 ≤ n ∧ n ≤ 1073741823 ∧ vput n ++ r = b := by
  cases b with
  | nil => simp [vget] at h
  | cons x b =>
    have hx := hb x (by simp)
    have hb' : Bytes b := fun y hy => hb y (by simp [hy])
    by_cases h1 : x < 64
    · have k : vk x = 1 := by unfold vk; rw [if_pos h1]
      simp only [vget, k] at h
      simp [num, show x % 64 = x by omega, vsize, h1, show ¬ (x < 0 ∨ 1073741823 < x) by omega] at h
      obtain ⟨rfl, rfl⟩ := h
      exact ⟨hx.1, by omega, by unfold vput; rw [if_neg (by omega), if_pos h1]; rfl⟩
    · by_cases h2 : x < 128
      · have k : vk x = 2 := by unfold vk; rw [if_neg h1, if_pos h2]
        match b, hb', h with
        | [], _, h => simp [vget, k] at h
        | y :: r', hb', h =>
          have hy := hb' y (by simp)
          simp only [vget, k, Nat.reduceSub, List.take_succ_cons, List.take_zero, List.drop_succ_cons, List.drop_zero, num, List.foldl_cons, List.foldl_nil] at h
          rw [if_neg (by decide), if_neg (by simp)] at h
          by_cases hs : vsize ((0 * 256 + x % 64) * 256 + y) ≠ ((2 : Nat) : Int)
          · rw [if_pos hs] at h; simp at h
          · rw [if_neg hs] at h
            have hs := Classical.not_not.1 hs
            simp only [Prod.mk.injEq, and_true] at h
            obtain ⟨rfl, rfl⟩ := h
            have h3 : ¬ ((0 * 256 + x % 64) * 256 + y < 64) := fun h4 => by
              unfold vsize at hs; rw [if_neg (by omega), if_pos h4] at hs; omega
            refine ⟨by omega, by omega, ?_⟩
            unfold vput
            rw [if_neg (by omega), if_neg h3, if_pos (by omega)]
            simp only [List.cons_append, List.nil_append, List.cons.injEq, and_true]
            omega
      · by_cases h3 : x < 192
        · have k : vk x = 4 := by unfold vk; rw [if_neg h1, if_neg h2, if_pos h3]
          match b, hb', h with
          | [], _, h => simp [vget, k] at h
          | [_], _, h => simp [vget, k] at h
          | [_, _], _, h => simp [vget, k] at h
          | y :: z :: w :: r', hb', h =>
            have hy := hb' y (by simp)
            have hz := hb' z (by simp)
            have hw := hb' w (by simp)
            simp only [vget, k, Nat.reduceSub, List.take_succ_cons, List.take_zero, List.drop_succ_cons, List.drop_zero, num, List.foldl_cons, List.foldl_nil] at h
            rw [if_neg (by decide), if_neg (by simp only [List.length_cons]; omega)] at h
            by_cases hs : vsize ((((0 * 256 + x % 64) * 256 + y) * 256 + z) * 256 + w) ≠ ((4 : Nat) : Int)
            · rw [if_pos hs] at h; simp at h
            · rw [if_neg hs] at h
              have hs := Classical.not_not.1 hs
              simp only [Prod.mk.injEq, and_true] at h
              obtain ⟨rfl, rfl⟩ := h
              have h4 : ¬ ((((0 * 256 + x % 64) * 256 + y) * 256 + z) * 256 + w < 64) := fun h4 => by
                unfold vsize at hs; rw [if_neg (by omega), if_pos h4] at hs; omega
              have h5 : ¬ ((((0 * 256 + x % 64) * 256 + y) * 256 + z) * 256 + w < 16384) := fun h5 => by
                unfold vsize at hs; rw [if_neg (by omega), if_neg h4, if_pos h5] at hs; omega
              refine ⟨by omega, by omega, ?_⟩
              unfold vput
              rw [if_neg (by omega), if_neg h4, if_neg h5]
              simp only [List.cons_append, List.nil_append, List.cons.injEq, and_true]
              omega
        · have k : vk x = 0 := by unfold vk; rw [if_neg h1, if_neg h2, if_neg h3]
          simp [vget, k] at h
theorem vget_nat {b : List Int} (hb : Bytes b) : 0 ≤ (vget b).1 := by
  obtain ⟨n, r, e⟩ : ∃ x, x = vget b := ⟨_, rfl⟩
  rcases hv : vget b with ⟨n, r, e⟩
  by_cases h : e = 0
  · subst h; exact (vget_only hb hv).1
  · cases b with
    | nil => simp [vget] at hv; omega
    | cons x b =>
      simp only [vget] at hv
      split at hv
      · simp at hv; simp only; omega
      · split at hv
        · simp at hv; simp only; omega
        · split at hv
          · simp at hv; simp only; omega
          · simp at hv; omega

/-! Octets, and how many they are ahead of them -/
def pbytes (b v : List Int) : List Int := if (v.length : Int) > 1048576 then b else b ++ vput v.length ++ v
def gbytes (b : List Int) : List Int × List Int × Int :=
  if (vget b).2.2 ≠ 0 then ([], [], (vget b).2.2) else if (vget b).1 > 1048576 then ([], [], 4) else if (vget b).1 > ((vget b).2.1.length : Int) then ([], [], 1) else ((vget b).2.1.take (vget b).1.toNat, (vget b).2.1.drop (vget b).1.toNat, 0)
theorem gbytes_only {b v r : List Int} (hb : Bytes b) (h : gbytes b = (v, r, 0)) : v.length ≤ 1048576 ∧ vput v.length ++ v ++ r = b := by
  unfold gbytes at h
  rcases hv : vget b with ⟨n, s, e⟩
  rw [hv] at h
  simp only at h
  by_cases he : e = 0
  · subst he
    obtain ⟨h0, h1, h2⟩ := vget_only hb hv
    rw [if_neg (by simp)] at h
    by_cases hn : n > 1048576
    · rw [if_pos hn] at h; simp at h
    · rw [if_neg hn] at h
      by_cases hs : n > (s.length : Int)
      · rw [if_pos hs] at h; simp at h
      · rw [if_neg hs] at h
        simp at h
        obtain ⟨rfl, rfl⟩ := h
        have hl : ((s.take n.toNat).length : Int) = n := by rw [List.length_take]; omega
        refine ⟨by omega, ?_⟩
        rw [hl, List.append_assoc, List.take_append_drop]; exact h2
  · rw [if_pos he] at h
    simp at h; exact absurd h.2.2 he
theorem gbytes_rest {b v r : List Int} (hb : Bytes b) (h : gbytes b = (v, r, 0)) : Bytes v ∧ Bytes r := by
  have e := (gbytes_only hb h).2
  rw [← e, Bytes.app, Bytes.app] at hb
  exact ⟨hb.1.2, hb.2⟩
theorem pbytes_eq {b v : List Int} (h : v.length ≤ 1048576) : pbytes b v = b ++ (vput v.length ++ v) := by
  unfold pbytes; rw [if_neg (by omega), List.append_assoc]

/-! Numbers of four octets -/
def be4 (n : Int) : List Int := [n / 16777216 % 256, n / 65536 % 256, n / 256 % 256, n % 256]
def num4 : List Int → List Int
  | a :: b :: c :: d :: r => num [a, b, c, d] :: num4 r
  | _ => []
def pnums (b l : List Int) : List Int := pbytes b (l.flatMap be4)
def gnums (b : List Int) : List Int × List Int × Int :=
  if (gbytes b).2.2 ≠ 0 then ([], [], (gbytes b).2.2) else if (gbytes b).1.length % 4 ≠ 0 then ([], [], 2) else (num4 (gbytes b).1, (gbytes b).2.1, 0)
theorem be4_len (l : List Int) : (l.flatMap be4).length = 4 * l.length := by
  induction l with
  | nil => rfl
  | cons x l ih => rw [List.flatMap_cons, List.length_append, ih]; simp [be4]; omega
theorem be4_num4 : ∀ {v : List Int}, Bytes v → v.length % 4 = 0 → (num4 v).flatMap be4 = v
  | [], _, _ => rfl
  | [_], _, h => by simp at h
  | [_, _], _, h => by simp at h
  | [_, _, _], _, h => by simp at h
  | a :: b :: c :: d :: r, hb, h => by
    have ha := hb a (by simp)
    have h1 := hb b (by simp)
    have hc := hb c (by simp)
    have hd := hb d (by simp)
    have ih := be4_num4 (v := r) (fun y hy => hb y (by simp [hy])) (by simp at h; omega)
    simp only [num4, List.flatMap_cons, ih]
    simp [be4, num]; omega
theorem gnums_only {b l r : List Int} (hb : Bytes b) (h : gnums b = (l, r, 0)) : vput (l.flatMap be4).length ++ l.flatMap be4 ++ r = b := by
  unfold gnums at h
  rcases hv : gbytes b with ⟨v, s, e⟩
  rw [hv] at h
  simp only at h
  by_cases he : e = 0
  · subst he
    rw [if_neg (by simp)] at h
    by_cases hm : v.length % 4 = 0
    · rw [if_neg (by omega)] at h
      simp at h
      obtain ⟨rfl, rfl⟩ := h
      rw [be4_num4 (gbytes_rest hb hv).1 hm]
      exact (gbytes_only hb hv).2
    · rw [if_pos hm] at h; simp at h
  · rw [if_pos he] at h
    simp at h; exact absurd h.2.2 he

def iput (b : List Int) (n : Inner) : List Int := if innerCheck n ≠ 0 then b else pnums (pbytes (pbytes b n.enc) n.hash) n.unmerged
def iget (b : List Int) : Inner × List Int × Int :=
  if (gbytes b).2.2 ≠ 0 then (.zero, [], (gbytes b).2.2) else if (gbytes (gbytes b).2.1).2.2 ≠ 0 then (.zero, [], (gbytes (gbytes b).2.1).2.2) else
  if (gnums (gbytes (gbytes b).2.1).2.1).2.2 ≠ 0 then (.zero, [], (gnums (gbytes (gbytes b).2.1).2.1).2.2) else
  if innerCheck ⟨(gbytes b).1, (gbytes (gbytes b).2.1).1, (gnums (gbytes (gbytes b).2.1).2.1).1⟩ ≠ 0 then (.zero, [], innerCheck ⟨(gbytes b).1, (gbytes (gbytes b).2.1).1, (gnums (gbytes (gbytes b).2.1).2.1).1⟩) else
  (⟨(gbytes b).1, (gbytes (gbytes b).2.1).1, (gnums (gbytes (gbytes b).2.1).2.1).1⟩, (gnums (gbytes (gbytes b).2.1).2.1).2.1, 0)
theorem iget_eq {b x r y s l t : List Int} {e f g : Int} (h1 : gbytes b = (x, r, e)) (h2 : gbytes r = (y, s, f)) (h3 : gnums s = (l, t, g)) : iget b = if e ≠ 0 then (.zero, [], e) else if f ≠ 0 then (.zero, [], f) else if g ≠ 0 then (.zero, [], g) else if innerCheck ⟨x, y, l⟩ ≠ 0 then (.zero, [], innerCheck ⟨x, y, l⟩) else (⟨x, y, l⟩, t, 0) := by
  unfold iget
  simp only [h1, h2, h3]
theorem innerCheck_zero {n : Inner} (h : innerCheck n = 0) : n.enc.length ≤ 200 ∧ n.hash.length ≤ 200 ∧ n.unmerged.length ≤ 64 ∧ (∀ x ∈ n.unmerged, 0 ≤ x ∧ x ≤ 63) ∧ n.enc ≠ [] := by
  unfold innerCheck at h
  by_cases h1 : n.enc.length = 0
  · rw [if_pos h1] at h; cases h
  rw [if_neg h1] at h
  by_cases h2 : n.enc.length > 200 ∨ n.hash.length > 200 ∨ n.unmerged.length > 64
  · rw [if_pos h2] at h; cases h
  rw [if_neg h2] at h
  by_cases h3 : ∃ i ∈ n.unmerged, i < 0 ∨ i > 63
  · rw [if_pos h3] at h; cases h
  refine ⟨by omega, by omega, by omega, fun x hx => ?_, fun e => h1 (by rw [e]; rfl)⟩
  refine ⟨?_, ?_⟩
  · by_cases hx0 : x < 0
    · exact absurd ⟨x, hx, .inl hx0⟩ h3
    · omega
  · by_cases hx0 : x > 63
    · exact absurd ⟨x, hx, .inr hx0⟩ h3
    · omega
def f1 (v : List Int) : List Int := vput v.length ++ v
theorem iput_eq {n : Inner} (h : innerCheck n = 0) (b : List Int) : iput b n = b ++ (f1 n.enc ++ (f1 n.hash ++ f1 (n.unmerged.flatMap be4))) := by
  obtain ⟨h1, h2, h3, h4, h5⟩ := innerCheck_zero h
  have hl := be4_len n.unmerged
  unfold iput
  rw [if_neg (not_not_intro h), pnums, pbytes_eq (by omega), pbytes_eq (by omega), pbytes_eq (by omega)]
  simp only [f1, List.append_assoc]
theorem iget_only {b r : List Int} {n : Inner} (hb : Bytes b) (h : iget b = (n, r, 0)) : innerCheck n = 0 ∧ iput [] n ++ r = b := by
  rcases h1 : gbytes b with ⟨x, s, e⟩
  rcases h2 : gbytes s with ⟨y, t, f⟩
  rcases h3 : gnums t with ⟨l, u, g⟩
  rw [iget_eq h1 h2 h3] at h
  by_cases he : e = 0
  · by_cases hf : f = 0
    · by_cases hg : g = 0
      · subst he; subst hf; subst hg
        simp only [ne_eq, not_true_eq_false, if_false] at h
        by_cases hc : innerCheck ⟨x, y, l⟩ = 0
        · rw [if_neg (not_not_intro hc)] at h
          simp at h
          obtain ⟨rfl, rfl⟩ := h
          refine ⟨hc, ?_⟩
          have b1 := gbytes_rest hb h1
          have b2 := gbytes_rest b1.2 h2
          have o1 := (gbytes_only hb h1).2
          have o2 := (gbytes_only b1.2 h2).2
          have o3 := gnums_only b2.2 h3
          rw [iput_eq hc]
          simp only [f1, List.nil_append, List.append_assoc] at *
          rw [o3, o2, o1]
        · rw [if_pos hc] at h
          simp at h; exact absurd h.2.2 hc
      · subst he; subst hf
        simp only [ne_eq, not_true_eq_false, if_false, hg, not_false_eq_true, if_true] at h
        simp at h; exact absurd h.2.2 hg
    · subst he
      simp only [ne_eq, not_true_eq_false, if_false, hf, not_false_eq_true, if_true] at h
      simp at h; exact absurd h.2.2 hf
  · rw [if_pos he] at h
    simp at h; exact absurd h.2.2 he

theorem or_octet (n x : Int) (h0 : 0 ≤ n) (h1 : n ≤ 16777216) (h2 : 0 ≤ x) (h3 : x ≤ 255) : bits .or .i64 (n * 256) x = n * 256 + x := by
  obtain ⟨a, rfl⟩ := Int.eq_ofNat_of_zero_le h0
  obtain ⟨b, rfl⟩ := Int.eq_ofNat_of_zero_le h2
  have e : ((a : Int) * 256) = ((a * 256 : Nat) : Int) := by omega
  rw [e]
  have ho : a * 256 ||| b = a * 256 + b := by
    rw [show a * 256 = a <<< 8 by rw [Nat.shiftLeft_eq], Nat.shiftLeft_add_eq_or_of_lt (by omega)]
  show IntKind.i64.wrap ((BitVec.ofInt 64 ((a * 256 : Nat) : Int) ||| BitVec.ofInt 64 (b : Int)).toNat : Int) = _
  rw [BitVec.toNat_or, BitVec.ofInt_natCast, BitVec.ofInt_natCast, BitVec.toNat_ofNat, BitVec.toNat_ofNat, Nat.mod_eq_of_lt (by omega), Nat.mod_eq_of_lt (by omega), ho]
  rw [wrap64 _ (by omega) (by omega)]
  omega

def clampK (k : Int) : Int := if k < 1 then 1 else if k > 4 then 4 else k
theorem clampK_bd (k : Int) : 1 ≤ clampK k ∧ clampK k ≤ 4 := by
  unfold clampK
  split
  · omega
  · split <;> omega
def beK (k : Nat) (n : Int) : List Int := (List.range k).map fun i => n / 256 ^ (k - 1 - i) % 256
theorem beK_len (k : Nat) (n : Int) : (beK k n).length = k := by simp [beK]
theorem beK_take {k i : Nat} (n : Int) (h : i < k) : (beK k n).take (i + 1) = (beK k n).take i ++ [n / 256 ^ (k - 1 - i) % 256] := by
  rw [List.take_succ_eq_append_getElem (by rw [beK_len]; exact h)]
  simp [beK]
theorem beK_all (k : Nat) (n : Int) : (beK k n).take k = beK k n := List.take_of_length_le (by rw [beK_len]; exact Nat.le_refl k)
theorem beK_4 (n : Int) : beK 4 n = be4 n := by
  simp [beK, be4, List.range_succ]
theorem shr_octet (n : Int) {e : Nat} (he : e ≤ 3) : IntKind.u8.wrap (n.fdiv (2 ^ (min (8 * e) IntKind.i64.bits))) = n / 256 ^ e % 256 := by
  rw [wrapU8]
  match e, he with
  | 0, _ => rw [Int.fdiv_eq_ediv_of_nonneg _ (by decide)]; rfl
  | 1, _ => rw [Int.fdiv_eq_ediv_of_nonneg _ (by decide)]; rfl
  | 2, _ => rw [Int.fdiv_eq_ediv_of_nonneg _ (by decide)]; rfl
  | 3, _ => rw [Int.fdiv_eq_ediv_of_nonneg _ (by decide)]; rfl
theorem num_snoc (l : List Int) (x : Int) : num (l ++ [x]) = num l * 256 + x := by simp [num]
theorem num_take {l : List Int} {i : Nat} (h : i < l.length) : num (l.take (i + 1)) = num (l.take i) * 256 + l[i] := by
  rw [List.take_succ_eq_append_getElem h, num_snoc]
theorem num_bd3 {l : List Int} (h : Bytes l) (hl : l.length ≤ 3) : 0 ≤ num l ∧ num l < 16777216 := by
  match l, h, hl with
  | [], _, _ => simp [num]
  | [a], h, _ => have := h a (by simp); simp [num]; omega
  | [a, b], h, _ => have := h a (by simp); have := h b (by simp); simp [num]; omega
  | [a, b, c], h, _ => have := h a (by simp); have := h b (by simp); have := h c (by simp); simp [num]; omega
theorem num_bd4 {l : List Int} (h : Bytes l) (hl : l.length ≤ 4) : 0 ≤ num l ∧ num l < 4294967296 := by
  match l, h, hl with
  | [], _, _ => simp [num]
  | [a], h, _ => have := h a (by simp); simp [num]; omega
  | [a, b], h, _ => have := h a (by simp); have := h b (by simp); simp [num]; omega
  | [a, b, c], h, _ => have := h a (by simp); have := h b (by simp); have := h c (by simp); simp [num]; omega
  | [a, b, c, d], h, _ => have := h a (by simp); have := h b (by simp); have := h c (by simp); have := h d (by simp); simp [num]; omega
theorem flat_take {l : List Int} {k : Nat} (h : k < l.length) : (l.take (k + 1)).flatMap be4 = (l.take k).flatMap be4 ++ be4 l[k] := by
  rw [List.take_succ_eq_append_getElem h, List.flatMap_append]; simp
theorem num4_app : ∀ {a b : List Int}, a.length % 4 = 0 → num4 (a ++ b) = num4 a ++ num4 b
  | [], b, _ => rfl
  | [_], _, h => by simp at h
  | [_, _], _, h => by simp at h
  | [_, _, _], _, h => by simp at h
  | x :: y :: z :: w :: r, b, h => by
    have ih := num4_app (a := r) (b := b) (by simp at h; omega)
    simp only [List.cons_append, num4, ih]
theorem num4_four {l : List Int} (h : l.length = 4) : num4 l = [num l] := by
  match l, h with
  | [_, _, _, _], _ => rfl
theorem num4_step {v : List Int} {k : Nat} (h : 4 * (k + 1) ≤ v.length) : num4 (v.take (4 * (k + 1))) = num4 (v.take (4 * k)) ++ [num ((v.drop (4 * k)).take 4)] := by
  have e : v.take (4 * (k + 1)) = v.take (4 * k) ++ (v.drop (4 * k)).take 4 := by
    rw [show 4 * (k + 1) = 4 * k + 4 by omega, List.take_add]
  rw [e, num4_app (by rw [List.length_take]; omega), num4_four (l := (v.drop (4 * k)).take 4) (by rw [List.length_take, List.length_drop]; omega)]
theorem num4_len : ∀ v : List Int, v.length % 4 = 0 → (num4 v).length = v.length / 4
  | [], _ => rfl
  | [_], h => by simp at h
  | [_, _], h => by simp at h
  | [_, _, _], h => by simp at h
  | x :: y :: z :: w :: r, h => by
    have ih := num4_len r (by simp at h; omega)
    simp only [num4, List.length_cons, ih]; omega
theorem bytes_of {b : List Int} (h : Oct b) : Bytes b := fun x hx => by
  have := h.2 x hx
  have e1 : IntKind.u8.min = 0 := rfl
  have e2 : IntKind.u8.max = 255 := rfl
  omega
theorem vget_rest {b : List Int} : (vget b).2.1.length ≤ b.length ∧ ∀ x ∈ (vget b).2.1, x ∈ b := by
  cases b with
  | nil => simp [vget]
  | cons x b =>
    simp only [vget]
    split
    · simp
    · split
      · simp
      · split
        · simp
        · refine ⟨by simp; omega, fun y hy => List.mem_cons_of_mem _ (List.mem_of_mem_drop hy)⟩
theorem gbytes_sub (b : List Int) : ((gbytes b).1.length ≤ b.length ∧ ∀ x ∈ (gbytes b).1, x ∈ b) ∧ ((gbytes b).2.1.length ≤ b.length ∧ ∀ x ∈ (gbytes b).2.1, x ∈ b) := by
  have h := vget_rest (b := b)
  unfold gbytes
  split
  · simp
  · split
    · simp
    · split
      · simp
      · refine ⟨⟨by simp; omega, fun x hx => h.2 x (List.mem_of_mem_take hx)⟩, ⟨by simp; omega, fun x hx => h.2 x (List.mem_of_mem_drop hx)⟩⟩
theorem gbytes_oct {b : List Int} (h : Oct b) : Oct (gbytes b).1 ∧ Oct (gbytes b).2.1 := by
  have hs := gbytes_sub b
  have hl := h.1
  simp only [Small] at hl
  exact ⟨⟨by simp only [Small]; omega, fun x hx => h.2 x (hs.1.2 x hx)⟩, ⟨by simp only [Small]; omega, fun x hx => h.2 x (hs.2.2 x hx)⟩⟩

def il181 : IFn := ⟨48, [.cell 2 true 3, .t 3, .t 4], .seq (.region [⟨some 2, .alloc [.list true [], .list true [], .list true []], none, []⟩, ⟨some 3, .mv (.c (.list true [])), none, []⟩, ⟨some 4, .mv (.c (.int .i64 0)), none, [1]⟩] false) (.seq (.region [⟨some 5, .alloc [.list true [], .list true [], .list true []], none, []⟩] false) (.seq (.region [⟨some 6, .mv (.c (.int .i64 0)), none, []⟩] false) (.seq (.seq (.region [⟨some 8, .mv (.t 0), none, []⟩, ⟨some 9, .call (.f 192) [.t 8], none, [0]⟩, ⟨some 7, .mv (.t 9), none, [1]⟩, ⟨some 10, .extract (.t 7) 0, none, [2]⟩, ⟨some 11, .extract (.t 7) 1, none, [2]⟩, ⟨some 12, .extract (.t 7) 2, none, [2]⟩, ⟨some 13, .faddr 0 (.t 5), none, [0, 1, 2, 3]⟩, ⟨none, .store 1 (.t 13) (.t 10), none, [6, 3, 1, 0, 1, 2, 3]⟩, ⟨some 0, .mv (.t 11), none, [4, 7, 0, 1, 2, 3, 4, 6, 7]⟩, ⟨some 6, .mv (.t 12), none, [5, 8, 0, 1, 2, 3, 4, 5, 6, 7, 8]⟩] false) (.seq (.region [⟨some 14, .mv (.t 6), none, []⟩, ⟨some 15, .bin false .neq (.t 14) (.c (.int .i64 0)), none, [0]⟩] false) (.cond (.t 15) (.seq (.region [⟨some 16, .build [.list true [], .list true [], .list true []] [], none, []⟩, ⟨some 17, .mv (.t 6), none, []⟩, ⟨none, .store 3 (.t 2) (.t 16), none, [0, 0]⟩, ⟨some 3, .mv (.c (.list true [])), none, [2, 0, 2]⟩, ⟨some 4, .mv (.t 17), none, [1, 3, 0, 1, 2, 3]⟩] false) .ret) .skip))) (.seq (.seq (.region [⟨some 19, .mv (.t 0), none, []⟩, ⟨some 20, .call (.f 192) [.t 19], none, [0]⟩, ⟨some 18, .mv (.t 20), none, [1]⟩, ⟨some 21, .extract (.t 18) 0, none, [2]⟩, ⟨some 22, .extract (.t 18) 1, none, [2]⟩, ⟨some 23, .extract (.t 18) 2, none, [2]⟩, ⟨some 24, .faddr 1 (.t 5), none, [0, 1, 2, 3]⟩, ⟨none, .store 1 (.t 24) (.t 21), none, [6, 3, 1, 0, 1, 2, 3]⟩, ⟨some 0, .mv (.t 22), none, [4, 7, 0, 1, 2, 3, 4, 6, 7]⟩, ⟨some 6, .mv (.t 23), none, [5, 8, 0, 1, 2, 3, 4, 5, 6, 7, 8]⟩] false) (.seq (.region [⟨some 25, .mv (.t 6), none, []⟩, ⟨some 26, .bin false .neq (.t 25) (.c (.int .i64 0)), none, [0]⟩] false) (.cond (.t 26) (.seq (.region [⟨some 27, .build [.list true [], .list true [], .list true []] [], none, []⟩, ⟨some 28, .mv (.t 6), none, []⟩, ⟨none, .store 3 (.t 2) (.t 27), none, [0, 0]⟩, ⟨some 3, .mv (.c (.list true [])), none, [2, 0, 2]⟩, ⟨some 4, .mv (.t 28), none, [1, 3, 0, 1, 2, 3]⟩] false) .ret) .skip))) (.seq (.seq (.region [⟨some 30, .mv (.t 0), none, []⟩, ⟨some 31, .call (.f 193) [.t 30], none, [0]⟩, ⟨some 29, .mv (.t 31), none, [1]⟩, ⟨some 32, .extract (.t 29) 0, none, [2]⟩, ⟨some 33, .extract (.t 29) 1, none, [2]⟩, ⟨some 34, .extract (.t 29) 2, none, [2]⟩, ⟨some 35, .faddr 2 (.t 5), none, [0, 1, 2, 3]⟩, ⟨none, .store 1 (.t 35) (.t 32), none, [6, 3, 1, 0, 1, 2, 3]⟩, ⟨some 0, .mv (.t 33), none, [4, 7, 0, 1, 2, 3, 4, 6, 7]⟩, ⟨some 6, .mv (.t 34), none, [5, 8, 0, 1, 2, 3, 4, 5, 6, 7, 8]⟩] false) (.seq (.region [⟨some 36, .mv (.t 6), none, []⟩, ⟨some 37, .bin false .neq (.t 36) (.c (.int .i64 0)), none, [0]⟩] false) (.cond (.t 37) (.seq (.region [⟨some 38, .build [.list true [], .list true [], .list true []] [], none, []⟩, ⟨some 39, .mv (.t 6), none, []⟩, ⟨none, .store 3 (.t 2) (.t 38), none, [0, 0]⟩, ⟨some 3, .mv (.c (.list true [])), none, [2, 0, 2]⟩, ⟨some 4, .mv (.t 39), none, [1, 3, 0, 1, 2, 3]⟩] false) .ret) .skip))) (.seq (.seq (.region [⟨some 40, .load true 3 (.t 5), none, []⟩, ⟨some 41, .call (.f 147) [.t 40], none, [0]⟩, ⟨some 6, .mv (.t 41), none, [1, 1, 0, 1]⟩] false) (.seq (.region [⟨some 42, .mv (.t 6), none, []⟩, ⟨some 43, .bin false .neq (.t 42) (.c (.int .i64 0)), none, [0]⟩] false) (.cond (.t 43) (.seq (.region [⟨some 44, .build [.list true [], .list true [], .list true []] [], none, []⟩, ⟨some 45, .mv (.t 6), none, []⟩, ⟨none, .store 3 (.t 2) (.t 44), none, [0, 0]⟩, ⟨some 3, .mv (.c (.list true [])), none, [2, 0, 2]⟩, ⟨some 4, .mv (.t 45), none, [1, 3, 0, 1, 2, 3]⟩] false) .ret) .skip))) (.seq (.region [⟨some 46, .load true 3 (.t 5), none, []⟩, ⟨some 47, .mv (.t 0), none, []⟩, ⟨none, .store 3 (.t 2) (.t 46), none, [0, 0]⟩, ⟨some 3, .mv (.t 47), none, [1, 2, 0, 1, 2]⟩, ⟨some 4, .mv (.c (.int .i64 0)), none, [3, 0, 1, 2, 3]⟩] false) .ret)))))))⟩
theorem told181 : trFn seat 181 = some il181 := by kernel_rfl

def il182 : IFn := ⟨59, [.cell 2 true 3, .t 3, .t 4], .seq (.region [⟨some 2, .alloc [.list true [], .list true [], .list true []], none, []⟩, ⟨some 3, .mv (.c (.list true [])), none, []⟩, ⟨some 4, .mv (.c (.int .i64 0)), none, [1]⟩] false) (.seq (.region [⟨some 16, .build [.list true [], .list true [], .list true []] [], none, []⟩, ⟨some 5, .alloc [.list true [], .list true [], .list true []], none, []⟩, ⟨none, .store 3 (.t 5) (.t 16), none, [1, 0, 0, 1]⟩] false) (.seq (.region [⟨some 18, .mv (.t 0), none, []⟩, ⟨some 19, .call (.f 194) [.t 18], none, [0]⟩, ⟨some 17, .mv (.t 19), none, [1]⟩, ⟨some 20, .extract (.t 17) 0, none, [2]⟩, ⟨some 21, .extract (.t 17) 1, none, [2]⟩, ⟨some 22, .extract (.t 17) 2, none, [2]⟩, ⟨some 6, .mv (.t 20), none, [3, 1, 0, 1, 2, 3]⟩, ⟨some 7, .mv (.t 21), none, [4, 6, 0, 1, 2, 3, 4, 6]⟩, ⟨some 8, .mv (.t 22), none, [5, 7, 0, 1, 2, 3, 4, 5, 6, 7]⟩] false) (.seq (.seq (.region [⟨some 23, .mv (.t 8), none, []⟩, ⟨some 24, .bin false .neq (.t 23) (.c (.int .i64 0)), none, [0]⟩] false) (.cond (.t 24) (.seq (.region [⟨some 25, .load true 3 (.t 5), none, []⟩, ⟨some 26, .mv (.t 8), none, []⟩, ⟨none, .store 3 (.t 2) (.t 25), none, [0, 0]⟩, ⟨some 3, .mv (.c (.list true [])), none, [2, 0, 2]⟩, ⟨some 4, .mv (.t 26), none, [1, 3, 0, 1, 2, 3]⟩] false) .ret) .skip)) (.seq (.region [⟨some 28, .mv (.t 7), none, []⟩, ⟨some 29, .call (.f 194) [.t 28], none, [0]⟩, ⟨some 27, .mv (.t 29), none, [1]⟩, ⟨some 30, .extract (.t 27) 0, none, [2]⟩, ⟨some 31, .extract (.t 27) 1, none, [2]⟩, ⟨some 32, .extract (.t 27) 2, none, [2]⟩, ⟨some 9, .mv (.t 30), none, [3, 1, 0, 1, 2, 3]⟩, ⟨some 10, .mv (.t 31), none, [4, 6, 0, 1, 2, 3, 4, 6]⟩, ⟨some 11, .mv (.t 32), none, [5, 7, 0, 1, 2, 3, 4, 5, 6, 7]⟩] false) (.seq (.seq (.region [⟨some 33, .mv (.t 11), none, []⟩, ⟨some 34, .bin false .neq (.t 33) (.c (.int .i64 0)), none, [0]⟩] false) (.cond (.t 34) (.seq (.region [⟨some 35, .load true 3 (.t 5), none, []⟩, ⟨some 36, .mv (.t 11), none, []⟩, ⟨none, .store 3 (.t 2) (.t 35), none, [0, 0]⟩, ⟨some 3, .mv (.c (.list true [])), none, [2, 0, 2]⟩, ⟨some 4, .mv (.t 36), none, [1, 3, 0, 1, 2, 3]⟩] false) .ret) .skip)) (.seq (.region [⟨some 38, .mv (.t 10), none, []⟩, ⟨some 39, .call (.f 195) [.t 38], none, [0]⟩, ⟨some 37, .mv (.t 39), none, [1]⟩, ⟨some 40, .extract (.t 37) 0, none, [2]⟩, ⟨some 41, .extract (.t 37) 1, none, [2]⟩, ⟨some 42, .extract (.t 37) 2, none, [2]⟩, ⟨some 12, .mv (.t 40), none, [3, 1, 0, 1, 2, 3]⟩, ⟨some 13, .mv (.t 41), none, [4, 6, 0, 1, 2, 3, 4, 6]⟩, ⟨some 14, .mv (.t 42), none, [5, 7, 0, 1, 2, 3, 4, 5, 6, 7]⟩] false) (.seq (.seq (.region [⟨some 43, .mv (.t 14), none, []⟩, ⟨some 44, .bin false .neq (.t 43) (.c (.int .i64 0)), none, [0]⟩] false) (.cond (.t 44) (.seq (.region [⟨some 45, .load true 3 (.t 5), none, []⟩, ⟨some 46, .mv (.t 14), none, []⟩, ⟨none, .store 3 (.t 2) (.t 45), none, [0, 0]⟩, ⟨some 3, .mv (.c (.list true [])), none, [2, 0, 2]⟩, ⟨some 4, .mv (.t 46), none, [1, 3, 0, 1, 2, 3]⟩] false) .ret) .skip)) (.seq (.region [⟨some 47, .mv (.t 6), none, []⟩, ⟨some 48, .mv (.t 9), none, []⟩, ⟨some 49, .mv (.t 12), none, []⟩, ⟨some 50, .build [.list true [], .list true [], .list true []] [(0, (1, (.t 47))), (1, (1, (.t 48))), (2, (1, (.t 49)))], none, [0, 1, 2]⟩, ⟨some 15, .alloc [.list true [], .list true [], .list true []], none, []⟩, ⟨none, .store 3 (.t 15) (.t 50), none, [4, 3, 0, 1, 2, 3, 4]⟩] false) (.seq (.seq (.region [⟨some 51, .load true 3 (.t 15), none, []⟩, ⟨some 52, .call (.f 165) [.t 51], none, [0]⟩, ⟨some 53, .bin false .neq (.t 52) (.c (.int .i64 0)), none, [1]⟩] false) (.cond (.t 53) (.seq (.region [⟨some 54, .load true 3 (.t 5), none, []⟩, ⟨some 55, .load true 3 (.t 15), none, []⟩, ⟨some 56, .call (.f 165) [.t 55], none, [1]⟩, ⟨none, .store 3 (.t 2) (.t 54), none, [0, 2, 0]⟩, ⟨some 3, .mv (.c (.list true [])), none, [3, 0, 3]⟩, ⟨some 4, .mv (.t 56), none, [2, 4, 0, 1, 2, 3, 4]⟩] true) .ret) .skip)) (.seq (.region [⟨some 57, .load true 3 (.t 15), none, []⟩, ⟨some 58, .mv (.t 13), none, []⟩, ⟨none, .store 3 (.t 2) (.t 57), none, [0, 0]⟩, ⟨some 3, .mv (.t 58), none, [1, 2, 0, 1, 2]⟩, ⟨some 4, .mv (.c (.int .i64 0)), none, [3, 0, 1, 2, 3]⟩] false) .ret))))))))))⟩
theorem told182 : trFn seat 182 = some il182 := by kernel_rfl

def il183 : IFn := ⟨20, [.t 4], .seq (.region [⟨some 3, .box (.t 1), none, []⟩, ⟨some 4, .mv (.c (.list true [])), none, []⟩] false) (.seq (.seq (.region [⟨some 5, .load true 3 (.t 3), none, []⟩, ⟨some 6, .call (.f 147) [.t 5], none, [0]⟩, ⟨some 7, .bin false .neq (.t 6) (.c (.int .i64 0)), none, [1]⟩] false) (.cond (.t 7) (.seq (.region [⟨some 8, .mv (.t 0), none, []⟩, ⟨some 9, .call (.f 196) [.t 8], none, [0]⟩, ⟨some 4, .mv (.t 9), none, [1, 1, 0, 1]⟩] false) .ret) .skip)) (.seq (.region [⟨some 10, .mv (.t 0), none, []⟩, ⟨some 11, .faddr 0 (.t 3), none, []⟩, ⟨some 12, .load false 1 (.t 11), none, [1]⟩, ⟨some 13, .call (.f 198) [.t 10, .t 12], none, [0, 2]⟩, ⟨some 14, .faddr 1 (.t 3), none, []⟩, ⟨some 15, .load false 1 (.t 14), none, [4]⟩, ⟨some 16, .call (.f 198) [.t 13, .t 15], none, [3, 5, 3]⟩, ⟨some 17, .faddr 2 (.t 3), none, []⟩, ⟨some 18, .load false 1 (.t 17), none, [7]⟩, ⟨some 19, .call (.f 197) [.t 16, .t 18], none, [6, 8, 6]⟩, ⟨some 4, .mv (.t 19), none, [9, 9, 0, 1, 2, 3, 4, 5, 6, 7, 8, 9]⟩] true) .ret))⟩
theorem told183 : trFn seat 183 = some il183 := by kernel_rfl

def il184 : IFn := ⟨25, [.t 4], .seq (.region [⟨some 3, .box (.t 1), none, []⟩, ⟨some 4, .mv (.c (.list true [])), none, []⟩] false) (.seq (.region [⟨some 6, .bslice 1 0 (.int .u8 0) [], none, []⟩, ⟨some 7, .mv (.t 0), none, []⟩, ⟨some 8, .append 1 1 (.t 6) (.t 7), none, [0, 1]⟩, ⟨some 5, .mv (.t 8), none, [2, 2, 0, 1, 2]⟩] false) (.seq (.seq (.region [⟨some 9, .load true 3 (.t 3), none, []⟩, ⟨some 10, .call (.f 165) [.t 9], none, [0]⟩, ⟨some 11, .bin false .neq (.t 10) (.c (.int .i64 0)), none, [1]⟩] false) (.cond (.t 11) (.seq (.region [⟨some 12, .mv (.t 5), none, []⟩, ⟨some 4, .mv (.t 12), none, [0, 0]⟩] false) .ret) .skip)) (.seq (.region [⟨some 13, .mv (.t 5), none, []⟩, ⟨some 14, .faddr 0 (.t 3), none, []⟩, ⟨some 15, .load false 1 (.t 14), none, [1]⟩, ⟨some 16, .call (.f 199) [.t 13, .t 15], none, [0, 2]⟩, ⟨some 5, .mv (.t 16), none, [3, 3, 0, 1, 2, 3]⟩] false) (.seq (.region [⟨some 17, .mv (.t 5), none, []⟩, ⟨some 18, .faddr 1 (.t 3), none, []⟩, ⟨some 19, .load false 1 (.t 18), none, [1]⟩, ⟨some 20, .call (.f 199) [.t 17, .t 19], none, [0, 2]⟩, ⟨some 5, .mv (.t 20), none, [3, 3, 0, 1, 2, 3]⟩] false) (.seq (.region [⟨some 21, .mv (.t 5), none, []⟩, ⟨some 22, .faddr 2 (.t 3), none, []⟩, ⟨some 23, .load false 1 (.t 22), none, [1]⟩, ⟨some 24, .call (.f 200) [.t 21, .t 23], none, [0, 2]⟩, ⟨some 4, .mv (.t 24), none, [3, 3, 0, 1, 2, 3]⟩] false) .ret)))))⟩
theorem told184 : trFn seat 184 = some il184 := by kernel_rfl

def il188 : IFn := ⟨19, [.t 4], .seq (.region [⟨some 3, .box (.t 1), none, []⟩, ⟨some 4, .mv (.c (.list true [])), none, []⟩] false) (.seq (.region [⟨some 6, .load true 8 (.t 3), none, []⟩, ⟨some 7, .call (.f 206) [.t 6], none, [0]⟩, ⟨some 5, .alloc [.int .i64 0, .list true [], .list true [], .int .i64 0, .list true [], .list true [], .list true [], .list true []], none, []⟩, ⟨none, .store 8 (.t 5) (.t 7), none, [2, 1, 1, 0, 1, 2]⟩] false) (.seq (.seq (.region [⟨some 8, .faddr 0 (.t 5), none, []⟩, ⟨some 9, .load false 1 (.t 8), none, [0]⟩, ⟨some 10, .bin false .eql (.t 9) (.c (.int .i64 2)), none, [1]⟩] false) (.cond (.t 10) (.seq (.region [⟨some 11, .load true 8 (.t 5), none, []⟩, ⟨some 12, .mv (.t 0), none, []⟩, ⟨some 13, .call (.f 208) [.f 209], none, []⟩, ⟨some 14, .call (.f 207) [.t 11, .t 12, .c (.int .i64 2), .t 13], none, [0, 1, 2, 2]⟩, ⟨some 4, .mv (.t 14), none, [3, 3, 0, 1, 2, 3]⟩] true) .ret) .skip)) (.seq (.region [⟨some 15, .load true 8 (.t 5), none, []⟩, ⟨some 16, .mv (.t 0), none, []⟩, ⟨some 17, .call (.f 208) [.f 210], none, []⟩, ⟨some 18, .call (.f 207) [.t 15, .t 16, .c (.int .i64 1), .t 17], none, [0, 1, 2, 2]⟩, ⟨some 4, .mv (.t 18), none, [3, 3, 0, 1, 2, 3]⟩] true) .ret)))⟩
theorem told188 : trFn seat 188 = some il188 := by kernel_rfl

def il189 : IFn := ⟨61, [.cell 2 true 8, .t 3, .t 4], .seq (.region [⟨some 2, .alloc [.int .i64 0, .list true [], .list true [], .int .i64 0, .list true [], .list true [], .list true [], .list true []], none, []⟩, ⟨some 3, .mv (.c (.list true [])), none, []⟩, ⟨some 4, .mv (.c (.int .i64 0)), none, [1]⟩] false) (.seq (.region [⟨some 10, .mv (.t 0), none, []⟩, ⟨some 11, .call (.f 211) [.t 10], none, [0]⟩, ⟨some 9, .mv (.t 11), none, [1]⟩, ⟨some 12, .extract (.t 9) 0, none, [2]⟩, ⟨some 13, .extract (.t 9) 1, none, [2]⟩, ⟨some 14, .extract (.t 9) 2, none, [2]⟩, ⟨some 5, .mv (.t 12), none, [3, 1, 0, 1, 2, 3]⟩, ⟨some 0, .mv (.t 13), none, [4, 6, 0, 1, 2, 3, 4, 6]⟩, ⟨some 6, .mv (.t 14), none, [5, 7, 0, 1, 2, 3, 4, 5, 6, 7]⟩] false) (.seq (.seq (.region [⟨some 15, .mv (.t 6), none, []⟩, ⟨some 16, .bin false .neq (.t 15) (.c (.int .i64 0)), none, [0]⟩, ⟨some 17, .mv (.t 16), none, [1]⟩, ⟨some 18, .mv (.t 5), some (17, false), [2]⟩, ⟨some 19, .un .not (.t 18), some (17, false), [3, 2]⟩, ⟨some 20, .pick (.t 17) (.c (.bool true)) (.t 19), none, [2, 4]⟩] false) (.cond (.t 20) (.seq (.region [⟨some 21, .build [.int .i64 0, .list true [], .list true [], .int .i64 0, .list true [], .list true [], .list true [], .list true []] [], none, []⟩, ⟨some 22, .mv (.t 0), none, []⟩, ⟨some 23, .mv (.t 6), none, []⟩, ⟨none, .store 8 (.t 2) (.t 21), none, [0, 0]⟩, ⟨some 3, .mv (.t 22), none, [1, 3, 0, 1, 3]⟩, ⟨some 4, .mv (.t 23), none, [2, 4, 0, 1, 2, 3, 4]⟩] false) .ret) .skip)) (.seq (.region [⟨some 25, .mv (.t 0), none, []⟩, ⟨some 26, .call (.f 212) [.t 25, .c (.int .i64 1)], none, [0]⟩, ⟨some 24, .mv (.t 26), none, [1]⟩, ⟨some 27, .extract (.t 24) 0, none, [2]⟩, ⟨some 28, .extract (.t 24) 1, none, [2]⟩, ⟨some 29, .extract (.t 24) 2, none, [2]⟩, ⟨some 7, .mv (.t 27), none, [3, 1, 0, 1, 2, 3]⟩, ⟨some 0, .mv (.t 28), none, [4, 6, 0, 1, 2, 3, 4, 6]⟩, ⟨some 6, .mv (.t 29), none, [5, 7, 0, 1, 2, 3, 4, 5, 6, 7]⟩] false) (.seq (.region [⟨some 30, .mv (.t 7), none, []⟩, ⟨some 31, .build [.int .i64 0, .list true [], .list true [], .int .i64 0, .list true [], .list true [], .list true [], .list true []] [(0, (1, (.t 30)))], none, [0]⟩, ⟨some 8, .alloc [.int .i64 0, .list true [], .list true [], .int .i64 0, .list true [], .list true [], .list true [], .list true []], none, []⟩, ⟨none, .store 8 (.t 8) (.t 31), none, [2, 1, 0, 1, 2]⟩] false) (.seq (.block 0 (.seq (.region [⟨some 33, .mv (.t 6), none, []⟩, ⟨some 34, .bin false .neq (.t 33) (.c (.int .i64 0)), none, [0]⟩, ⟨some 32, .mv (.t 34), none, [1]⟩] false) (.cond (.t 32) .skip (.seq (.region [⟨some 36, .mv (.t 7), none, []⟩, ⟨some 37, .bin false .eql (.t 36) (.c (.int .i64 1)), none, [0]⟩, ⟨some 35, .mv (.t 37), none, [1]⟩] false) (.cond (.t 35) (.region [⟨some 39, .mv (.t 0), none, []⟩, ⟨some 40, .call (.f 213) [.t 39], none, [0]⟩, ⟨some 38, .mv (.t 40), none, [1]⟩, ⟨some 41, .extract (.t 38) 0, none, [2]⟩, ⟨some 42, .extract (.t 38) 1, none, [2]⟩, ⟨some 43, .extract (.t 38) 2, none, [2]⟩, ⟨some 44, .faddr 1 (.t 8), none, [0, 1, 2, 3]⟩, ⟨none, .store 4 (.t 44) (.t 41), none, [6, 3, 1, 0, 1, 2, 3]⟩, ⟨some 0, .mv (.t 42), none, [4, 7, 0, 1, 2, 3, 4, 6, 7]⟩, ⟨some 6, .mv (.t 43), none, [5, 8, 0, 1, 2, 3, 4, 5, 6, 7, 8]⟩] false) (.seq (.region [⟨some 46, .mv (.t 7), none, []⟩, ⟨some 47, .bin false .eql (.t 46) (.c (.int .i64 2)), none, [0]⟩, ⟨some 45, .mv (.t 47), none, [1]⟩] false) (.cond (.t 45) (.region [⟨some 49, .mv (.t 0), none, []⟩, ⟨some 50, .call (.f 181) [.t 49], none, [0]⟩, ⟨some 48, .mv (.t 50), none, [1]⟩, ⟨some 51, .extract (.t 48) 0, none, [2]⟩, ⟨some 52, .extract (.t 48) 1, none, [2]⟩, ⟨some 53, .extract (.t 48) 2, none, [2]⟩, ⟨some 54, .faddr 5 (.t 8), none, [0, 1, 2, 3]⟩, ⟨none, .store 3 (.t 54) (.t 51), none, [6, 3, 1, 0, 1, 2, 3]⟩, ⟨some 0, .mv (.t 52), none, [4, 7, 0, 1, 2, 3, 4, 6, 7]⟩, ⟨some 6, .mv (.t 53), none, [5, 8, 0, 1, 2, 3, 4, 5, 6, 7, 8]⟩] false) (.region [⟨some 6, .mv (.c (.int .i64 7)), none, []⟩] false)))))))) (.seq (.seq (.region [⟨some 55, .mv (.t 6), none, []⟩, ⟨some 56, .bin false .neq (.t 55) (.c (.int .i64 0)), none, [0]⟩] false) (.cond (.t 56) (.seq (.region [⟨some 57, .build [.int .i64 0, .list true [], .list true [], .int .i64 0, .list true [], .list true [], .list true [], .list true []] [], none, []⟩, ⟨some 58, .mv (.t 6), none, []⟩, ⟨none, .store 8 (.t 2) (.t 57), none, [0, 0]⟩, ⟨some 3, .mv (.c (.list true [])), none, [2, 0, 2]⟩, ⟨some 4, .mv (.t 58), none, [1, 3, 0, 1, 2, 3]⟩] false) .ret) .skip)) (.seq (.region [⟨some 59, .load true 8 (.t 8), none, []⟩, ⟨some 60, .mv (.t 0), none, []⟩, ⟨none, .store 8 (.t 2) (.t 59), none, [0, 0]⟩, ⟨some 3, .mv (.t 60), none, [1, 2, 0, 1, 2]⟩, ⟨some 4, .mv (.c (.int .i64 0)), none, [3, 0, 1, 2, 3]⟩] false) .ret)))))))⟩
theorem told189 : trFn seat 189 = some il189 := by kernel_rfl

def il192 : IFn := ⟨33, [.t 2, .t 3, .t 4], .seq (.region [⟨some 2, .mv (.c (.list true [])), none, []⟩, ⟨some 3, .mv (.c (.list true [])), none, [0]⟩, ⟨some 4, .mv (.c (.int .i64 0)), none, [1]⟩] false) (.seq (.region [⟨some 9, .mv (.t 0), none, []⟩, ⟨some 10, .call (.f 215) [.t 9], none, [0]⟩, ⟨some 8, .mv (.t 10), none, [1]⟩, ⟨some 11, .extract (.t 8) 0, none, [2]⟩, ⟨some 12, .extract (.t 8) 1, none, [2]⟩, ⟨some 13, .extract (.t 8) 2, none, [2]⟩, ⟨some 5, .mv (.t 11), none, [3, 1, 0, 1, 2, 3]⟩, ⟨some 6, .mv (.t 12), none, [4, 6, 0, 1, 2, 3, 4, 6]⟩, ⟨some 7, .mv (.t 13), none, [5, 7, 0, 1, 2, 3, 4, 5, 6, 7]⟩] false) (.seq (.block 0 (.seq (.region [⟨some 15, .mv (.t 7), none, []⟩, ⟨some 16, .bin false .neq (.t 15) (.c (.int .i64 0)), none, [0]⟩, ⟨some 14, .mv (.t 16), none, [1]⟩] false) (.cond (.t 14) (.seq (.region [⟨some 17, .mv (.t 7), none, []⟩, ⟨some 2, .mv (.c (.list true [])), none, []⟩, ⟨some 3, .mv (.c (.list true [])), none, [1, 1]⟩, ⟨some 4, .mv (.t 17), none, [0, 2, 0, 1, 2]⟩] false) .ret) (.seq (.region [⟨some 19, .mv (.t 5), none, []⟩, ⟨some 20, .bin false .gtr (.t 19) (.c (.int .i64 1048576)), none, [0]⟩, ⟨some 18, .mv (.t 20), none, [1]⟩] false) (.cond (.t 18) (.seq (.region [⟨some 2, .mv (.c (.list true [])), none, []⟩, ⟨some 3, .mv (.c (.list true [])), none, [0, 0]⟩, ⟨some 4, .mv (.c (.int .i64 4)), none, [1, 0, 1]⟩] false) .ret) (.seq (.region [⟨some 22, .mv (.t 5), none, []⟩, ⟨some 23, .mv (.t 6), none, []⟩, ⟨some 24, .len (.t 23), none, [1]⟩, ⟨some 25, .bin false .gtr (.t 22) (.t 24), none, [0, 2]⟩, ⟨some 21, .mv (.t 25), none, [3]⟩] false) (.cond (.t 21) (.seq (.region [⟨some 2, .mv (.c (.list true [])), none, []⟩, ⟨some 3, .mv (.c (.list true [])), none, [0, 0]⟩, ⟨some 4, .mv (.c (.int .i64 1)), none, [1, 0, 1]⟩] false) .ret) .skip))))))) (.seq (.region [⟨some 26, .mv (.t 6), none, []⟩, ⟨some 27, .mv (.t 5), none, []⟩, ⟨some 28, .mv (.t 5), none, []⟩, ⟨some 29, .slice 1 (.t 26) none (some (.t 27)) (some (.t 28)), none, [0, 1, 2]⟩, ⟨some 30, .mv (.t 6), none, []⟩, ⟨some 31, .mv (.t 5), none, []⟩, ⟨some 32, .slice 1 (.t 30) (some (.t 31)) none none, none, [4, 5]⟩, ⟨some 2, .mv (.t 29), none, [3, 0, 1, 2, 3]⟩, ⟨some 3, .mv (.t 32), none, [6, 7, 0, 1, 2, 3, 4, 5, 6, 7]⟩, ⟨some 4, .mv (.c (.int .i64 0)), none, [8, 0, 1, 2, 3, 4, 5, 6, 7, 8]⟩] true) .ret)))⟩
theorem told192 : trFn seat 192 = some il192 := by kernel_rfl

def il193 : IFn := ⟨41, [.t 2, .t 3, .t 4], .seq (.region [⟨some 2, .mv (.c (.list true [])), none, []⟩, ⟨some 3, .mv (.c (.list true [])), none, [0]⟩, ⟨some 4, .mv (.c (.int .i64 0)), none, [1]⟩] false) (.seq (.region [⟨some 14, .mv (.t 0), none, []⟩, ⟨some 15, .call (.f 192) [.t 14], none, [0]⟩, ⟨some 13, .mv (.t 15), none, [1]⟩, ⟨some 16, .extract (.t 13) 0, none, [2]⟩, ⟨some 17, .extract (.t 13) 1, none, [2]⟩, ⟨some 18, .extract (.t 13) 2, none, [2]⟩, ⟨some 5, .mv (.t 16), none, [3, 1, 0, 1, 2, 3]⟩, ⟨some 6, .mv (.t 17), none, [4, 6, 0, 1, 2, 3, 4, 6]⟩, ⟨some 7, .mv (.t 18), none, [5, 7, 0, 1, 2, 3, 4, 5, 6, 7]⟩] false) (.seq (.seq (.region [⟨some 19, .mv (.t 7), none, []⟩, ⟨some 20, .bin false .neq (.t 19) (.c (.int .i64 0)), none, [0]⟩] false) (.cond (.t 20) (.seq (.region [⟨some 21, .mv (.t 7), none, []⟩, ⟨some 2, .mv (.c (.list true [])), none, []⟩, ⟨some 3, .mv (.c (.list true [])), none, [1, 1]⟩, ⟨some 4, .mv (.t 21), none, [0, 2, 0, 1, 2]⟩] false) .ret) .skip)) (.seq (.seq (.region [⟨some 22, .mv (.t 5), none, []⟩, ⟨some 23, .len (.t 22), none, [0]⟩, ⟨some 24, .bin false .rem (.t 23) (.c (.int .i64 4)), none, [1]⟩, ⟨some 25, .bin false .neq (.t 24) (.c (.int .i64 0)), none, [2]⟩] false) (.cond (.t 25) (.seq (.region [⟨some 2, .mv (.c (.list true [])), none, []⟩, ⟨some 3, .mv (.c (.list true [])), none, [0, 0]⟩, ⟨some 4, .mv (.c (.int .i64 2)), none, [1, 0, 1]⟩] false) .ret) .skip)) (.seq (.region [⟨some 8, .alloc [.list true []], none, []⟩] false) (.seq (.seq (.region [⟨some 26, .mv (.t 5), none, []⟩, ⟨some 27, .call (.f 216) [.t 26, .c (.int .i64 4)], none, [0]⟩] false) (.block 0 (.rangeFunc (.t 27) [28] (.region [⟨some 9, .mv (.t 28), none, []⟩] false) (.block 1 (.seq (.region [⟨some 30, .mv (.t 9), none, []⟩, ⟨some 31, .call (.f 212) [.t 30, .c (.int .i64 4)], none, [0]⟩, ⟨some 29, .mv (.t 31), none, [1]⟩, ⟨some 32, .extract (.t 29) 0, none, [2]⟩, ⟨some 33, .extract (.t 29) 1, none, [2]⟩, ⟨some 34, .extract (.t 29) 2, none, [2]⟩, ⟨some 10, .mv (.t 32), none, [3, 1, 0, 1, 2, 3]⟩, ⟨some 11, .mv (.t 33), none, [4, 6, 0, 1, 2, 3, 4, 6]⟩, ⟨some 12, .mv (.t 34), none, [5, 7, 0, 1, 2, 3, 4, 5, 6, 7]⟩] false) (.region [⟨some 35, .load false 1 (.t 8), none, []⟩, ⟨some 36, .mv (.t 10), none, []⟩, ⟨some 37, .bslice 1 1 (.int .i64 0) [(0, (.t 36))], none, [1]⟩, ⟨some 38, .append 1 8 (.t 35) (.t 37), none, [0, 2]⟩, ⟨none, .store 1 (.t 8) (.t 38), none, [3, 3, 0, 1, 2, 3]⟩] false)))))) (.seq (.region [⟨some 39, .load false 1 (.t 8), none, []⟩, ⟨some 40, .mv (.t 6), none, []⟩, ⟨some 2, .mv (.t 39), none, [0, 0]⟩, ⟨some 3, .mv (.t 40), none, [1, 2, 0, 1, 2]⟩, ⟨some 4, .mv (.c (.int .i64 0)), none, [3, 0, 1, 2, 3]⟩] false) .ret))))))⟩
theorem told193 : trFn seat 193 = some il193 := by kernel_rfl

def il194 : IFn := ⟨29, [.t 2, .t 3, .t 4], .seq (.region [⟨some 2, .mv (.c (.list true [])), none, []⟩, ⟨some 3, .mv (.c (.list true [])), none, [0]⟩, ⟨some 4, .mv (.c (.int .i64 0)), none, [1]⟩] false) (.seq (.region [⟨some 9, .mv (.t 0), none, []⟩, ⟨some 10, .call (.f 217) [.t 9], none, [0]⟩, ⟨some 8, .mv (.t 10), none, [1]⟩, ⟨some 11, .extract (.t 8) 0, none, [2]⟩, ⟨some 12, .extract (.t 8) 1, none, [2]⟩, ⟨some 13, .extract (.t 8) 2, none, [2]⟩, ⟨some 5, .mv (.t 11), none, [3, 1, 0, 1, 2, 3]⟩, ⟨some 6, .mv (.t 12), none, [4, 6, 0, 1, 2, 3, 4, 6]⟩, ⟨some 7, .mv (.t 13), none, [5, 7, 0, 1, 2, 3, 4, 5, 6, 7]⟩] false) (.seq (.seq (.region [⟨some 14, .mv (.t 7), none, []⟩, ⟨some 15, .bin false .neq (.t 14) (.c (.int .i64 0)), none, [0]⟩] false) (.cond (.t 15) (.seq (.region [⟨some 16, .mv (.t 7), none, []⟩, ⟨some 2, .mv (.c (.list true [])), none, []⟩, ⟨some 3, .mv (.c (.list true [])), none, [1, 1]⟩, ⟨some 4, .mv (.t 16), none, [0, 2, 0, 1, 2]⟩] false) .ret) .skip)) (.seq (.seq (.region [⟨some 17, .mv (.t 5), none, []⟩, ⟨some 18, .bin false .gtr (.t 17) (.c (.int .i64 1048576)), none, [0]⟩] false) (.cond (.t 18) (.seq (.region [⟨some 2, .mv (.c (.list true [])), none, []⟩, ⟨some 3, .mv (.c (.list true [])), none, [0, 0]⟩, ⟨some 4, .mv (.c (.int .i64 4)), none, [1, 0, 1]⟩] false) .ret) .skip)) (.seq (.seq (.region [⟨some 19, .mv (.t 6), none, []⟩, ⟨some 20, .len (.t 19), none, [0]⟩, ⟨some 21, .mv (.t 5), none, []⟩, ⟨some 22, .bin false .lss (.t 20) (.t 21), none, [1, 2]⟩] false) (.cond (.t 22) (.seq (.region [⟨some 2, .mv (.c (.list true [])), none, []⟩, ⟨some 3, .mv (.c (.list true [])), none, [0, 0]⟩, ⟨some 4, .mv (.c (.int .i64 1)), none, [1, 0, 1]⟩] false) .ret) .skip)) (.seq (.region [⟨some 23, .mv (.t 6), none, []⟩, ⟨some 24, .mv (.t 5), none, []⟩, ⟨some 25, .slice 1 (.t 23) none (some (.t 24)) none, none, [0, 1]⟩, ⟨some 26, .mv (.t 6), none, []⟩, ⟨some 27, .mv (.t 5), none, []⟩, ⟨some 28, .slice 1 (.t 26) (some (.t 27)) none none, none, [3, 4]⟩, ⟨some 2, .mv (.t 25), none, [2, 0, 1, 2]⟩, ⟨some 3, .mv (.t 28), none, [5, 6, 0, 1, 2, 3, 4, 5, 6]⟩, ⟨some 4, .mv (.c (.int .i64 0)), none, [7, 0, 1, 2, 3, 4, 5, 6, 7]⟩] true) .ret)))))⟩
theorem told194 : trFn seat 194 = some il194 := by kernel_rfl

def il195 : IFn := ⟨41, [.t 2, .t 3, .t 4], .seq (.region [⟨some 2, .mv (.c (.list true [])), none, []⟩, ⟨some 3, .mv (.c (.list true [])), none, [0]⟩, ⟨some 4, .mv (.c (.int .i64 0)), none, [1]⟩] false) (.seq (.region [⟨some 13, .mv (.t 0), none, []⟩, ⟨some 14, .call (.f 194) [.t 13], none, [0]⟩, ⟨some 12, .mv (.t 14), none, [1]⟩, ⟨some 15, .extract (.t 12) 0, none, [2]⟩, ⟨some 16, .extract (.t 12) 1, none, [2]⟩, ⟨some 17, .extract (.t 12) 2, none, [2]⟩, ⟨some 5, .mv (.t 15), none, [3, 1, 0, 1, 2, 3]⟩, ⟨some 6, .mv (.t 16), none, [4, 6, 0, 1, 2, 3, 4, 6]⟩, ⟨some 7, .mv (.t 17), none, [5, 7, 0, 1, 2, 3, 4, 5, 6, 7]⟩] false) (.seq (.seq (.region [⟨some 18, .mv (.t 7), none, []⟩, ⟨some 19, .bin false .neq (.t 18) (.c (.int .i64 0)), none, [0]⟩] false) (.cond (.t 19) (.seq (.region [⟨some 20, .mv (.t 7), none, []⟩, ⟨some 2, .mv (.c (.list true [])), none, []⟩, ⟨some 3, .mv (.c (.list true [])), none, [1, 1]⟩, ⟨some 4, .mv (.t 20), none, [0, 2, 0, 1, 2]⟩] false) .ret) .skip)) (.seq (.seq (.region [⟨some 21, .mv (.t 5), none, []⟩, ⟨some 22, .len (.t 21), none, [0]⟩, ⟨some 23, .bin false .rem (.t 22) (.c (.int .i64 4)), none, [1]⟩, ⟨some 24, .bin false .neq (.t 23) (.c (.int .i64 0)), none, [2]⟩] false) (.cond (.t 24) (.seq (.region [⟨some 2, .mv (.c (.list true [])), none, []⟩, ⟨some 3, .mv (.c (.list true [])), none, [0, 0]⟩, ⟨some 4, .mv (.c (.int .i64 2)), none, [1, 0, 1]⟩] false) .ret) .skip)) (.seq (.region [⟨some 8, .mv (.c (.list true [])), none, []⟩] false) (.seq (.block 0 (.loop (.seq (.seq (.region [⟨some 25, .mv (.t 5), none, []⟩, ⟨some 26, .len (.t 25), none, [0]⟩, ⟨some 27, .bin false .gtr (.t 26) (.c (.int .i64 0)), none, [1]⟩] false) (.cond (.t 27) .skip (.exit 0))) (.block 1 (.seq (.region [⟨some 29, .mv (.t 5), none, []⟩, ⟨some 30, .call (.f 218) [.t 29, .c (.int .i64 4)], none, [0]⟩, ⟨some 28, .mv (.t 30), none, [1]⟩, ⟨some 31, .extract (.t 28) 0, none, [2]⟩, ⟨some 32, .extract (.t 28) 1, none, [2]⟩, ⟨some 33, .extract (.t 28) 2, none, [2]⟩, ⟨some 9, .mv (.t 31), none, [3, 1, 0, 1, 2, 3]⟩, ⟨some 10, .mv (.t 32), none, [4, 6, 0, 1, 2, 3, 4, 6]⟩, ⟨some 11, .mv (.t 33), none, [5, 7, 0, 1, 2, 3, 4, 5, 6, 7]⟩] false) (.seq (.region [⟨some 34, .mv (.t 8), none, []⟩, ⟨some 35, .mv (.t 9), none, []⟩, ⟨some 36, .bslice 1 1 (.int .i64 0) [(0, (.t 35))], none, [1]⟩, ⟨some 37, .append 1 8 (.t 34) (.t 36), none, [0, 2]⟩, ⟨some 8, .mv (.t 37), none, [3, 3, 0, 1, 2, 3]⟩] false) (.region [⟨some 38, .mv (.t 10), none, []⟩, ⟨some 5, .mv (.t 38), none, [0, 0]⟩] false))))))) (.seq (.region [⟨some 39, .mv (.t 8), none, []⟩, ⟨some 40, .mv (.t 6), none, []⟩, ⟨some 2, .mv (.t 39), none, [0, 0]⟩, ⟨some 3, .mv (.t 40), none, [1, 2, 0, 1, 2]⟩, ⟨some 4, .mv (.c (.int .i64 0)), none, [3, 0, 1, 2, 3]⟩] false) .ret))))))⟩
theorem told195 : trFn seat 195 = some il195 := by kernel_rfl

def il196 : IFn := ⟨8, [.t 2], .seq (.region [⟨some 2, .mv (.c (.list true [])), none, []⟩] false) (.seq (.seq (.region [⟨some 3, .mv (.t 0), none, []⟩, ⟨some 4, .isnil .slice false (.t 3), none, [0]⟩] false) (.cond (.t 4) (.seq (.region [⟨some 2, .mv (.c (.list true [])), none, []⟩] false) .ret) .skip)) (.seq (.region [⟨some 5, .bslice 1 0 (.int .u8 0) [], none, []⟩, ⟨some 6, .mv (.t 0), none, []⟩, ⟨some 7, .append 1 1 (.t 5) (.t 6), none, [0, 1]⟩, ⟨some 2, .mv (.t 7), none, [2, 2, 0, 1, 2]⟩] false) .ret))⟩
theorem told196 : trFn seat 196 = some il196 := by kernel_rfl

def il197 : IFn := ⟨21, [.t 4], .seq (.region [⟨some 4, .mv (.c (.list true [])), none, []⟩] false) (.seq (.region [⟨some 5, .mv (.c (.list true [])), none, []⟩] false) (.seq (.seq (.region [⟨some 8, .mv (.t 1), none, []⟩, ⟨some 9, .len (.t 8), none, [0]⟩, ⟨some 10, .mv (.c (.int .i64 0)), none, []⟩] false) (.block 0 (.loop (.seq (.region [⟨some 11, .bin false .lss (.t 10) (.t 9), none, []⟩] false) (.seq (.cond (.t 11) .skip (.exit 0)) (.seq (.block 1 (.seq (.region [⟨some 12, .iaddr 1 (.t 8) (.t 10), none, []⟩, ⟨some 13, .load false 1 (.t 12), none, [0]⟩, ⟨some 7, .mv (.t 13), none, [1, 0, 1]⟩] false) (.region [⟨some 14, .mv (.t 5), none, []⟩, ⟨some 15, .mv (.t 7), none, []⟩, ⟨some 16, .call (.f 214) [.t 14, .t 15, .c (.int .i64 4)], none, [0, 1]⟩, ⟨some 5, .mv (.t 16), none, [2, 2, 0, 1, 2]⟩] false))) (.region [⟨some 17, .bin false .add (.t 10) (.c (.int .i64 1)), none, []⟩, ⟨some 10, .mv (.t 17), none, [0]⟩] false))))))) (.seq (.region [⟨some 18, .mv (.t 0), none, []⟩, ⟨some 19, .mv (.t 5), none, []⟩, ⟨some 20, .call (.f 198) [.t 18, .t 19], none, [0, 1]⟩, ⟨some 4, .mv (.t 20), none, [2, 2, 0, 1, 2]⟩] false) .ret)))⟩
theorem told197 : trFn seat 197 = some il197 := by kernel_rfl

def il198 : IFn := ⟨16, [.t 4], .seq (.region [⟨some 4, .mv (.c (.list true [])), none, []⟩] false) (.seq (.seq (.region [⟨some 5, .mv (.t 1), none, []⟩, ⟨some 6, .len (.t 5), none, [0]⟩, ⟨some 7, .bin false .gtr (.t 6) (.c (.int .i64 1048576)), none, [1]⟩] false) (.cond (.t 7) (.seq (.region [⟨some 8, .mv (.t 0), none, []⟩, ⟨some 9, .call (.f 196) [.t 8], none, [0]⟩, ⟨some 4, .mv (.t 9), none, [1, 1, 0, 1]⟩] false) .ret) .skip)) (.seq (.region [⟨some 10, .mv (.t 0), none, []⟩, ⟨some 11, .mv (.t 1), none, []⟩, ⟨some 12, .len (.t 11), none, [1]⟩, ⟨some 13, .call (.f 219) [.t 10, .t 12], none, [0, 2]⟩, ⟨some 14, .mv (.t 1), none, []⟩, ⟨some 15, .append 1 1 (.t 13) (.t 14), none, [3, 4, 3]⟩, ⟨some 4, .mv (.t 15), none, [5, 5, 0, 1, 2, 3, 4, 5]⟩] false) .ret))⟩
theorem told198 : trFn seat 198 = some il198 := by kernel_rfl

def il199 : IFn := ⟨21, [.t 4], .seq (.region [⟨some 4, .mv (.c (.list true [])), none, []⟩] false) (.seq (.region [⟨some 6, .bslice 1 0 (.int .u8 0) [], none, []⟩, ⟨some 7, .mv (.t 0), none, []⟩, ⟨some 8, .append 1 1 (.t 6) (.t 7), none, [0, 1]⟩, ⟨some 5, .mv (.t 8), none, [2, 2, 0, 1, 2]⟩] false) (.seq (.seq (.region [⟨some 9, .mv (.t 1), none, []⟩, ⟨some 10, .len (.t 9), none, [0]⟩, ⟨some 11, .bin false .gtr (.t 10) (.c (.int .i64 1048576)), none, [1]⟩] false) (.cond (.t 11) (.seq (.region [⟨some 12, .mv (.t 5), none, []⟩, ⟨some 4, .mv (.t 12), none, [0, 0]⟩] false) .ret) .skip)) (.seq (.region [⟨some 13, .mv (.t 5), none, []⟩, ⟨some 14, .mv (.t 1), none, []⟩, ⟨some 15, .len (.t 14), none, [1]⟩, ⟨some 16, .call (.f 220) [.t 13, .t 15], none, [0, 2]⟩, ⟨some 5, .mv (.t 16), none, [3, 3, 0, 1, 2, 3]⟩] false) (.seq (.region [⟨some 17, .mv (.t 5), none, []⟩, ⟨some 18, .mv (.t 1), none, []⟩, ⟨some 19, .append 1 1 (.t 17) (.t 18), none, [0, 1]⟩, ⟨some 5, .mv (.t 19), none, [2, 2, 0, 1, 2]⟩] false) (.seq (.region [⟨some 20, .mv (.t 5), none, []⟩, ⟨some 4, .mv (.t 20), none, [0, 0]⟩] false) .ret)))))⟩
theorem told199 : trFn seat 199 = some il199 := by kernel_rfl

def il200 : IFn := ⟨22, [.t 4], .seq (.region [⟨some 4, .mv (.c (.list true [])), none, []⟩] false) (.seq (.region [⟨some 5, .mv (.c (.list true [])), none, []⟩] false) (.seq (.seq (.region [⟨some 6, .mv (.c (.int .i64 0)), none, []⟩] false) (.block 0 (.loop (.seq (.seq (.region [⟨some 7, .mv (.t 6), none, []⟩, ⟨some 8, .mv (.t 1), none, []⟩, ⟨some 9, .len (.t 8), none, [1]⟩, ⟨some 10, .bin false .lss (.t 7) (.t 9), none, [0, 2]⟩] false) (.cond (.t 10) .skip (.exit 0))) (.seq (.block 1 (.region [⟨some 13, .mv (.t 5), none, []⟩, ⟨some 14, .mv (.t 1), none, []⟩, ⟨some 15, .mv (.t 6), none, []⟩, ⟨some 16, .iaddr 1 (.t 14) (.t 15), none, [1, 2]⟩, ⟨some 17, .load false 1 (.t 16), none, [3]⟩, ⟨some 18, .call (.f 221) [.t 13, .t 17, .c (.int .i64 4)], none, [0, 4]⟩, ⟨some 5, .mv (.t 18), none, [5, 5, 0, 1, 2, 3, 4, 5]⟩] false)) (.region [⟨some 11, .mv (.t 6), none, []⟩, ⟨some 12, .bin false .add (.t 11) (.c (.int .i64 1)), none, [0]⟩, ⟨some 6, .mv (.t 12), none, [1, 0, 1]⟩] false)))))) (.seq (.region [⟨some 19, .mv (.t 0), none, []⟩, ⟨some 20, .mv (.t 5), none, []⟩, ⟨some 21, .call (.f 199) [.t 19, .t 20], none, [0, 1]⟩, ⟨some 4, .mv (.t 21), none, [2, 2, 0, 1, 2]⟩] false) .ret)))⟩
theorem told200 : trFn seat 200 = some il200 := by kernel_rfl

def il204 : IFn := ⟨9, [.t 4], .seq (.region [⟨some 4, .mv (.c (.bool false)), none, []⟩] false) (.seq (.region [⟨some 5, .mv (.t 0), none, []⟩, ⟨some 6, .mv (.t 1), none, []⟩, ⟨some 7, .call (.f 222) [.t 5, .t 6], none, [0, 1]⟩, ⟨some 8, .bin false .geq (.t 7) (.c (.int .i64 0)), none, [2]⟩, ⟨some 4, .mv (.t 8), none, [3, 2, 0, 1, 2, 3]⟩] false) .ret)⟩
theorem told204 : trFn seat 204 = some il204 := by kernel_rfl

def il206 : IFn := ⟨8, [.cell 2 true 8], .seq (.region [⟨some 1, .box (.t 0), none, []⟩, ⟨some 2, .alloc [.int .i64 0, .list true [], .list true [], .int .i64 0, .list true [], .list true [], .list true [], .list true []], none, []⟩] false) (.seq (.seq (.region [⟨some 3, .load true 8 (.t 1), none, []⟩, ⟨some 4, .call (.f 124) [.t 3], none, [0]⟩, ⟨some 5, .bin false .neq (.t 4) (.c (.int .i64 0)), none, [1]⟩] false) (.cond (.t 5) (.seq (.region [⟨some 6, .build [.int .i64 0, .list true [], .list true [], .int .i64 0, .list true [], .list true [], .list true [], .list true []] [], none, []⟩, ⟨none, .store 8 (.t 2) (.t 6), none, [0, 0]⟩] false) .ret) .skip)) (.seq (.region [⟨some 7, .load true 8 (.t 1), none, []⟩, ⟨none, .store 8 (.t 2) (.t 7), none, [0, 0]⟩] false) .ret))⟩
theorem told206 : trFn seat 206 = some il206 := by kernel_rfl

def il207 : IFn := ⟨24, [.t 8], .seq (.region [⟨some 4, .box (.t 0), none, []⟩, ⟨some 8, .mv (.c (.list true [])), none, []⟩] false) (.seq (.region [⟨some 9, .mv (.t 1), none, []⟩, ⟨some 10, .faddr 0 (.t 4), none, []⟩, ⟨some 11, .load false 1 (.t 10), none, [1]⟩, ⟨some 12, .mv (.t 2), none, []⟩, ⟨some 13, .bin false .eql (.t 11) (.t 12), none, [2, 3]⟩, ⟨some 14, .call (.f 223) [.t 9, .t 13], none, [0, 4]⟩, ⟨some 1, .mv (.t 14), none, [5, 5, 0, 1, 2, 3, 4, 5]⟩] false) (.seq (.seq (.region [⟨some 15, .faddr 0 (.t 4), none, []⟩, ⟨some 16, .load false 1 (.t 15), none, [0]⟩, ⟨some 17, .mv (.t 2), none, []⟩, ⟨some 18, .bin false .neq (.t 16) (.t 17), none, [1, 2]⟩] false) (.cond (.t 18) (.seq (.region [⟨some 19, .mv (.t 1), none, []⟩, ⟨some 8, .mv (.t 19), none, [0, 0]⟩] false) .ret) .skip)) (.seq (.region [⟨some 20, .mv (.t 3), none, []⟩, ⟨some 21, .load true 8 (.t 4), none, []⟩, ⟨some 22, .mv (.t 1), none, []⟩, ⟨some 23, .call (.t 20) [.t 21, .t 22], none, [0, 1, 2]⟩, ⟨some 8, .mv (.t 23), none, [3, 3, 0, 1, 2, 3]⟩] false) .ret)))⟩
theorem told207 : trFn seat 207 = some il207 := by kernel_rfl

def il208 : IFn := ⟨4, [.t 2], .seq (.region [⟨some 1, .box (.t 0), none, []⟩, ⟨some 2, .mv (.c .nilfunc), none, []⟩] false) (.seq (.region [⟨some 3, .mkfunc 224 [] [.t 1], none, []⟩, ⟨some 2, .mv (.t 3), none, [0, 0]⟩] false) .ret)⟩
theorem told208 : trFn seat 208 = some il208 := by kernel_rfl

def il209 : IFn := ⟨9, [.t 4], .seq (.region [⟨some 2, .box (.t 0), none, []⟩, ⟨some 4, .mv (.c (.list true [])), none, []⟩] false) (.seq (.region [⟨some 5, .mv (.t 1), none, []⟩, ⟨some 6, .faddr 5 (.t 2), none, []⟩, ⟨some 7, .load true 3 (.t 6), none, [1]⟩, ⟨some 8, .call (.f 183) [.t 5, .t 7], none, [0, 2]⟩, ⟨some 4, .mv (.t 8), none, [3, 3, 0, 1, 2, 3]⟩] false) .ret)⟩
theorem told209 : trFn seat 209 = some il209 := by kernel_rfl

def il210 : IFn := ⟨9, [.t 4], .seq (.region [⟨some 2, .box (.t 0), none, []⟩, ⟨some 4, .mv (.c (.list true [])), none, []⟩] false) (.seq (.region [⟨some 5, .mv (.t 1), none, []⟩, ⟨some 6, .faddr 1 (.t 2), none, []⟩, ⟨some 7, .load true 4 (.t 6), none, [1]⟩, ⟨some 8, .call (.f 225) [.t 5, .t 7], none, [0, 2]⟩, ⟨some 4, .mv (.t 8), none, [3, 3, 0, 1, 2, 3]⟩] false) .ret)⟩
theorem told210 : trFn seat 210 = some il210 := by kernel_rfl

def il211 : IFn := ⟨24, [.t 2, .t 3, .t 4], .seq (.region [⟨some 2, .mv (.c (.bool false)), none, []⟩, ⟨some 3, .mv (.c (.list true [])), none, [0]⟩, ⟨some 4, .mv (.c (.int .i64 0)), none, [1]⟩] false) (.seq (.region [⟨some 9, .mv (.t 0), none, []⟩, ⟨some 10, .call (.f 212) [.t 9, .c (.int .i64 1)], none, [0]⟩, ⟨some 8, .mv (.t 10), none, [1]⟩, ⟨some 11, .extract (.t 8) 0, none, [2]⟩, ⟨some 12, .extract (.t 8) 1, none, [2]⟩, ⟨some 13, .extract (.t 8) 2, none, [2]⟩, ⟨some 5, .mv (.t 11), none, [3, 1, 0, 1, 2, 3]⟩, ⟨some 6, .mv (.t 12), none, [4, 6, 0, 1, 2, 3, 4, 6]⟩, ⟨some 7, .mv (.t 13), none, [5, 7, 0, 1, 2, 3, 4, 5, 6, 7]⟩] false) (.seq (.block 0 (.seq (.region [⟨some 15, .mv (.t 7), none, []⟩, ⟨some 16, .bin false .neq (.t 15) (.c (.int .i64 0)), none, [0]⟩, ⟨some 14, .mv (.t 16), none, [1]⟩] false) (.cond (.t 14) (.seq (.region [⟨some 17, .mv (.t 7), none, []⟩, ⟨some 2, .mv (.c (.bool false)), none, []⟩, ⟨some 3, .mv (.c (.list true [])), none, [1, 1]⟩, ⟨some 4, .mv (.t 17), none, [0, 2, 0, 1, 2]⟩] false) .ret) (.seq (.region [⟨some 19, .mv (.t 5), none, []⟩, ⟨some 20, .bin false .gtr (.t 19) (.c (.int .i64 1)), none, [0]⟩, ⟨some 18, .mv (.t 20), none, [1]⟩] false) (.cond (.t 18) (.seq (.region [⟨some 2, .mv (.c (.bool false)), none, []⟩, ⟨some 3, .mv (.c (.list true [])), none, [0, 0]⟩, ⟨some 4, .mv (.c (.int .i64 2)), none, [1, 0, 1]⟩] false) .ret) .skip))))) (.seq (.region [⟨some 21, .mv (.t 5), none, []⟩, ⟨some 22, .bin false .eql (.t 21) (.c (.int .i64 1)), none, [0]⟩, ⟨some 23, .mv (.t 6), none, []⟩, ⟨some 2, .mv (.t 22), none, [1, 0, 1]⟩, ⟨some 3, .mv (.t 23), none, [2, 3, 0, 1, 2, 3]⟩, ⟨some 4, .mv (.c (.int .i64 0)), none, [4, 0, 1, 2, 3, 4]⟩] false) .ret)))⟩
theorem told211 : trFn seat 211 = some il211 := by kernel_rfl

def il212 : IFn := ⟨32, [.t 4, .t 5, .t 6], .seq (.region [⟨some 4, .mv (.c (.int .i64 0)), none, []⟩, ⟨some 5, .mv (.c (.list true [])), none, [0]⟩, ⟨some 6, .mv (.c (.int .i64 0)), none, [1]⟩] false) (.seq (.region [⟨some 9, .mv (.t 1), none, []⟩, ⟨some 10, .call (.f 226) [.t 9], none, [0]⟩, ⟨some 1, .mv (.t 10), none, [1, 1, 0, 1]⟩] false) (.seq (.seq (.region [⟨some 11, .mv (.t 0), none, []⟩, ⟨some 12, .len (.t 11), none, [0]⟩, ⟨some 13, .mv (.t 1), none, []⟩, ⟨some 14, .bin false .lss (.t 12) (.t 13), none, [1, 2]⟩] false) (.cond (.t 14) (.seq (.region [⟨some 4, .mv (.c (.int .i64 0)), none, []⟩, ⟨some 5, .mv (.c (.list true [])), none, [0, 0]⟩, ⟨some 6, .mv (.c (.int .i64 1)), none, [1, 0, 1]⟩] false) .ret) .skip)) (.seq (.region [⟨some 7, .mv (.c (.int .i64 0)), none, []⟩] false) (.seq (.seq (.region [⟨some 15, .mv (.t 1), none, []⟩, ⟨some 16, .mv (.c (.int .i64 0)), none, []⟩] false) (.block 0 (.loop (.seq (.region [⟨some 17, .bin false .lss (.t 16) (.t 15), none, []⟩] false) (.seq (.cond (.t 17) .skip (.exit 0)) (.seq (.block 1 (.seq (.region [⟨some 18, .mv (.t 16), none, []⟩, ⟨some 8, .mv (.t 18), none, [0, 0]⟩] false) (.region [⟨some 19, .mv (.t 7), none, []⟩, ⟨some 20, .bin false .shl (.t 19) (.c (.int .u64 8)), none, [0]⟩, ⟨some 21, .mv (.t 0), none, []⟩, ⟨some 22, .mv (.t 8), none, []⟩, ⟨some 23, .iaddr 1 (.t 21) (.t 22), none, [2, 3]⟩, ⟨some 24, .load false 1 (.t 23), none, [4]⟩, ⟨some 25, .convI .i64 (.t 24), none, [5]⟩, ⟨some 26, .bin false .or (.t 20) (.t 25), none, [1, 6]⟩, ⟨some 7, .mv (.t 26), none, [7, 0, 1, 2, 3, 4, 5, 6, 7]⟩] false))) (.region [⟨some 27, .bin false .add (.t 16) (.c (.int .i64 1)), none, []⟩, ⟨some 16, .mv (.t 27), none, [0]⟩] false))))))) (.seq (.region [⟨some 28, .mv (.t 7), none, []⟩, ⟨some 29, .mv (.t 0), none, []⟩, ⟨some 30, .mv (.t 1), none, []⟩, ⟨some 31, .slice 1 (.t 29) (some (.t 30)) none none, none, [1, 2]⟩, ⟨some 4, .mv (.t 28), none, [0, 0]⟩, ⟨some 5, .mv (.t 31), none, [3, 4, 0, 1, 2, 3, 4]⟩, ⟨some 6, .mv (.c (.int .i64 0)), none, [5, 0, 1, 2, 3, 4, 5]⟩] true) .ret)))))⟩
theorem told212 : trFn seat 212 = some il212 := by kernel_rfl

def il213 : IFn := ⟨41, [.cell 2 true 4, .t 3, .t 4], .seq (.region [⟨some 1, .box (.t 0), none, []⟩, ⟨some 2, .alloc [.list true [], .list true [], .int .i64 0, .list true []], none, []⟩, ⟨some 3, .mv (.c (.list true [])), none, []⟩, ⟨some 4, .mv (.c (.int .i64 0)), none, [2]⟩] false) (.seq (.region [⟨some 5, .alloc [.list true [], .list true [], .int .i64 0, .list true []], none, []⟩] false) (.seq (.region [⟨some 13, .mkfunc 227 [] [.t 1], none, []⟩, ⟨some 6, .alloc [.nilfunc], none, []⟩, ⟨none, .store 1 (.t 6) (.t 13), none, [1, 0, 0, 1]⟩] false) (.seq (.region [⟨some 14, .mkfunc 229 [] [.t 1, .t 5], none, []⟩, ⟨some 7, .mv (.t 14), none, [0, 0]⟩] false) (.seq (.region [⟨some 15, .mkfunc 230 [] [.t 5, .t 6], none, []⟩, ⟨some 8, .mv (.t 15), none, [0, 0]⟩] false) (.seq (.region [⟨some 16, .mkfunc 231 [] [.t 5], none, []⟩, ⟨some 9, .mv (.t 16), none, [0, 0]⟩] false) (.seq (.seq (.region [⟨some 17, .load false 1 (.t 6), none, []⟩, ⟨some 18, .faddr 0 (.t 5), none, []⟩, ⟨some 19, .call (.t 17) [.t 18], none, [0, 1]⟩, ⟨some 20, .load false 1 (.t 6), none, []⟩, ⟨some 21, .faddr 1 (.t 5), none, []⟩, ⟨some 22, .call (.t 20) [.t 21], none, [3, 4, 2]⟩, ⟨some 23, .mv (.t 7), none, []⟩, ⟨some 24, .mv (.t 8), none, []⟩, ⟨some 25, .mv (.t 9), none, []⟩, ⟨some 26, .bslice 1 5 .nilfunc [(0, (.t 19)), (1, (.t 22)), (2, (.t 23)), (3, (.t 24)), (4, (.t 25))], none, [2, 5, 6, 7, 8]⟩, ⟨some 27, .len (.t 26), none, [9]⟩, ⟨some 28, .mv (.c (.int .i64 0)), none, []⟩] true) (.block 0 (.loop (.seq (.region [⟨some 29, .bin false .lss (.t 28) (.t 27), none, []⟩] false) (.seq (.cond (.t 29) .skip (.exit 0)) (.seq (.block 1 (.seq (.region [⟨some 30, .iaddr 1 (.t 26) (.t 28), none, []⟩, ⟨some 31, .load false 1 (.t 30), none, [0]⟩, ⟨some 11, .mv (.t 31), none, [1, 0, 1]⟩] false) (.seq (.region [⟨some 32, .mv (.t 11), none, []⟩, ⟨some 33, .call (.t 32) [], none, [0]⟩, ⟨some 12, .mv (.t 33), none, [1, 1, 0, 1]⟩] false) (.seq (.region [⟨some 34, .mv (.t 12), none, []⟩, ⟨some 35, .bin false .neq (.t 34) (.c (.int .i64 0)), none, [0]⟩] false) (.cond (.t 35) (.seq (.region [⟨some 36, .build [.list true [], .list true [], .int .i64 0, .list true []] [], none, []⟩, ⟨some 37, .mv (.t 12), none, []⟩, ⟨none, .store 4 (.t 2) (.t 36), none, [0, 0]⟩, ⟨some 3, .mv (.c (.list true [])), none, [2, 0, 2]⟩, ⟨some 4, .mv (.t 37), none, [1, 3, 0, 1, 2, 3]⟩] false) .ret) .skip))))) (.region [⟨some 38, .bin false .add (.t 28) (.c (.int .i64 1)), none, []⟩, ⟨some 28, .mv (.t 38), none, [0]⟩] false))))))) (.seq (.region [⟨some 39, .load true 4 (.t 5), none, []⟩, ⟨some 40, .load false 1 (.t 1), none, []⟩, ⟨none, .store 4 (.t 2) (.t 39), none, [0, 0]⟩, ⟨some 3, .mv (.t 40), none, [1, 2, 0, 1, 2]⟩, ⟨some 4, .mv (.c (.int .i64 0)), none, [3, 0, 1, 2, 3]⟩] true) .ret)))))))⟩
theorem told213 : trFn seat 213 = some il213 := by kernel_rfl

def il214 : IFn := ⟨30, [.t 6], .seq (.region [⟨some 6, .mv (.c (.list true [])), none, []⟩] false) (.seq (.region [⟨some 9, .mv (.t 0), none, []⟩, ⟨some 10, .call (.f 196) [.t 9], none, [0]⟩, ⟨some 7, .mv (.t 10), none, [1, 1, 0, 1]⟩] false) (.seq (.region [⟨some 11, .mv (.t 2), none, []⟩, ⟨some 12, .call (.f 226) [.t 11], none, [0]⟩, ⟨some 2, .mv (.t 12), none, [1, 1, 0, 1]⟩] false) (.seq (.seq (.region [⟨some 13, .mv (.t 2), none, []⟩, ⟨some 14, .mv (.c (.int .i64 0)), none, []⟩] false) (.block 0 (.loop (.seq (.region [⟨some 15, .bin false .lss (.t 14) (.t 13), none, []⟩] false) (.seq (.cond (.t 15) .skip (.exit 0)) (.seq (.block 1 (.seq (.region [⟨some 16, .mv (.t 14), none, []⟩, ⟨some 8, .mv (.t 16), none, [0, 0]⟩] false) (.region [⟨some 17, .mv (.t 7), none, []⟩, ⟨some 18, .mv (.t 1), none, []⟩, ⟨some 19, .mv (.t 2), none, []⟩, ⟨some 20, .bin false .sub (.t 19) (.c (.int .i64 1)), none, [2]⟩, ⟨some 21, .mv (.t 8), none, []⟩, ⟨some 22, .bin false .sub (.t 20) (.t 21), none, [3, 4]⟩, ⟨some 23, .bin false .mul (.c (.int .i64 8)) (.t 22), none, [5]⟩, ⟨some 24, .bin false .shr (.t 18) (.t 23), none, [1, 6]⟩, ⟨some 25, .convI .u8 (.t 24), none, [7]⟩, ⟨some 26, .bslice 1 1 (.int .u8 0) [(0, (.t 25))], none, [8]⟩, ⟨some 27, .append 1 1 (.t 17) (.t 26), none, [0, 9]⟩, ⟨some 7, .mv (.t 27), none, [10, 10, 0, 1, 2, 3, 4, 5, 6, 7, 8, 9, 10]⟩] false))) (.region [⟨some 28, .bin false .add (.t 14) (.c (.int .i64 1)), none, []⟩, ⟨some 14, .mv (.t 28), none, [0]⟩] false))))))) (.seq (.region [⟨some 29, .mv (.t 7), none, []⟩, ⟨some 6, .mv (.t 29), none, [0, 0]⟩] false) .ret))))⟩
theorem told214 : trFn seat 214 = some il214 := by kernel_rfl

def il215 : IFn := ⟨53, [.t 2, .t 3, .t 4], .seq (.region [⟨some 2, .mv (.c (.int .i64 0)), none, []⟩, ⟨some 3, .mv (.c (.list true [])), none, [0]⟩, ⟨some 4, .mv (.c (.int .i64 0)), none, [1]⟩] false) (.seq (.seq (.region [⟨some 9, .mv (.t 0), none, []⟩, ⟨some 10, .len (.t 9), none, [0]⟩, ⟨some 11, .bin false .eql (.t 10) (.c (.int .i64 0)), none, [1]⟩] false) (.cond (.t 11) (.seq (.region [⟨some 2, .mv (.c (.int .i64 0)), none, []⟩, ⟨some 3, .mv (.c (.list true [])), none, [0, 0]⟩, ⟨some 4, .mv (.c (.int .i64 1)), none, [1, 0, 1]⟩] false) .ret) .skip)) (.seq (.region [⟨some 12, .build [.int .i64 0, .int .i64 0, .int .i64 0, .int .i64 0] [(0, (1, (.c (.int .i64 1)))), (1, (1, (.c (.int .i64 2)))), (2, (1, (.c (.int .i64 4)))), (3, (1, (.c (.int .i64 0))))], none, []⟩, ⟨some 13, .mv (.t 0), none, []⟩, ⟨some 14, .iaddr 1 (.t 13) (.c (.int .i64 0)), none, [1]⟩, ⟨some 15, .load false 1 (.t 14), none, [2]⟩, ⟨some 16, .bin false .quo (.t 15) (.c (.int .u8 64)), none, [3]⟩, ⟨some 17, .idxA false 4 1 (.t 12) (.t 16), none, [0, 4]⟩, ⟨some 5, .mv (.t 17), none, [5, 0, 1, 2, 3, 4, 5]⟩] false) (.seq (.block 0 (.seq (.region [⟨some 19, .mv (.t 5), none, []⟩, ⟨some 20, .bin false .eql (.t 19) (.c (.int .i64 0)), none, [0]⟩, ⟨some 18, .mv (.t 20), none, [1]⟩] false) (.cond (.t 18) (.seq (.region [⟨some 2, .mv (.c (.int .i64 0)), none, []⟩, ⟨some 3, .mv (.c (.list true [])), none, [0, 0]⟩, ⟨some 4, .mv (.c (.int .i64 2)), none, [1, 0, 1]⟩] false) .ret) (.seq (.region [⟨some 22, .mv (.t 0), none, []⟩, ⟨some 23, .len (.t 22), none, [0]⟩, ⟨some 24, .mv (.t 5), none, []⟩, ⟨some 25, .bin false .lss (.t 23) (.t 24), none, [1, 2]⟩, ⟨some 21, .mv (.t 25), none, [3]⟩] false) (.cond (.t 21) (.seq (.region [⟨some 2, .mv (.c (.int .i64 0)), none, []⟩, ⟨some 3, .mv (.c (.list true [])), none, [0, 0]⟩, ⟨some 4, .mv (.c (.int .i64 1)), none, [1, 0, 1]⟩] false) .ret) .skip))))) (.seq (.region [⟨some 26, .mv (.t 0), none, []⟩, ⟨some 27, .iaddr 1 (.t 26) (.c (.int .i64 0)), none, [0]⟩, ⟨some 28, .load false 1 (.t 27), none, [1]⟩, ⟨some 29, .bin false .rem (.t 28) (.c (.int .u8 64)), none, [2]⟩, ⟨some 30, .convI .i64 (.t 29), none, [3]⟩, ⟨some 6, .mv (.t 30), none, [4, 0, 1, 2, 3, 4]⟩] false) (.seq (.seq (.region [⟨some 31, .mv (.t 0), none, []⟩, ⟨some 32, .mv (.t 5), none, []⟩, ⟨some 33, .slice 1 (.t 31) (some (.c (.int .i64 1))) (some (.t 32)) none, none, [0, 1]⟩, ⟨some 34, .len (.t 33), none, [2]⟩, ⟨some 35, .mv (.c (.int .i64 0)), none, []⟩] false) (.block 1 (.loop (.seq (.region [⟨some 36, .bin false .lss (.t 35) (.t 34), none, []⟩] false) (.seq (.cond (.t 36) .skip (.exit 1)) (.seq (.block 2 (.seq (.region [⟨some 37, .iaddr 1 (.t 33) (.t 35), none, []⟩, ⟨some 38, .load false 1 (.t 37), none, [0]⟩, ⟨some 8, .mv (.t 38), none, [1, 0, 1]⟩] false) (.region [⟨some 39, .mv (.t 6), none, []⟩, ⟨some 40, .bin false .shl (.t 39) (.c (.int .u64 8)), none, [0]⟩, ⟨some 41, .mv (.t 8), none, []⟩, ⟨some 42, .convI .i64 (.t 41), none, [2]⟩, ⟨some 43, .bin false .or (.t 40) (.t 42), none, [1, 3]⟩, ⟨some 6, .mv (.t 43), none, [4, 0, 1, 2, 3, 4]⟩] false))) (.region [⟨some 44, .bin false .add (.t 35) (.c (.int .i64 1)), none, []⟩, ⟨some 35, .mv (.t 44), none, [0]⟩] false))))))) (.seq (.seq (.region [⟨some 45, .mv (.t 6), none, []⟩, ⟨some 46, .call (.f 232) [.t 45], none, [0]⟩, ⟨some 47, .mv (.t 5), none, []⟩, ⟨some 48, .bin false .neq (.t 46) (.t 47), none, [1, 2]⟩] false) (.cond (.t 48) (.seq (.region [⟨some 2, .mv (.c (.int .i64 0)), none, []⟩, ⟨some 3, .mv (.c (.list true [])), none, [0, 0]⟩, ⟨some 4, .mv (.c (.int .i64 2)), none, [1, 0, 1]⟩] false) .ret) .skip)) (.seq (.region [⟨some 49, .mv (.t 6), none, []⟩, ⟨some 50, .mv (.t 0), none, []⟩, ⟨some 51, .mv (.t 5), none, []⟩, ⟨some 52, .slice 1 (.t 50) (some (.t 51)) none none, none, [1, 2]⟩, ⟨some 2, .mv (.t 49), none, [0, 0]⟩, ⟨some 3, .mv (.t 52), none, [3, 4, 0, 1, 2, 3, 4]⟩, ⟨some 4, .mv (.c (.int .i64 0)), none, [5, 0, 1, 2, 3, 4, 5]⟩] true) .ret)))))))⟩
theorem told215 : trFn seat 215 = some il215 := by kernel_rfl

def il216 : IFn := ⟨9, [.t 4], .seq (.region [⟨some 2, .box (.t 0), none, []⟩, ⟨some 3, .box (.t 1), none, []⟩, ⟨some 4, .mv (.c .nilfunc), none, []⟩] false) (.seq (.seq (.region [⟨some 5, .load false 1 (.t 3), none, []⟩, ⟨some 6, .bin false .lss (.t 5) (.c (.int .i64 1)), none, [0]⟩] false) (.cond (.t 6) (.region [⟨some 7, .mkiface 9 (.c (.str [99, 97, 110, 110, 111, 116, 32, 98, 101, 32, 108, 101, 115, 115, 32, 116, 104, 97, 110, 32, 49])), none, []⟩, ⟨none, .pick (.c .undef) (.c .undef) (.c .undef), none, [0]⟩] false) .skip)) (.seq (.region [⟨some 8, .mkfunc 233 [] [.t 2, .t 3], none, []⟩, ⟨some 4, .mv (.t 8), none, [0, 0]⟩] false) .ret))⟩
theorem told216 : trFn seat 216 = some il216 := by kernel_rfl

def il217 : IFn := ⟨53, [.t 2, .t 3, .t 4], .seq (.region [⟨some 2, .mv (.c (.int .i64 0)), none, []⟩, ⟨some 3, .mv (.c (.list true [])), none, [0]⟩, ⟨some 4, .mv (.c (.int .i64 0)), none, [1]⟩] false) (.seq (.seq (.region [⟨some 8, .mv (.t 0), none, []⟩, ⟨some 9, .len (.t 8), none, [0]⟩, ⟨some 10, .bin false .eql (.t 9) (.c (.int .i64 0)), none, [1]⟩] false) (.cond (.t 10) (.seq (.region [⟨some 2, .mv (.c (.int .i64 0)), none, []⟩, ⟨some 3, .mv (.c (.list true [])), none, [0, 0]⟩, ⟨some 4, .mv (.c (.int .i64 1)), none, [1, 0, 1]⟩] false) .ret) .skip)) (.seq (.region [⟨some 5, .mv (.c (.int .i64 4)), none, []⟩] false) (.seq (.seq (.region [⟨some 11, .mv (.t 0), none, []⟩, ⟨some 12, .iaddr 1 (.t 11) (.c (.int .i64 0)), none, [0]⟩, ⟨some 13, .load false 1 (.t 12), none, [1]⟩, ⟨some 14, .bin false .lss (.t 13) (.c (.int .u8 64)), none, [2]⟩] false) (.cond (.t 14) (.region [⟨some 5, .mv (.c (.int .i64 1)), none, []⟩] false) (.seq (.region [⟨some 15, .mv (.t 0), none, []⟩, ⟨some 16, .iaddr 1 (.t 15) (.c (.int .i64 0)), none, [0]⟩, ⟨some 17, .load false 1 (.t 16), none, [1]⟩, ⟨some 18, .bin false .lss (.t 17) (.c (.int .u8 128)), none, [2]⟩] false) (.cond (.t 18) (.region [⟨some 5, .mv (.c (.int .i64 2)), none, []⟩] false) (.seq (.region [⟨some 19, .mv (.t 0), none, []⟩, ⟨some 20, .iaddr 1 (.t 19) (.c (.int .i64 0)), none, [0]⟩, ⟨some 21, .load false 1 (.t 20), none, [1]⟩, ⟨some 22, .bin false .geq (.t 21) (.c (.int .u8 192)), none, [2]⟩] false) (.cond (.t 22) (.seq (.region [⟨some 2, .mv (.c (.int .i64 0)), none, []⟩, ⟨some 3, .mv (.c (.list true [])), none, [0, 0]⟩, ⟨some 4, .mv (.c (.int .i64 2)), none, [1, 0, 1]⟩] false) .ret) .skip)))))) (.seq (.seq (.region [⟨some 23, .mv (.t 0), none, []⟩, ⟨some 24, .len (.t 23), none, [0]⟩, ⟨some 25, .mv (.t 5), none, []⟩, ⟨some 26, .bin false .lss (.t 24) (.t 25), none, [1, 2]⟩] false) (.cond (.t 26) (.seq (.region [⟨some 2, .mv (.c (.int .i64 0)), none, []⟩, ⟨some 3, .mv (.c (.list true [])), none, [0, 0]⟩, ⟨some 4, .mv (.c (.int .i64 1)), none, [1, 0, 1]⟩] false) .ret) .skip)) (.seq (.region [⟨some 27, .mv (.t 0), none, []⟩, ⟨some 28, .iaddr 1 (.t 27) (.c (.int .i64 0)), none, [0]⟩, ⟨some 29, .load false 1 (.t 28), none, [1]⟩, ⟨some 30, .convI .i64 (.t 29), none, [2]⟩, ⟨some 31, .bin false .rem (.t 30) (.c (.int .i64 64)), none, [3]⟩, ⟨some 6, .mv (.t 31), none, [4, 0, 1, 2, 3, 4]⟩] false) (.seq (.seq (.region [⟨some 7, .mv (.c (.int .i64 1)), none, []⟩] false) (.block 0 (.loop (.seq (.seq (.region [⟨some 32, .mv (.t 7), none, []⟩, ⟨some 33, .mv (.t 5), none, []⟩, ⟨some 34, .bin false .lss (.t 32) (.t 33), none, [0, 1]⟩] false) (.cond (.t 34) .skip (.exit 0))) (.seq (.block 1 (.region [⟨some 37, .mv (.t 6), none, []⟩, ⟨some 38, .bin false .mul (.t 37) (.c (.int .i64 256)), none, [0]⟩, ⟨some 39, .mv (.t 0), none, []⟩, ⟨some 40, .mv (.t 7), none, []⟩, ⟨some 41, .iaddr 1 (.t 39) (.t 40), none, [2, 3]⟩, ⟨some 42, .load false 1 (.t 41), none, [4]⟩, ⟨some 43, .convI .i64 (.t 42), none, [5]⟩, ⟨some 44, .bin false .add (.t 38) (.t 43), none, [1, 6]⟩, ⟨some 6, .mv (.t 44), none, [7, 0, 1, 2, 3, 4, 5, 6, 7]⟩] false)) (.region [⟨some 35, .mv (.t 7), none, []⟩, ⟨some 36, .bin false .add (.t 35) (.c (.int .i64 1)), none, [0]⟩, ⟨some 7, .mv (.t 36), none, [1, 0, 1]⟩] false)))))) (.seq (.seq (.region [⟨some 45, .mv (.t 6), none, []⟩, ⟨some 46, .call (.f 234) [.t 45], none, [0]⟩, ⟨some 47, .mv (.t 5), none, []⟩, ⟨some 48, .bin false .neq (.t 46) (.t 47), none, [1, 2]⟩] false) (.cond (.t 48) (.seq (.region [⟨some 2, .mv (.c (.int .i64 0)), none, []⟩, ⟨some 3, .mv (.c (.list true [])), none, [0, 0]⟩, ⟨some 4, .mv (.c (.int .i64 2)), none, [1, 0, 1]⟩] false) .ret) .skip)) (.seq (.region [⟨some 49, .mv (.t 6), none, []⟩, ⟨some 50, .mv (.t 0), none, []⟩, ⟨some 51, .mv (.t 5), none, []⟩, ⟨some 52, .slice 1 (.t 50) (some (.t 51)) none none, none, [1, 2]⟩, ⟨some 2, .mv (.t 49), none, [0, 0]⟩, ⟨some 3, .mv (.t 52), none, [3, 4, 0, 1, 2, 3, 4]⟩, ⟨some 4, .mv (.c (.int .i64 0)), none, [5, 0, 1, 2, 3, 4, 5]⟩] true) .ret))))))))⟩
theorem told217 : trFn seat 217 = some il217 := by kernel_rfl

def il218 : IFn := ⟨33, [.t 4, .t 5, .t 6], .seq (.region [⟨some 4, .mv (.c (.int .i64 0)), none, []⟩, ⟨some 5, .mv (.c (.list true [])), none, [0]⟩, ⟨some 6, .mv (.c (.int .i64 0)), none, [1]⟩] false) (.seq (.region [⟨some 10, .mv (.t 1), none, []⟩, ⟨some 11, .call (.f 235) [.t 10], none, [0]⟩, ⟨some 7, .mv (.t 11), none, [1, 1, 0, 1]⟩] false) (.seq (.seq (.region [⟨some 12, .mv (.t 0), none, []⟩, ⟨some 13, .len (.t 12), none, [0]⟩, ⟨some 14, .mv (.t 7), none, []⟩, ⟨some 15, .bin false .lss (.t 13) (.t 14), none, [1, 2]⟩] false) (.cond (.t 15) (.seq (.region [⟨some 4, .mv (.c (.int .i64 0)), none, []⟩, ⟨some 5, .mv (.c (.list true [])), none, [0, 0]⟩, ⟨some 6, .mv (.c (.int .i64 1)), none, [1, 0, 1]⟩] false) .ret) .skip)) (.seq (.region [⟨some 8, .mv (.c (.int .i64 0)), none, []⟩] false) (.seq (.seq (.region [⟨some 9, .mv (.c (.int .i64 0)), none, []⟩] false) (.block 0 (.loop (.seq (.seq (.region [⟨some 16, .mv (.t 9), none, []⟩, ⟨some 17, .mv (.t 7), none, []⟩, ⟨some 18, .bin false .lss (.t 16) (.t 17), none, [0, 1]⟩] false) (.cond (.t 18) .skip (.exit 0))) (.seq (.block 1 (.region [⟨some 21, .mv (.t 8), none, []⟩, ⟨some 22, .bin false .mul (.t 21) (.c (.int .i64 256)), none, [0]⟩, ⟨some 23, .mv (.t 0), none, []⟩, ⟨some 24, .mv (.t 9), none, []⟩, ⟨some 25, .iaddr 1 (.t 23) (.t 24), none, [2, 3]⟩, ⟨some 26, .load false 1 (.t 25), none, [4]⟩, ⟨some 27, .convI .i64 (.t 26), none, [5]⟩, ⟨some 28, .bin false .add (.t 22) (.t 27), none, [1, 6]⟩, ⟨some 8, .mv (.t 28), none, [7, 0, 1, 2, 3, 4, 5, 6, 7]⟩] false)) (.region [⟨some 19, .mv (.t 9), none, []⟩, ⟨some 20, .bin false .add (.t 19) (.c (.int .i64 1)), none, [0]⟩, ⟨some 9, .mv (.t 20), none, [1, 0, 1]⟩] false)))))) (.seq (.region [⟨some 29, .mv (.t 8), none, []⟩, ⟨some 30, .mv (.t 0), none, []⟩, ⟨some 31, .mv (.t 7), none, []⟩, ⟨some 32, .slice 1 (.t 30) (some (.t 31)) none none, none, [1, 2]⟩, ⟨some 4, .mv (.t 29), none, [0, 0]⟩, ⟨some 5, .mv (.t 32), none, [3, 4, 0, 1, 2, 3, 4]⟩, ⟨some 6, .mv (.c (.int .i64 0)), none, [5, 0, 1, 2, 3, 4, 5]⟩] true) .ret)))))⟩
theorem told218 : trFn seat 218 = some il218 := by kernel_rfl

def il219 : IFn := ⟨43, [.t 4], .seq (.region [⟨some 4, .mv (.c (.list true [])), none, []⟩] false) (.seq (.region [⟨some 7, .mv (.t 0), none, []⟩, ⟨some 8, .call (.f 196) [.t 7], none, [0]⟩, ⟨some 5, .mv (.t 8), none, [1, 1, 0, 1]⟩] false) (.seq (.region [⟨some 6, .mv (.c (.int .u8 0)), none, []⟩] false) (.seq (.seq (.region [⟨some 9, .mv (.t 1), none, []⟩, ⟨some 10, .call (.f 232) [.t 9], none, [0]⟩] false) (.block 0 (.seq (.block 3 (.seq (.block 2 (.seq (.block 1 (.seq (.seq (.seq (.region [⟨some 12, .bin false .eql (.t 10) (.c (.int .i64 4)), none, []⟩, ⟨some 11, .mv (.t 12), none, [0]⟩] false) (.cond (.t 11) (.exit 1) .skip)) (.seq (.seq (.region [⟨some 14, .bin false .eql (.t 10) (.c (.int .i64 2)), none, []⟩, ⟨some 13, .mv (.t 14), none, [0]⟩] false) (.cond (.t 13) (.exit 2) .skip)) (.seq (.region [⟨some 16, .bin false .eql (.t 10) (.c (.int .i64 1)), none, []⟩, ⟨some 15, .mv (.t 16), none, [0]⟩] false) (.cond (.t 15) (.exit 3) .skip)))) (.exit 0))) (.region [⟨some 17, .mv (.t 5), none, []⟩, ⟨some 18, .mv (.t 1), none, []⟩, ⟨some 19, .bin false .shr (.t 18) (.c (.int .u64 24)), none, [1]⟩, ⟨some 20, .convI .u8 (.t 19), none, [2]⟩, ⟨some 21, .bin false .add (.c (.int .u8 128)) (.t 20), none, [3]⟩, ⟨some 22, .mv (.t 1), none, []⟩, ⟨some 23, .bin false .shr (.t 22) (.c (.int .u64 16)), none, [5]⟩, ⟨some 24, .convI .u8 (.t 23), none, [6]⟩, ⟨some 25, .bslice 1 2 (.int .u8 0) [(0, (.t 21)), (1, (.t 24))], none, [4, 7]⟩, ⟨some 26, .append 1 1 (.t 17) (.t 25), none, [0, 8]⟩, ⟨some 5, .mv (.t 26), none, [9, 9, 0, 1, 2, 3, 4, 5, 6, 7, 8, 9]⟩] false))) (.seq (.seq (.region [⟨some 27, .mv (.t 1), none, []⟩, ⟨some 28, .bin false .lss (.t 27) (.c (.int .i64 16384)), none, [0]⟩] false) (.cond (.t 28) (.region [⟨some 6, .mv (.c (.int .u8 64)), none, []⟩] false) .skip)) (.region [⟨some 29, .mv (.t 5), none, []⟩, ⟨some 30, .mv (.t 6), none, []⟩, ⟨some 31, .mv (.t 1), none, []⟩, ⟨some 32, .bin false .shr (.t 31) (.c (.int .u64 8)), none, [2]⟩, ⟨some 33, .convI .u8 (.t 32), none, [3]⟩, ⟨some 34, .bin false .add (.t 30) (.t 33), none, [1, 4]⟩, ⟨some 35, .bslice 1 1 (.int .u8 0) [(0, (.t 34))], none, [5]⟩, ⟨some 36, .append 1 1 (.t 29) (.t 35), none, [0, 6]⟩, ⟨some 5, .mv (.t 36), none, [7, 7, 0, 1, 2, 3, 4, 5, 6, 7]⟩] false)))) (.seq (.region [⟨some 37, .mv (.t 5), none, []⟩, ⟨some 38, .mv (.t 1), none, []⟩, ⟨some 39, .convI .u8 (.t 38), none, [1]⟩, ⟨some 40, .bslice 1 1 (.int .u8 0) [(0, (.t 39))], none, [2]⟩, ⟨some 41, .append 1 1 (.t 37) (.t 40), none, [0, 3]⟩, ⟨some 5, .mv (.t 41), none, [4, 4, 0, 1, 2, 3, 4]⟩] false) (.exit 0))))) (.seq (.region [⟨some 42, .mv (.t 5), none, []⟩, ⟨some 4, .mv (.t 42), none, [0, 0]⟩] false) .ret))))⟩
theorem told219 : trFn seat 219 = some il219 := by kernel_rfl

def il220 : IFn := ⟨51, [.t 4], .seq (.region [⟨some 4, .mv (.c (.list true [])), none, []⟩] false) (.seq (.region [⟨some 6, .bslice 1 0 (.int .u8 0) [], none, []⟩, ⟨some 7, .mv (.t 0), none, []⟩, ⟨some 8, .append 1 1 (.t 6) (.t 7), none, [0, 1]⟩, ⟨some 5, .mv (.t 8), none, [2, 2, 0, 1, 2]⟩] false) (.seq (.seq (.region [⟨some 9, .mv (.t 1), none, []⟩, ⟨some 10, .call (.f 234) [.t 9], none, [0]⟩] false) (.block 0 (.seq (.region [⟨some 12, .bin false .eql (.t 10) (.c (.int .i64 1)), none, []⟩, ⟨some 11, .mv (.t 12), none, [0]⟩] false) (.cond (.t 11) (.region [⟨some 13, .mv (.t 5), none, []⟩, ⟨some 14, .mv (.t 1), none, []⟩, ⟨some 15, .convI .u8 (.t 14), none, [1]⟩, ⟨some 16, .bslice 1 1 (.int .u8 0) [(0, (.t 15))], none, [2]⟩, ⟨some 17, .append 1 1 (.t 13) (.t 16), none, [0, 3]⟩, ⟨some 5, .mv (.t 17), none, [4, 4, 0, 1, 2, 3, 4]⟩] false) (.seq (.region [⟨some 19, .bin false .eql (.t 10) (.c (.int .i64 2)), none, []⟩, ⟨some 18, .mv (.t 19), none, [0]⟩] false) (.cond (.t 18) (.region [⟨some 20, .mv (.t 5), none, []⟩, ⟨some 21, .mv (.t 1), none, []⟩, ⟨some 22, .bin false .quo (.t 21) (.c (.int .i64 256)), none, [1]⟩, ⟨some 23, .bin false .add (.c (.int .i64 64)) (.t 22), none, [2]⟩, ⟨some 24, .convI .u8 (.t 23), none, [3]⟩, ⟨some 25, .mv (.t 1), none, []⟩, ⟨some 26, .bin false .rem (.t 25) (.c (.int .i64 256)), none, [5]⟩, ⟨some 27, .convI .u8 (.t 26), none, [6]⟩, ⟨some 28, .bslice 1 2 (.int .u8 0) [(0, (.t 24)), (1, (.t 27))], none, [4, 7]⟩, ⟨some 29, .append 1 1 (.t 20) (.t 28), none, [0, 8]⟩, ⟨some 5, .mv (.t 29), none, [9, 9, 0, 1, 2, 3, 4, 5, 6, 7, 8, 9]⟩] false) (.seq (.region [⟨some 31, .bin false .eql (.t 10) (.c (.int .i64 4)), none, []⟩, ⟨some 30, .mv (.t 31), none, [0]⟩] false) (.cond (.t 30) (.region [⟨some 32, .mv (.t 5), none, []⟩, ⟨some 33, .mv (.t 1), none, []⟩, ⟨some 34, .bin false .quo (.t 33) (.c (.int .i64 16777216)), none, [1]⟩, ⟨some 35, .bin false .add (.c (.int .i64 128)) (.t 34), none, [2]⟩, ⟨some 36, .convI .u8 (.t 35), none, [3]⟩, ⟨some 37, .mv (.t 1), none, []⟩, ⟨some 38, .bin false .quo (.t 37) (.c (.int .i64 65536)), none, [5]⟩, ⟨some 39, .bin false .rem (.t 38) (.c (.int .i64 256)), none, [6]⟩, ⟨some 40, .convI .u8 (.t 39), none, [7]⟩, ⟨some 41, .mv (.t 1), none, []⟩, ⟨some 42, .bin false .quo (.t 41) (.c (.int .i64 256)), none, [9]⟩, ⟨some 43, .bin false .rem (.t 42) (.c (.int .i64 256)), none, [10]⟩, ⟨some 44, .convI .u8 (.t 43), none, [11]⟩, ⟨some 45, .mv (.t 1), none, []⟩, ⟨some 46, .bin false .rem (.t 45) (.c (.int .i64 256)), none, [13]⟩, ⟨some 47, .convI .u8 (.t 46), none, [14]⟩, ⟨some 48, .bslice 1 4 (.int .u8 0) [(0, (.t 36)), (1, (.t 40)), (2, (.t 44)), (3, (.t 47))], none, [4, 8, 12, 15]⟩, ⟨some 49, .append 1 1 (.t 32) (.t 48), none, [0, 16]⟩, ⟨some 5, .mv (.t 49), none, [17, 17, 0, 1, 2, 3, 4, 5, 6, 7, 8, 9, 10, 11, 12, 13, 14, 15, 16, 17]⟩] false) .skip)))))))) (.seq (.region [⟨some 50, .mv (.t 5), none, []⟩, ⟨some 4, .mv (.t 50), none, [0, 0]⟩] false) .ret)))⟩
theorem told220 : trFn seat 220 = some il220 := by kernel_rfl

def il221 : IFn := ⟨30, [.t 6], .seq (.region [⟨some 6, .mv (.c (.list true [])), none, []⟩] false) (.seq (.region [⟨some 9, .bslice 1 0 (.int .u8 0) [], none, []⟩, ⟨some 10, .mv (.t 0), none, []⟩, ⟨some 11, .append 1 1 (.t 9) (.t 10), none, [0, 1]⟩, ⟨some 7, .mv (.t 11), none, [2, 2, 0, 1, 2]⟩] false) (.seq (.seq (.region [⟨some 12, .mv (.t 2), none, []⟩, ⟨some 13, .call (.f 235) [.t 12], none, [0]⟩, ⟨some 14, .bin false .sub (.t 13) (.c (.int .i64 1)), none, [1]⟩, ⟨some 8, .mv (.t 14), none, [2, 1, 0, 1, 2]⟩] false) (.block 0 (.loop (.seq (.seq (.region [⟨some 15, .mv (.t 8), none, []⟩, ⟨some 16, .bin false .geq (.t 15) (.c (.int .i64 0)), none, [0]⟩] false) (.cond (.t 16) .skip (.exit 0))) (.seq (.block 1 (.region [⟨some 19, .mv (.t 7), none, []⟩, ⟨some 20, .mv (.t 1), none, []⟩, ⟨some 21, .mv (.t 8), none, []⟩, ⟨some 22, .bin false .mul (.c (.int .i64 8)) (.t 21), none, [2]⟩, ⟨some 23, .convI .u64 (.t 22), none, [3]⟩, ⟨some 24, .bin false .shr (.t 20) (.t 23), none, [1, 4]⟩, ⟨some 25, .bin false .and (.t 24) (.c (.int .i64 255)), none, [5]⟩, ⟨some 26, .convI .u8 (.t 25), none, [6]⟩, ⟨some 27, .bslice 1 1 (.int .u8 0) [(0, (.t 26))], none, [7]⟩, ⟨some 28, .append 1 1 (.t 19) (.t 27), none, [0, 8]⟩, ⟨some 7, .mv (.t 28), none, [9, 9, 0, 1, 2, 3, 4, 5, 6, 7, 8, 9]⟩] false)) (.region [⟨some 17, .mv (.t 8), none, []⟩, ⟨some 18, .bin false .sub (.t 17) (.c (.int .i64 1)), none, [0]⟩, ⟨some 8, .mv (.t 18), none, [1, 0, 1]⟩] false)))))) (.seq (.region [⟨some 29, .mv (.t 7), none, []⟩, ⟨some 6, .mv (.t 29), none, [0, 0]⟩] false) .ret)))⟩
theorem told221 : trFn seat 221 = some il221 := by kernel_rfl

def il222 : IFn := ⟨19, [.t 4], .seq (.region [⟨some 4, .mv (.c (.int .i64 0)), none, []⟩] false) (.seq (.seq (.region [⟨some 6, .mv (.t 0), none, []⟩, ⟨some 7, .len (.t 6), none, [0]⟩, ⟨some 8, .mv (.c (.int .i64 0)), none, []⟩] false) (.block 0 (.loop (.seq (.region [⟨some 9, .bin false .lss (.t 8) (.t 7), none, []⟩] false) (.seq (.cond (.t 9) .skip (.exit 0)) (.seq (.block 1 (.seq (.region [⟨some 10, .mv (.t 8), none, []⟩, ⟨some 5, .mv (.t 10), none, [0, 0]⟩] false) (.seq (.region [⟨some 11, .mv (.t 1), none, []⟩, ⟨some 12, .mv (.t 0), none, []⟩, ⟨some 13, .mv (.t 5), none, []⟩, ⟨some 14, .iaddr 1 (.t 12) (.t 13), none, [1, 2]⟩, ⟨some 15, .load false 1 (.t 14), none, [3]⟩, ⟨some 16, .bin false .eql (.t 11) (.t 15), none, [0, 4]⟩] false) (.cond (.t 16) (.seq (.region [⟨some 17, .mv (.t 5), none, []⟩, ⟨some 4, .mv (.t 17), none, [0, 0]⟩] false) .ret) .skip)))) (.region [⟨some 18, .bin false .add (.t 8) (.c (.int .i64 1)), none, []⟩, ⟨some 8, .mv (.t 18), none, [0]⟩] false))))))) (.seq (.region [⟨some 4, .mv (.c (.int .i64 (-1))), none, []⟩] false) .ret))⟩
theorem told222 : trFn seat 222 = some il222 := by kernel_rfl

def il223 : IFn := ⟨10, [.t 4], .seq (.region [⟨some 4, .mv (.c (.list true [])), none, []⟩] false) (.seq (.region [⟨some 5, .mv (.c (.int .i64 0)), none, []⟩] false) (.seq (.seq (.region [⟨some 6, .mv (.t 1), none, []⟩] false) (.cond (.t 6) (.region [⟨some 5, .mv (.c (.int .i64 1)), none, []⟩] false) .skip)) (.seq (.region [⟨some 7, .mv (.t 0), none, []⟩, ⟨some 8, .mv (.t 5), none, []⟩, ⟨some 9, .call (.f 214) [.t 7, .t 8, .c (.int .i64 1)], none, [0, 1]⟩, ⟨some 4, .mv (.t 9), none, [2, 2, 0, 1, 2]⟩] false) .ret)))⟩
theorem told223 : trFn seat 223 = some il223 := by kernel_rfl

def il224 : IFn := ⟨13, [.t 5], .seq (.region [⟨some 3, .box (.t 0), none, []⟩, ⟨some 5, .mv (.c (.list true [])), none, []⟩] false) (.seq (.region [⟨some 6, .load false 1 (.t 2), none, []⟩, ⟨some 7, .load true 8 (.t 3), none, []⟩, ⟨some 8, .mv (.t 1), none, []⟩, ⟨some 9, .faddr 0 (.t 3), none, []⟩, ⟨some 10, .load false 1 (.t 9), none, [3]⟩, ⟨some 11, .call (.f 214) [.t 8, .t 10, .c (.int .i64 1)], none, [2, 4]⟩, ⟨some 12, .call (.t 6) [.t 7, .t 11], none, [0, 1, 5, 5]⟩, ⟨some 5, .mv (.t 12), none, [6, 6, 0, 1, 2, 3, 4, 5, 6]⟩] true) .ret)⟩
theorem told224 : trFn seat 224 = some il224 := by kernel_rfl

def il225 : IFn := ⟨29, [.t 4], .seq (.region [⟨some 3, .box (.t 1), none, []⟩, ⟨some 4, .mv (.c (.list true [])), none, []⟩] false) (.seq (.seq (.region [⟨some 6, .load true 4 (.t 3), none, []⟩, ⟨some 7, .call (.f 146) [.t 6], none, [0]⟩, ⟨some 8, .bin false .neq (.t 7) (.c (.int .i64 0)), none, [1]⟩] false) (.cond (.t 8) (.seq (.region [⟨some 9, .mv (.t 0), none, []⟩, ⟨some 10, .call (.f 196) [.t 9], none, [0]⟩, ⟨some 4, .mv (.t 10), none, [1, 1, 0, 1]⟩] false) .ret) .skip)) (.seq (.region [⟨some 11, .mv (.t 0), none, []⟩, ⟨some 12, .faddr 0 (.t 3), none, []⟩, ⟨some 13, .load false 1 (.t 12), none, [1]⟩, ⟨some 14, .call (.f 198) [.t 11, .t 13], none, [0, 2]⟩, ⟨some 15, .faddr 1 (.t 3), none, []⟩, ⟨some 16, .load false 1 (.t 15), none, [4]⟩, ⟨some 17, .call (.f 198) [.t 14, .t 16], none, [3, 5, 3]⟩, ⟨some 18, .faddr 2 (.t 3), none, []⟩, ⟨some 19, .load false 1 (.t 18), none, [7]⟩, ⟨some 20, .call (.f 214) [.t 17, .t 19, .c (.int .i64 1)], none, [6, 8, 6]⟩, ⟨some 5, .mv (.t 20), none, [9, 9, 0, 1, 2, 3, 4, 5, 6, 7, 8, 9]⟩] true) (.seq (.seq (.region [⟨some 21, .faddr 2 (.t 3), none, []⟩, ⟨some 22, .load false 1 (.t 21), none, [0]⟩, ⟨some 23, .bin false .eql (.t 22) (.c (.int .i64 3)), none, [1]⟩] false) (.cond (.t 23) (.region [⟨some 24, .mv (.t 5), none, []⟩, ⟨some 25, .faddr 3 (.t 3), none, []⟩, ⟨some 26, .load false 1 (.t 25), none, [1]⟩, ⟨some 27, .call (.f 198) [.t 24, .t 26], none, [0, 2]⟩, ⟨some 5, .mv (.t 27), none, [3, 3, 0, 1, 2, 3]⟩] false) .skip)) (.seq (.region [⟨some 28, .mv (.t 5), none, []⟩, ⟨some 4, .mv (.t 28), none, [0, 0]⟩] false) .ret))))⟩
theorem told225 : trFn seat 225 = some il225 := by kernel_rfl

def il226 : IFn := ⟨6, [.t 2], .seq (.region [⟨some 2, .mv (.c (.int .i64 0)), none, []⟩] false) (.seq (.region [⟨some 3, .mv (.t 0), none, []⟩, ⟨some 4, .min [.t 3, .c (.int .i64 4)], none, [0]⟩, ⟨some 5, .max [.c (.int .i64 1), .t 4], none, [1]⟩, ⟨some 2, .mv (.t 5), none, [2, 0, 1, 2]⟩] false) .ret)⟩
theorem told226 : trFn seat 226 = some il226 := by kernel_rfl

def il227 : IFn := ⟨5, [.t 3], .seq (.region [⟨some 2, .box (.t 0), none, []⟩, ⟨some 3, .mv (.c .nilfunc), none, []⟩] false) (.seq (.region [⟨some 4, .mkfunc 228 [] [.t 1, .t 2], none, []⟩, ⟨some 3, .mv (.t 4), none, [0, 0]⟩] false) .ret)⟩
theorem told227 : trFn seat 227 = some il227 := by kernel_rfl

def il228 : IFn := ⟨12, [.t 2], .seq (.region [⟨some 2, .mv (.c (.int .i64 0)), none, []⟩] false) (.seq (.region [⟨some 4, .load false 1 (.t 1), none, []⟩, ⟨some 5, .load false 1 (.t 0), none, []⟩, ⟨some 6, .call (.f 192) [.t 5], none, [1]⟩, ⟨some 3, .mv (.t 6), none, [2]⟩, ⟨some 7, .extract (.t 3) 0, none, [3]⟩, ⟨some 8, .extract (.t 3) 1, none, [3]⟩, ⟨some 9, .extract (.t 3) 2, none, [3]⟩, ⟨some 10, .nilck (.t 4), none, [0, 0, 1, 2, 3, 4]⟩, ⟨none, .store 1 (.t 10) (.t 7), none, [7, 4, 2, 0, 1, 2, 3, 4]⟩, ⟨none, .store 1 (.t 0) (.t 8), none, [5, 8, 0, 1, 2, 3, 4, 5, 7, 8]⟩, ⟨some 2, .mv (.t 9), none, [6, 9, 0, 1, 2, 3, 4, 5, 6, 7, 8, 9]⟩] true) (.seq (.region [⟨some 11, .mv (.t 2), none, []⟩, ⟨some 2, .mv (.t 11), none, [0, 0]⟩] false) .ret))⟩
theorem told228 : trFn seat 228 = some il228 := by kernel_rfl

def il229 : IFn := ⟨19, [.t 2], .seq (.region [⟨some 2, .mv (.c (.int .i64 0)), none, []⟩] false) (.seq (.region [⟨some 4, .load false 1 (.t 0), none, []⟩, ⟨some 5, .call (.f 212) [.t 4, .c (.int .i64 1)], none, [0]⟩, ⟨some 3, .mv (.t 5), none, [1]⟩, ⟨some 6, .extract (.t 3) 0, none, [2]⟩, ⟨some 7, .extract (.t 3) 1, none, [2]⟩, ⟨some 8, .extract (.t 3) 2, none, [2]⟩, ⟨some 9, .faddr 2 (.t 1), none, [0, 1, 2, 3]⟩, ⟨none, .store 1 (.t 9) (.t 6), none, [6, 3, 1, 0, 1, 2, 3]⟩, ⟨none, .store 1 (.t 0) (.t 7), none, [4, 7, 0, 1, 2, 3, 4, 6, 7]⟩, ⟨some 2, .mv (.t 8), none, [5, 8, 0, 1, 2, 3, 4, 5, 6, 7, 8]⟩] false) (.seq (.seq (.region [⟨some 10, .mv (.t 2), none, []⟩, ⟨some 11, .bin false .eql (.t 10) (.c (.int .i64 0)), none, [0]⟩, ⟨some 12, .mv (.t 11), none, [1]⟩, ⟨some 13, .faddr 2 (.t 1), some (12, true), [2]⟩, ⟨some 14, .load false 1 (.t 13), some (12, true), [3, 2]⟩, ⟨some 15, .call (.f 160) [.t 14], some (12, true), [4, 2, 2]⟩, ⟨some 16, .un .not (.t 15), some (12, true), [5, 2]⟩, ⟨some 17, .pick (.t 12) (.t 16) (.c (.bool false)), none, [2, 6]⟩] false) (.cond (.t 17) (.seq (.region [⟨some 2, .mv (.c (.int .i64 7)), none, []⟩] false) .ret) .skip)) (.seq (.region [⟨some 18, .mv (.t 2), none, []⟩, ⟨some 2, .mv (.t 18), none, [0, 0]⟩] false) .ret)))⟩
theorem told229 : trFn seat 229 = some il229 := by kernel_rfl

def il230 : IFn := ⟨10, [.t 2], .seq (.region [⟨some 2, .mv (.c (.int .i64 0)), none, []⟩] false) (.seq (.seq (.region [⟨some 3, .faddr 2 (.t 0), none, []⟩, ⟨some 4, .load false 1 (.t 3), none, [0]⟩, ⟨some 5, .bin false .neq (.t 4) (.c (.int .i64 3)), none, [1]⟩] false) (.cond (.t 5) (.seq (.region [⟨some 2, .mv (.c (.int .i64 0)), none, []⟩] false) .ret) .skip)) (.seq (.region [⟨some 6, .load false 1 (.t 1), none, []⟩, ⟨some 7, .faddr 3 (.t 0), none, []⟩, ⟨some 8, .call (.t 6) [.t 7], none, [0, 1]⟩, ⟨some 9, .call (.t 8) [], none, [2, 2]⟩, ⟨some 2, .mv (.t 9), none, [3, 3, 0, 1, 2, 3]⟩] false) .ret))⟩
theorem told230 : trFn seat 230 = some il230 := by kernel_rfl

def il231 : IFn := ⟨4, [.t 1], .seq (.region [⟨some 1, .mv (.c (.int .i64 0)), none, []⟩] false) (.seq (.region [⟨some 2, .load true 4 (.t 0), none, []⟩, ⟨some 3, .call (.f 146) [.t 2], none, [0]⟩, ⟨some 1, .mv (.t 3), none, [1, 1, 0, 1]⟩] false) .ret)⟩
theorem told231 : trFn seat 231 = some il231 := by kernel_rfl

def il232 : IFn := ⟨16, [.t 2], .seq (.region [⟨some 2, .mv (.c (.int .i64 0)), none, []⟩] false) (.seq (.block 0 (.seq (.region [⟨some 4, .mv (.t 0), none, []⟩, ⟨some 5, .bin false .lss (.t 4) (.c (.int .i64 0)), none, [0]⟩, ⟨some 6, .mv (.t 5), none, [1]⟩, ⟨some 7, .mv (.t 0), some (6, false), [2]⟩, ⟨some 8, .bin false .gtr (.t 7) (.c (.int .i64 1073741823)), some (6, false), [3, 2]⟩, ⟨some 9, .pick (.t 6) (.c (.bool true)) (.t 8), none, [2, 4]⟩, ⟨some 3, .mv (.t 9), none, [5, 2]⟩] false) (.cond (.t 3) (.seq (.region [⟨some 2, .mv (.c (.int .i64 0)), none, []⟩] false) .ret) (.seq (.region [⟨some 11, .mv (.t 0), none, []⟩, ⟨some 12, .bin false .lss (.t 11) (.c (.int .i64 64)), none, [0]⟩, ⟨some 10, .mv (.t 12), none, [1]⟩] false) (.cond (.t 10) (.seq (.region [⟨some 2, .mv (.c (.int .i64 1)), none, []⟩] false) .ret) (.seq (.region [⟨some 14, .mv (.t 0), none, []⟩, ⟨some 15, .bin false .lss (.t 14) (.c (.int .i64 16384)), none, [0]⟩, ⟨some 13, .mv (.t 15), none, [1]⟩] false) (.cond (.t 13) (.seq (.region [⟨some 2, .mv (.c (.int .i64 2)), none, []⟩] false) .ret) .skip))))))) (.seq (.region [⟨some 2, .mv (.c (.int .i64 4)), none, []⟩] false) .ret))⟩
theorem told232 : trFn seat 232 = some il232 := by kernel_rfl

def il233 : IFn := ⟨31, [], .seq (.region [⟨some 4, .mv (.c (.int .i64 0)), none, []⟩] false) (.block 0 (.loop (.seq (.seq (.region [⟨some 6, .mv (.t 4), none, []⟩, ⟨some 7, .load false 1 (.t 1), none, []⟩, ⟨some 8, .len (.t 7), none, [1]⟩, ⟨some 9, .bin false .lss (.t 6) (.t 8), none, [0, 2]⟩] false) (.cond (.t 9) .skip (.exit 0))) (.seq (.block 1 (.seq (.region [⟨some 13, .load false 1 (.t 2), none, []⟩, ⟨some 14, .load false 1 (.t 1), none, []⟩, ⟨some 15, .mv (.t 4), none, []⟩, ⟨some 16, .slice 1 (.t 14) (some (.t 15)) none none, none, [1, 2]⟩, ⟨some 17, .len (.t 16), none, [3]⟩, ⟨some 18, .min [.t 13, .t 17], none, [0, 4]⟩, ⟨some 5, .mv (.t 18), none, [5, 0, 1, 2, 3, 4, 5]⟩] true) (.seq (.region [⟨some 19, .mv (.t 0), none, []⟩, ⟨some 20, .load false 1 (.t 1), none, []⟩, ⟨some 21, .mv (.t 4), none, []⟩, ⟨some 22, .mv (.t 4), none, []⟩, ⟨some 23, .mv (.t 5), none, []⟩, ⟨some 24, .bin false .add (.t 22) (.t 23), none, [3, 4]⟩, ⟨some 25, .mv (.t 4), none, []⟩, ⟨some 26, .mv (.t 5), none, []⟩, ⟨some 27, .bin false .add (.t 25) (.t 26), none, [6, 7]⟩, ⟨some 28, .slice 1 (.t 20) (some (.t 21)) (some (.t 24)) (some (.t 27)), none, [1, 2, 5, 8]⟩, ⟨some 29, .call (.t 19) [.t 28], none, [0, 9]⟩, ⟨some 30, .un .not (.t 29), none, [10]⟩] false) (.cond (.t 30) .ret .skip)))) (.region [⟨some 10, .mv (.t 4), none, []⟩, ⟨some 11, .load false 1 (.t 2), none, []⟩, ⟨some 12, .bin false .add (.t 10) (.t 11), none, [0, 1]⟩, ⟨some 4, .mv (.t 12), none, [2, 0, 1, 2]⟩] false)))))⟩
theorem told233 : trFn seat 233 = some il233 := by kernel_rfl

def il234 : IFn := ⟨16, [.t 2], .seq (.region [⟨some 2, .mv (.c (.int .i64 0)), none, []⟩] false) (.seq (.block 0 (.seq (.region [⟨some 4, .mv (.t 0), none, []⟩, ⟨some 5, .bin false .lss (.t 4) (.c (.int .i64 0)), none, [0]⟩, ⟨some 6, .mv (.t 5), none, [1]⟩, ⟨some 7, .mv (.t 0), some (6, false), [2]⟩, ⟨some 8, .bin false .gtr (.t 7) (.c (.int .i64 1073741823)), some (6, false), [3, 2]⟩, ⟨some 9, .pick (.t 6) (.c (.bool true)) (.t 8), none, [2, 4]⟩, ⟨some 3, .mv (.t 9), none, [5, 2]⟩] false) (.cond (.t 3) (.seq (.region [⟨some 2, .mv (.c (.int .i64 0)), none, []⟩] false) .ret) (.seq (.region [⟨some 11, .mv (.t 0), none, []⟩, ⟨some 12, .bin false .leq (.t 11) (.c (.int .i64 63)), none, [0]⟩, ⟨some 10, .mv (.t 12), none, [1]⟩] false) (.cond (.t 10) (.seq (.region [⟨some 2, .mv (.c (.int .i64 1)), none, []⟩] false) .ret) (.seq (.region [⟨some 14, .mv (.t 0), none, []⟩, ⟨some 15, .bin false .leq (.t 14) (.c (.int .i64 16383)), none, [0]⟩, ⟨some 13, .mv (.t 15), none, [1]⟩] false) (.cond (.t 13) (.seq (.region [⟨some 2, .mv (.c (.int .i64 2)), none, []⟩] false) .ret) .skip))))))) (.seq (.region [⟨some 2, .mv (.c (.int .i64 4)), none, []⟩] false) .ret))⟩
theorem told234 : trFn seat 234 = some il234 := by kernel_rfl

def il235 : IFn := ⟨6, [.t 2], .seq (.region [⟨some 2, .mv (.c (.int .i64 0)), none, []⟩] false) (.seq (.region [⟨some 3, .mv (.t 0), none, []⟩, ⟨some 4, .max [.t 3, .c (.int .i64 1)], none, [0]⟩, ⟨some 5, .min [.t 4, .c (.int .i64 4)], none, [1]⟩, ⟨some 2, .mv (.t 5), none, [2, 0, 1, 2]⟩] false) .ret)⟩
theorem told235 : trFn seat 235 = some il235 := by kernel_rfl

theorem cloneO_spec (b : List Int) (hl : b.length ≤ 4294967295) : FunOwn seat 196 [octs b] 1 (b.map (AV.int .u8)) := by
  refine FunOwn.of0W told196 (by simp [il196]) (by simp ) (encU8.xs_idb b) (wpc_sound ?_)
  simp only [il196, List.zipIdx_cons, List.zipIdx_nil, Nat.zero_add, go_sem, Nat.reduceEqDiff, reduceIte, Nat.reduceAdd, Nat.reduceLeDiff, Nat.reduceLT, Nat.reduceSub, octs]
  have app : ∀ r : List Int, r.length ≤ 4294967295 → ∃ v, evAppend [Entry.arr 1 0 (([] : List Int).map (AV.int .u8))] 1 1 (.own 0 0 0 ([] : List Int).length) (r.map (AV.int .u8)) = some (.own 0 v 0 r.length, [.arr 1 v (r.map (AV.int .u8))]) := by
    intro r hr
    obtain ⟨v, hv⟩ := encU8.app_any (H := [Entry.arr 1 0 (([] : List Int).map (AV.int .u8))]) (id := 0) (ver := 0) (l := []) (ys := r) (bytes := 1) rfl (by unfold maxRow; simp; omega) (by decide)
    exact ⟨v, by simpa [encU8] using hv⟩
  have hb : evBslice ([] : List Entry) 1 0 (.int .u8 0) [] = some (.own 0 0 0 0, [.arr 1 0 []]) := rfl
  cases b with
  | nil =>
    obtain ⟨v, hv⟩ := app [] (by simp)
    simp only [List.map_nil, List.length_nil] at hv
    simp only [List.map_nil, go_sem, Nat.reduceEqDiff, reduceIte, Nat.reduceAdd, Nat.reduceLeDiff, Nat.reduceLT, Nat.reduceSub, hv, hb]
    exact .inl ⟨0, v, rfl, rfl⟩
  | cons x r =>
    obtain ⟨v, hv⟩ := app (x :: r) hl
    simp only [List.map_nil, List.length_nil, List.map_cons, List.length_cons] at hv
    simp only [List.map_cons, go_sem, Nat.reduceEqDiff, reduceIte, Nat.reduceAdd, Nat.reduceLeDiff, Nat.reduceLT, Nat.reduceSub, hv, hb]
    exact .inl ⟨0, v, by simp, rfl⟩
noncomputable def r196 : Reg seat := .of told196 (ask1 (fun a0' => isO a0' ∧ (dO a0').length ≤ 4294967295) fun a0' => .own 1 ((dO a0').map (AV.int .u8))) (ask1_ok fun a0' h => SaidOk.own (FunOwn.weak (.cons (isO.weak h.1) .nil) (cloneO_spec _ h.2)) (by first | exact encU8.xs_idb _ | exact encI64.xs_idb _ | exact encNode.xs_idb _))
theorem r196_c : r196.c = 196 := rfl
open Classical in
theorem r196_ask (a0' : AV) : r196.ask [a0'] = if isO a0' ∧ (dO a0').length ≤ 4294967295 then some (Said.own 1 ((dO a0').map (AV.int .u8))) else none := by unfold r196 Reg.of ask1; exact ite_cl
theorem vsize_spec (n : Int) : Fun seat 232 [.int .i64 n] (.int .i64 (vsize n)) := by
  refine Fun.of0R [] told232 (by simp [il232]) (by simp [idb_patchA]) (by simp [idb_patchA]) 4 ?_
  simp only [il232, List.zipIdx_cons, List.zipIdx_nil, leafA, innerA, nodeA, patchA, Leaf.cells, Inner.cells, Node.cells, go_sem, Nat.reduceEqDiff, reduceIte, Nat.reduceAdd, Nat.reduceLeDiff, Nat.reduceLT, Nat.reduceSub]
  iterate 12 ((all_goals intros); (all_goals try refine And.intro ?_ ?_))
  all_goals first | (show WP _ _ _ _ _ _ _) | grind [vsize]
noncomputable def r232 : Reg seat := .of told232 (ask1 (fun a0' => isI a0') fun a0' => .fn (.int .i64 (vsize (dI a0')))) (ask1_ok fun a0' h => SaidOk.fn (Fun.weak (.cons (isI.weak h) .nil) (vsize_spec _)))
theorem r232_c : r232.c = 232 := rfl
open Classical in
theorem r232_ask (a0' : AV) : r232.ask [a0'] = if isI a0' then some (Said.fn (.int .i64 (vsize (dI a0')))) else none := by unfold r232 Reg.of ask1; exact ite_cl
theorem refVsize_spec (n : Int) : Fun seat 234 [.int .i64 n] (.int .i64 (vsize n)) := by
  refine Fun.of0R [] told234 (by simp [il234]) (by simp [idb_patchA]) (by simp [idb_patchA]) 4 ?_
  simp only [il234, List.zipIdx_cons, List.zipIdx_nil, leafA, innerA, nodeA, patchA, Leaf.cells, Inner.cells, Node.cells, go_sem, Nat.reduceEqDiff, reduceIte, Nat.reduceAdd, Nat.reduceLeDiff, Nat.reduceLT, Nat.reduceSub]
  iterate 12 ((all_goals intros); (all_goals try refine And.intro ?_ ?_))
  all_goals first | (show WP _ _ _ _ _ _ _) | grind [vsize]
noncomputable def r234 : Reg seat := .of told234 (ask1 (fun a0' => isI a0') fun a0' => .fn (.int .i64 (vsize (dI a0')))) (ask1_ok fun a0' h => SaidOk.fn (Fun.weak (.cons (isI.weak h) .nil) (refVsize_spec _)))
theorem r234_c : r234.c = 234 := rfl
open Classical in
theorem r234_ask (a0' : AV) : r234.ask [a0'] = if isI a0' then some (Said.fn (.int .i64 (vsize (dI a0')))) else none := by unfold r234 Reg.of ask1; exact ite_cl
theorem count_spec (k : Int) : Fun seat 226 [.int .i64 k] (.int .i64 (clampK k)) := by
  refine Fun.of0R [] told226 (by simp [il226]) (by simp [idb_patchA]) (by simp [idb_patchA]) 4 ?_
  simp only [il226, List.zipIdx_cons, List.zipIdx_nil, leafA, innerA, nodeA, patchA, Leaf.cells, Inner.cells, Node.cells, go_sem, Nat.reduceEqDiff, reduceIte, Nat.reduceAdd, Nat.reduceLeDiff, Nat.reduceLT, Nat.reduceSub]
  iterate 12 ((all_goals intros); (all_goals try refine And.intro ?_ ?_))
  all_goals first | (show WP _ _ _ _ _ _ _) | grind [clampK]
noncomputable def r226 : Reg seat := .of told226 (ask1 (fun a0' => isI a0') fun a0' => .fn (.int .i64 (clampK (dI a0')))) (ask1_ok fun a0' h => SaidOk.fn (Fun.weak (.cons (isI.weak h) .nil) (count_spec _)))
theorem r226_c : r226.c = 226 := rfl
open Classical in
theorem r226_ask (a0' : AV) : r226.ask [a0'] = if isI a0' then some (Said.fn (.int .i64 (clampK (dI a0')))) else none := by unfold r226 Reg.of ask1; exact ite_cl
theorem refCount_spec (k : Int) : Fun seat 235 [.int .i64 k] (.int .i64 (clampK k)) := by
  refine Fun.of0R [] told235 (by simp [il235]) (by simp [idb_patchA]) (by simp [idb_patchA]) 4 ?_
  simp only [il235, List.zipIdx_cons, List.zipIdx_nil, leafA, innerA, nodeA, patchA, Leaf.cells, Inner.cells, Node.cells, go_sem, Nat.reduceEqDiff, reduceIte, Nat.reduceAdd, Nat.reduceLeDiff, Nat.reduceLT, Nat.reduceSub]
  iterate 12 ((all_goals intros); (all_goals try refine And.intro ?_ ?_))
  all_goals first | (show WP _ _ _ _ _ _ _) | grind [clampK]
noncomputable def r235 : Reg seat := .of told235 (ask1 (fun a0' => isI a0') fun a0' => .fn (.int .i64 (clampK (dI a0')))) (ask1_ok fun a0' h => SaidOk.fn (Fun.weak (.cons (isI.weak h) .nil) (refCount_spec _)))
theorem r235_c : r235.c = 235 := rfl
open Classical in
theorem r235_ask (a0' : AV) : r235.ask [a0'] = if isI a0' then some (Said.fn (.int .i64 (clampK (dI a0')))) else none := by unfold r235 Reg.of ask1; exact ite_cl
theorem appO2 {H : List Entry} {id ver : Nat} {l : List Int} {x y : Int} (h : H[id]? = some (.arr 1 ver (l.map (AV.int .u8)))) (hl : l.length + 2 ≤ maxRow) :
    evAppend H 1 1 (.own id ver 0 l.length) [.int .u8 x, .int .u8 y] = some (.own id (ver + 1) 0 (l ++ [x, y]).length, H.set id (.arr 1 (ver + 1) ((l ++ [x, y]).map (AV.int .u8)))) := encU8.app_owns (ys := [x, y]) h hl (by decide) (by simp)
theorem appO4 {H : List Entry} {id ver : Nat} {l : List Int} {x y z w : Int} (h : H[id]? = some (.arr 1 ver (l.map (AV.int .u8)))) (hl : l.length + 4 ≤ maxRow) :
    evAppend H 1 1 (.own id ver 0 l.length) [.int .u8 x, .int .u8 y, .int .u8 z, .int .u8 w] = some (.own id (ver + 1) 0 (l ++ [x, y, z, w]).length, H.set id (.arr 1 (ver + 1) ((l ++ [x, y, z, w]).map (AV.int .u8)))) := encU8.app_owns (ys := [x, y, z, w]) h hl (by decide) (by simp)

theorem shr8 (n : Int) : evShift .shr .i64 n 8 = some (.int .i64 (n / 256)) := by
  show some (AV.int .i64 (n.fdiv 256)) = _
  rw [Int.fdiv_eq_ediv_of_nonneg _ (by decide)]
theorem shr16 (n : Int) : evShift .shr .i64 n 16 = some (.int .i64 (n / 65536)) := by
  show some (AV.int .i64 (n.fdiv 65536)) = _
  rw [Int.fdiv_eq_ediv_of_nonneg _ (by decide)]
theorem shr24 (n : Int) : evShift .shr .i64 n 24 = some (.int .i64 (n / 16777216)) := by
  show some (AV.int .i64 (n.fdiv 16777216)) = _
  rw [Int.fdiv_eq_ediv_of_nonneg _ (by decide)]

theorem bs2 (H : List Entry) (x y : Int) : evBslice H 1 2 (.int .u8 0) [(0, .int .u8 x), (1, .int .u8 y)] = some (.own H.length 0 0 2, H ++ [.arr 1 0 [.int .u8 x, .int .u8 y]]) := rfl
theorem seen4 (e : Entry) (x y z w : AV) : seen [e, .arr 1 0 [x, y, z, w]] (.own 1 0 0 4) = some [x, y, z, w] := rfl
theorem bs4 (H : List Entry) (x y z w : Int) : evBslice H 1 4 (.int .u8 0) [(0, .int .u8 x), (1, .int .u8 y), (2, .int .u8 z), (3, .int .u8 w)] = some (.own H.length 0 0 4, H ++ [.arr 1 0 [.int .u8 x, .int .u8 y, .int .u8 z, .int .u8 w]]) := rfl

set_option maxHeartbeats 1000000 in
theorem vput_spec (b : List Int) (n : Int) (hl : b.length ≤ 4294960000) : FunOwn seat 219 [octs b, .int .i64 n] 1 ((b ++ vput n).map (AV.int .u8)) := by
  have hl' : b.length ≤ 4294967295 := by omega
  have m1 : b.length + 1 ≤ maxRow := by unfold maxRow; omega
  have m2 : b.length + 2 ≤ maxRow := by unfold maxRow; omega
  have m3 : ∀ x : Int, (b ++ [x]).length + 1 ≤ maxRow := fun x => by unfold maxRow; simp; omega
  have m4 : ∀ x y : Int, (b ++ [x, y]).length + 1 ≤ maxRow := fun x y => by unfold maxRow; simp; omega
  have m5 : ∀ x y z : Int, (b ++ [x, y] ++ [z]).length + 1 ≤ maxRow := fun x y z => by unfold maxRow; simp; omega
  by_cases h0 : n < 0 ∨ n > 1073741823
  · have s : vsize n = 0 := by unfold vsize; rw [if_pos h0]
    have e : vput n = [] := by unfold vput; rw [if_pos h0]
    rw [e, List.append_nil]
    refine FunOwn.of0R [r196, r232] told219 (by simp [il219]) (by simp [idb_patchA]) (by first | exact encI64.xs_idb _ | exact encU8.xs_idb _ | exact encNode.xs_idb _) ?_
    simp -implicitDefEqProofs only [il219, List.zipIdx_cons, List.zipIdx_nil, leafA, innerA, nodeA, patchA, Leaf.cells, Inner.cells, Node.cells, r196_c, r196_ask, r232_c, r232_ask, decide_true, decide_false, hl', s, shr8, shr16, shr24, Int.reduceEq, go_sem, Nat.reduceEqDiff, reduceIte, Nat.reduceAdd, Nat.reduceLeDiff, Nat.reduceLT, Nat.reduceSub]
    exact ⟨0, _, rfl, rfl⟩
  by_cases h1 : n < 64
  · have s : vsize n = 1 := by unfold vsize; rw [if_neg h0, if_pos h1]
    have e : vput n = [n] := by unfold vput; rw [if_neg h0, if_pos h1]
    rw [e]
    have w0 : IntKind.u8.wrap n = n := by rw [wrapU8]; omega
    refine FunOwn.of0R [r196, r232] told219 (by simp [il219]) (by simp [idb_patchA]) (by first | exact encI64.xs_idb _ | exact encU8.xs_idb _ | exact encNode.xs_idb _) ?_
    simp -implicitDefEqProofs only [il219, List.zipIdx_cons, List.zipIdx_nil, leafA, innerA, nodeA, patchA, Leaf.cells, Inner.cells, Node.cells, r196_c, r196_ask, r232_c, r232_ask, decide_true, decide_false, hl', s, m1, w0, shr8, shr16, shr24, Int.reduceEq, go_sem, Nat.reduceEqDiff, reduceIte, Nat.reduceAdd, Nat.reduceLeDiff, Nat.reduceLT, Nat.reduceSub]
    exact ⟨0, _, rfl, rfl⟩
  by_cases h2 : n < 16384
  · have s : vsize n = 2 := by unfold vsize; rw [if_neg h0, if_neg h1, if_pos h2]
    have e : vput n = [64 + n / 256, n % 256] := by unfold vput; rw [if_neg h0, if_neg h1, if_pos h2]
    rw [e]
    have w0 : IntKind.u8.wrap n = n % 256 := by rw [wrapU8]
    have w1 : IntKind.u8.wrap (n / 256) = n / 256 := by rw [wrapU8]; omega
    have w2 : IntKind.u8.wrap (64 + n / 256) = 64 + n / 256 := by rw [wrapU8]; omega
    refine FunOwn.of0R [r196, r232] told219 (by simp [il219]) (by simp [idb_patchA]) (by first | exact encI64.xs_idb _ | exact encU8.xs_idb _ | exact encNode.xs_idb _) ?_
    simp -implicitDefEqProofs only [il219, List.zipIdx_cons, List.zipIdx_nil, leafA, innerA, nodeA, patchA, Leaf.cells, Inner.cells, Node.cells, r196_c, r196_ask, r232_c, r232_ask, decide_true, decide_false, hl', s, m1, m3, w0, w1, w2, h2, shr8, shr16, shr24, Int.reduceEq, go_sem, Nat.reduceEqDiff, reduceIte, Nat.reduceAdd, Nat.reduceLeDiff, Nat.reduceLT, Nat.reduceSub]
    exact ⟨0, 2, by simp, by simp⟩
  · have s : vsize n = 4 := by unfold vsize; rw [if_neg h0, if_neg h1, if_neg h2]
    have e : vput n = [128 + n / 16777216, n / 65536 % 256, n / 256 % 256, n % 256] := by unfold vput; rw [if_neg h0, if_neg h1, if_neg h2]
    rw [e]
    have w0 : IntKind.u8.wrap n = n % 256 := by rw [wrapU8]
    have w1 : IntKind.u8.wrap (n / 16777216) = n / 16777216 := by rw [wrapU8]; omega
    have w2 : IntKind.u8.wrap (128 + n / 16777216) = 128 + n / 16777216 := by rw [wrapU8]; omega
    have w3 : IntKind.u8.wrap (n / 65536) = n / 65536 % 256 := by rw [wrapU8]
    have w4 : IntKind.u8.wrap (n / 256) = n / 256 % 256 := by rw [wrapU8]
    have w5 : IntKind.u8.wrap (0 + n / 256 % 256) = n / 256 % 256 := by rw [wrapU8]; omega
    refine FunOwn.of0R [r196, r232] told219 (by simp [il219]) (by simp [idb_patchA]) (by first | exact encI64.xs_idb _ | exact encU8.xs_idb _ | exact encNode.xs_idb _) ?_
    simp -implicitDefEqProofs only [il219, List.zipIdx_cons, List.zipIdx_nil, leafA, innerA, nodeA, patchA, Leaf.cells, Inner.cells, Node.cells, r196_c, r196_ask, r232_c, r232_ask, decide_true, decide_false, hl', s, m1, m2, m4, m5, w0, w1, w2, w3, w4, w5, h2, bs2, appO2, shr8, shr16, shr24, Int.reduceEq, go_sem, Nat.reduceEqDiff, reduceIte, Nat.reduceAdd, Nat.reduceLeDiff, Nat.reduceLT, Nat.reduceSub]
    exact ⟨0, 3, by simp, by simp⟩
noncomputable def r219 : Reg seat := .of told219 (ask2 (fun a0' a1' => isO a0' ∧ isI a1' ∧ (dO a0').length ≤ 4294960000) fun a0' a1' => .own 1 (((dO a0') ++ vput (dI a1')).map (AV.int .u8))) (ask2_ok fun a0' a1' h => SaidOk.own (FunOwn.weak (.cons (isO.weak h.1) (.cons (isI.weak h.2.1) .nil)) (vput_spec _ _ h.2.2)) (by first | exact encU8.xs_idb _ | exact encI64.xs_idb _ | exact encNode.xs_idb _))
theorem r219_c : r219.c = 219 := rfl
open Classical in
theorem r219_ask (a0' a1' : AV) : r219.ask [a0', a1'] = if isO a0' ∧ isI a1' ∧ (dO a0').length ≤ 4294960000 then some (Said.own 1 (((dO a0') ++ vput (dI a1')).map (AV.int .u8))) else none := by unfold r219 Reg.of ask2; exact ite_cl

set_option maxHeartbeats 1000000 in
theorem refVput_spec (b : List Int) (n : Int) (hl : b.length ≤ 4294960000) : FunOwn seat 220 [octs b, .int .i64 n] 1 ((b ++ vput n).map (AV.int .u8)) := by
  have m1 : b.length + 1 ≤ maxRow := by unfold maxRow; omega
  have m2 : b.length + 2 ≤ maxRow := by unfold maxRow; omega
  have m4 : b.length + 4 ≤ maxRow := by unfold maxRow; omega
  have cl : ∃ v, evAppend [Entry.arr 1 0 []] 1 1 (.own 0 0 0 0) (b.map (AV.int .u8)) = some (.own 0 v 0 b.length, [.arr 1 v (b.map (AV.int .u8))]) := by
    obtain ⟨v, hv⟩ := encU8.app_any (H := [Entry.arr 1 0 (([] : List Int).map (AV.int .u8))]) (id := 0) (ver := 0) (l := []) (ys := b) (bytes := 1) rfl (by unfold maxRow; simp; omega) (by decide)
    exact ⟨v, by simpa [encU8] using hv⟩
  obtain ⟨v, cl⟩ := cl
  have hb : evBslice ([] : List Entry) 1 0 (.int .u8 0) [] = some (.own 0 0 0 0, [.arr 1 0 []]) := rfl
  by_cases h0 : n < 0 ∨ n > 1073741823
  · have s : vsize n = 0 := by unfold vsize; rw [if_pos h0]
    have e : vput n = [] := by unfold vput; rw [if_pos h0]
    rw [e, List.append_nil]
    refine FunOwn.of0R [r234] told220 (by simp [il220]) (by simp [idb_patchA]) (by first | exact encI64.xs_idb _ | exact encU8.xs_idb _ | exact encNode.xs_idb _) ?_
    simp -implicitDefEqProofs only [il220, List.zipIdx_cons, List.zipIdx_nil, leafA, innerA, nodeA, patchA, Leaf.cells, Inner.cells, Node.cells, r234_c, r234_ask, decide_true, decide_false, hb, cl, s, Int.reduceEq, go_sem, Nat.reduceEqDiff, reduceIte, Nat.reduceAdd, Nat.reduceLeDiff, Nat.reduceLT, Nat.reduceSub]
    exact ⟨0, _, rfl, rfl⟩
  by_cases h1 : n < 64
  · have s : vsize n = 1 := by unfold vsize; rw [if_neg h0, if_pos h1]
    have e : vput n = [n] := by unfold vput; rw [if_neg h0, if_pos h1]
    rw [e]
    have w0 : IntKind.u8.wrap n = n := by rw [wrapU8]; omega
    refine FunOwn.of0R [r234] told220 (by simp [il220]) (by simp [idb_patchA]) (by first | exact encI64.xs_idb _ | exact encU8.xs_idb _ | exact encNode.xs_idb _) ?_
    simp -implicitDefEqProofs only [il220, List.zipIdx_cons, List.zipIdx_nil, leafA, innerA, nodeA, patchA, Leaf.cells, Inner.cells, Node.cells, r234_c, r234_ask, decide_true, decide_false, hb, cl, s, m1, w0, Int.reduceEq, go_sem, Nat.reduceEqDiff, reduceIte, Nat.reduceAdd, Nat.reduceLeDiff, Nat.reduceLT, Nat.reduceSub]
    exact ⟨0, _, rfl, rfl⟩
  have q1 : IntKind.i64.wrap (n.tdiv 256) = n / 256 := by rw [Int.tdiv_eq_ediv_of_nonneg (by omega), wrap64 _ (by omega) (by omega)]
  have q2 : IntKind.i64.wrap (n.tdiv 65536) = n / 65536 := by rw [Int.tdiv_eq_ediv_of_nonneg (by omega), wrap64 _ (by omega) (by omega)]
  have q3 : IntKind.i64.wrap (n.tdiv 16777216) = n / 16777216 := by rw [Int.tdiv_eq_ediv_of_nonneg (by omega), wrap64 _ (by omega) (by omega)]
  have t1 : n.tmod 256 = n % 256 := Int.tmod_eq_emod_of_nonneg (by omega)
  have t2 : (n / 65536).tmod 256 = n / 65536 % 256 := Int.tmod_eq_emod_of_nonneg (by omega)
  have t3 : (n / 256).tmod 256 = n / 256 % 256 := Int.tmod_eq_emod_of_nonneg (by omega)
  have u1 : ∀ x : Int, IntKind.u8.wrap (x % 256) = x % 256 := fun x => by rw [wrapU8]; omega
  by_cases h2 : n < 16384
  · have s : vsize n = 2 := by unfold vsize; rw [if_neg h0, if_neg h1, if_pos h2]
    have e : vput n = [64 + n / 256, n % 256] := by unfold vput; rw [if_neg h0, if_neg h1, if_pos h2]
    rw [e]
    have w1 : IntKind.i64.wrap (64 + n / 256) = 64 + n / 256 := wrap64 _ (by omega) (by omega)
    have w2 : IntKind.u8.wrap (64 + n / 256) = 64 + n / 256 := by rw [wrapU8]; omega
    refine FunOwn.of0R [r234] told220 (by simp [il220]) (by simp [idb_patchA]) (by first | exact encI64.xs_idb _ | exact encU8.xs_idb _ | exact encNode.xs_idb _) ?_
    simp -implicitDefEqProofs only [il220, List.zipIdx_cons, List.zipIdx_nil, leafA, innerA, nodeA, patchA, Leaf.cells, Inner.cells, Node.cells, r234_c, r234_ask, decide_true, decide_false, hb, cl, s, m2, w1, w2, q1, t1, u1, bs2, appO2, Int.reduceEq, go_sem, Nat.reduceEqDiff, reduceIte, Nat.reduceAdd, Nat.reduceLeDiff, Nat.reduceLT, Nat.reduceSub]
    exact ⟨0, _, rfl, rfl⟩
  · have s : vsize n = 4 := by unfold vsize; rw [if_neg h0, if_neg h1, if_neg h2]
    have e : vput n = [128 + n / 16777216, n / 65536 % 256, n / 256 % 256, n % 256] := by unfold vput; rw [if_neg h0, if_neg h1, if_neg h2]
    rw [e]
    have w1 : IntKind.i64.wrap (128 + n / 16777216) = 128 + n / 16777216 := wrap64 _ (by omega) (by omega)
    have w2 : IntKind.u8.wrap (128 + n / 16777216) = 128 + n / 16777216 := by rw [wrapU8]; omega
    refine FunOwn.of0R [r234] told220 (by simp [il220]) (by simp [idb_patchA]) (by first | exact encI64.xs_idb _ | exact encU8.xs_idb _ | exact encNode.xs_idb _) ?_
    simp -implicitDefEqProofs only [il220, List.zipIdx_cons, List.zipIdx_nil, leafA, innerA, nodeA, patchA, Leaf.cells, Inner.cells, Node.cells, r234_c, r234_ask, decide_true, decide_false, hb, cl, s, m4, w1, w2, q1, q2, q3, t1, t2, t3, u1, bs4, seen4, appO4, Int.reduceEq, go_sem, Nat.reduceEqDiff, reduceIte, Nat.reduceAdd, Nat.reduceLeDiff, Nat.reduceLT, Nat.reduceSub]
    exact ⟨0, _, rfl, rfl⟩
noncomputable def r220 : Reg seat := .of told220 (ask2 (fun a0' a1' => isO a0' ∧ isI a1' ∧ (dO a0').length ≤ 4294960000) fun a0' a1' => .own 1 (((dO a0') ++ vput (dI a1')).map (AV.int .u8))) (ask2_ok fun a0' a1' h => SaidOk.own (FunOwn.weak (.cons (isO.weak h.1) (.cons (isI.weak h.2.1) .nil)) (refVput_spec _ _ h.2.2)) (by first | exact encU8.xs_idb _ | exact encI64.xs_idb _ | exact encNode.xs_idb _))
theorem r220_c : r220.c = 220 := rfl
open Classical in
theorem r220_ask (a0' a1' : AV) : r220.ask [a0', a1'] = if isO a0' ∧ isI a1' ∧ (dO a0').length ≤ 4294960000 then some (Said.own 1 (((dO a0') ++ vput (dI a1')).map (AV.int .u8))) else none := by unfold r220 Reg.of ask2; exact ite_cl
theorem shrS (n : Int) (s : Nat) : evShift .shr .i64 n (s : Int) = some (.int .i64 (n.fdiv (2 ^ (min s IntKind.i64.bits)))) := by
  unfold evShift
  rw [if_neg (by omega)]
  simp
theorem wsub (a b : Int) (h : 0 ≤ a ∧ a ≤ 100) (h2 : 0 ≤ b ∧ b ≤ 100) : IntKind.i64.wrap (a - b) = a - b := wrap64 _ (by omega) (by omega)

set_option maxHeartbeats 1000000 in
theorem putNum_spec (b : List Int) (n k : Int) (hl : b.length ≤ 4294960000) : FunOwn seat 214 [octs b, .int .i64 n, .int .i64 k] 1 ((b ++ beK (clampK k).toNat n).map (AV.int .u8)) := by
  have hl' : b.length ≤ 4294967295 := by omega
  have hc := clampK_bd k
  obtain ⟨K, hK⟩ : ∃ K : Nat, clampK k = K := ⟨(clampK k).toNat, by omega⟩
  rw [hK, Int.toNat_natCast]
  refine FunOwn.of0R [r196, r226] told214 (by simp [il214]) (by simp [idb_patchA]) (by first | exact encI64.xs_idb _ | exact encU8.xs_idb _ | exact encNode.xs_idb _) ?_
  simp -implicitDefEqProofs only [il214, List.zipIdx_cons, List.zipIdx_nil, leafA, innerA, nodeA, patchA, Leaf.cells, Inner.cells, Node.cells, r196_c, r196_ask, r226_c, r226_ask, decide_true, decide_false, hl', hK, go_sem, Nat.reduceEqDiff, reduceIte, Nat.reduceAdd, Nat.reduceLeDiff, Nat.reduceLT, Nat.reduceSub]
  refine WP.loopG (fun s : Nat × Nat => s.1 ≤ K) (fun s => [(1, .int .i64 n), (2, .int .i64 K), (7, .own 0 s.2 0 (b ++ (beK K n).take s.1).length), (13, .int .i64 K), (14, .int .i64 (s.1 : Nat))]) (fun s => [.arr 1 s.2 ((b ++ (beK K n).take s.1).map (AV.int .u8))]) (fun s => K - s.1) (0, 0) (Nat.zero_le _)
    (fun k _ => ⟨by simp, by simp [idb_patchA], fun e he => by (simp only [List.mem_cons, List.not_mem_nil, or_false] at he); (rcases he with rfl | rfl | rfl | rfl | rfl | rfl) <;> first | exact encNode.entB _ _ _ _ | exact encI64.entB _ _ _ _ | exact encU8.entB _ _ _ _ | simp ⟩) (by simp ) ?_
  rintro ⟨i, v⟩ hi
  simp only at hi
  refine wpc_soundR [] ?_
  by_cases hlt : (i : Int) < (K : Nat)
  · have hi' : i < K := by omega
    have w1 : IntKind.i64.wrap ((K : Int) - 1) = ((K - 1 : Nat) : Int) := by rw [wsub _ _ (by omega) (by omega)]; omega
    have w2 : IntKind.i64.wrap (((K - 1 : Nat) : Int) - (i : Int)) = ((K - 1 - i : Nat) : Int) := by rw [wsub _ _ (by omega) (by omega)]; omega
    have w3 : IntKind.i64.wrap (8 * ((K - 1 - i : Nat) : Int)) = ((8 * (K - 1 - i) : Nat) : Int) := by rw [wrap64 _ (by omega) (by omega)]; omega
    have so : IntKind.u8.wrap (n.fdiv (2 ^ (min (8 * (K - 1 - i)) 64))) = n / 256 ^ (K - 1 - i) % 256 := shr_octet n (e := K - 1 - i) (by omega)
    have bt := beK_take n hi'
    have m1 : (b ++ (beK K n).take i).length + 1 ≤ maxRow := by
      have := beK_len K n
      unfold maxRow; simp; omega
    simp -implicitDefEqProofs only [leafA, innerA, nodeA, patchA, Leaf.cells, Inner.cells, Node.cells, decide_true, decide_false, hlt, w1, w2, w3, shrS, so, m1, go_sem, Nat.reduceEqDiff, reduceIte, Nat.reduceAdd, Nat.reduceLeDiff, Nat.reduceLT, Nat.reduceSub]
    exact ⟨(i + 1, v + 1), hi', by simp only; omega, by simp [bt, wrapS (show i < 9223372036854775807 by omega)], by simp [bt]⟩
  · have e : i = K := by omega
    subst e
    simp -implicitDefEqProofs only [leafA, innerA, nodeA, patchA, Leaf.cells, Inner.cells, Node.cells, decide_true, decide_false, hlt, go_sem, Nat.reduceEqDiff, reduceIte, Nat.reduceAdd, Nat.reduceLeDiff, Nat.reduceLT, Nat.reduceSub]
    exact ⟨0, v, by rw [beK_all], by simp [beK_all]⟩
theorem and255 (n : Int) : bits .and .i64 n 255 = n % 256 := by
  have h127 : (BitVec.ofInt 64 255).toNat = 2 ^ 8 - 1 := by decide
  have key : (BitVec.ofInt 64 n &&& BitVec.ofInt 64 255).toNat = (n % ((2 ^ 64 : Nat) : Int)).toNat % 2 ^ 8 := by
    rw [BitVec.toNat_and, BitVec.toNat_ofInt, h127, Nat.and_two_pow_sub_one_eq_mod]
  show IntKind.i64.wrap ((BitVec.ofInt 64 n &&& BitVec.ofInt 64 255).toNat : Nat) = n % 256
  rw [key, wrap64 _ (by omega) (by omega)]
  omega
set_option maxHeartbeats 1000000 in
theorem refPutNum_spec (b : List Int) (n k : Int) (hl : b.length ≤ 4294960000) : FunOwn seat 221 [octs b, .int .i64 n, .int .i64 k] 1 ((b ++ beK (clampK k).toNat n).map (AV.int .u8)) := by
  have hc := clampK_bd k
  obtain ⟨K, hK⟩ : ∃ K : Nat, clampK k = K := ⟨(clampK k).toNat, by omega⟩
  rw [hK, Int.toNat_natCast]
  have cl : ∃ v, evAppend [Entry.arr 1 0 []] 1 1 (.own 0 0 0 0) (b.map (AV.int .u8)) = some (.own 0 v 0 b.length, [.arr 1 v (b.map (AV.int .u8))]) := by
    obtain ⟨v, hv⟩ := encU8.app_any (H := [Entry.arr 1 0 (([] : List Int).map (AV.int .u8))]) (id := 0) (ver := 0) (l := []) (ys := b) (bytes := 1) rfl (by unfold maxRow; simp; omega) (by decide)
    exact ⟨v, by simpa [encU8] using hv⟩
  obtain ⟨v0, cl⟩ := cl
  have hb : evBslice ([] : List Entry) 1 0 (.int .u8 0) [] = some (.own 0 0 0 0, [.arr 1 0 []]) := rfl
  have w0 : IntKind.i64.wrap ((K : Int) - 1) = (K : Int) - 1 := wrap64 _ (by omega) (by omega)
  refine FunOwn.of0R [r235] told221 (by simp [il221]) (by simp [idb_patchA]) (by first | exact encI64.xs_idb _ | exact encU8.xs_idb _ | exact encNode.xs_idb _) ?_
  simp -implicitDefEqProofs only [il221, List.zipIdx_cons, List.zipIdx_nil, leafA, innerA, nodeA, patchA, Leaf.cells, Inner.cells, Node.cells, r235_c, r235_ask, decide_true, decide_false, hb, cl, hK, w0, go_sem, Nat.reduceEqDiff, reduceIte, Nat.reduceAdd, Nat.reduceLeDiff, Nat.reduceLT, Nat.reduceSub]
  refine WP.loopG (fun s : Nat × Nat => s.1 ≤ K) (fun s => [(1, .int .i64 n), (7, .own 0 s.2 0 (b ++ (beK K n).take s.1).length), (8, .int .i64 ((K : Int) - 1 - (s.1 : Nat)))]) (fun s => [.arr 1 s.2 ((b ++ (beK K n).take s.1).map (AV.int .u8))]) (fun s => K - s.1) (0, v0) (Nat.zero_le _)
    (fun k _ => ⟨by simp, by simp [idb_patchA], fun e he => by (simp only [List.mem_cons, List.not_mem_nil, or_false] at he); (rcases he with rfl | rfl | rfl | rfl | rfl | rfl) <;> first | exact encNode.entB _ _ _ _ | exact encI64.entB _ _ _ _ | exact encU8.entB _ _ _ _ | simp ⟩) (by simp ) ?_
  rintro ⟨i, v⟩ hi
  simp only at hi
  refine wpc_soundR [] ?_
  by_cases hlt : (K : Int) - 1 - (i : Nat) ≥ 0
  · have hi' : i < K := by omega
    have e0 : (K : Int) - 1 - (i : Nat) = ((K - 1 - i : Nat) : Int) := by omega
    have g0 : ((K - 1 - i : Nat) : Int) ≥ 0 := by omega
    have w3 : IntKind.i64.wrap (8 * ((K - 1 - i : Nat) : Int)) = ((8 * (K - 1 - i) : Nat) : Int) := by rw [wrap64 _ (by omega) (by omega)]; omega
    have w4 : IntKind.u64.wrap ((8 * (K - 1 - i) : Nat) : Int) = ((8 * (K - 1 - i) : Nat) : Int) := wrapU64 _ (by omega) (by omega)
    have w5 : IntKind.i64.wrap (((K - 1 - i : Nat) : Int) - 1) = (K : Int) - 1 - ((i + 1 : Nat) : Int) := by rw [wrap64 _ (by omega) (by omega)]; omega
    have so : IntKind.u8.wrap (n.fdiv (2 ^ (min (8 * (K - 1 - i)) 64)) % 256) = n / 256 ^ (K - 1 - i) % 256 := by
      have h := shr_octet n (e := K - 1 - i) (by omega)
      rw [show IntKind.i64.bits = 64 from rfl, wrapU8] at h
      rw [wrapU8, h]; omega
    have bt := beK_take n hi'
    have m1 : (b ++ (beK K n).take i).length + 1 ≤ maxRow := by
      have := beK_len K n
      unfold maxRow; simp; omega
    rw [e0]
    simp -implicitDefEqProofs only [leafA, innerA, nodeA, patchA, Leaf.cells, Inner.cells, Node.cells, decide_true, decide_false, g0, w3, w4, w5, shrS, and255, so, m1, go_sem, Nat.reduceEqDiff, reduceIte, Nat.reduceAdd, Nat.reduceLeDiff, Nat.reduceLT, Nat.reduceSub]
    exact ⟨(i + 1, v + 1), hi', by simp only; omega, by simp [bt], by simp [bt]⟩
  · have e : i = K := by omega
    subst e
    simp -implicitDefEqProofs only [leafA, innerA, nodeA, patchA, Leaf.cells, Inner.cells, Node.cells, decide_true, decide_false, hlt, go_sem, Nat.reduceEqDiff, reduceIte, Nat.reduceAdd, Nat.reduceLeDiff, Nat.reduceLT, Nat.reduceSub]
    exact ⟨0, v, by rw [beK_all], by simp [beK_all]⟩
noncomputable def r221 : Reg seat := .of told221 (ask3 (fun a0' a1' a2' => isO a0' ∧ isI a1' ∧ isI a2' ∧ (dO a0').length ≤ 4294960000) fun a0' a1' a2' => .own 1 (((dO a0') ++ beK (clampK (dI a2')).toNat (dI a1')).map (AV.int .u8))) (ask3_ok fun a0' a1' a2' h => SaidOk.own (FunOwn.weak (.cons (isO.weak h.1) (.cons (isI.weak h.2.1) (.cons (isI.weak h.2.2.1) .nil))) (refPutNum_spec _ _ _ h.2.2.2)) (by first | exact encU8.xs_idb _ | exact encI64.xs_idb _ | exact encNode.xs_idb _))
theorem r221_c : r221.c = 221 := rfl
open Classical in
theorem r221_ask (a0' a1' a2' : AV) : r221.ask [a0', a1', a2'] = if isO a0' ∧ isI a1' ∧ isI a2' ∧ (dO a0').length ≤ 4294960000 then some (Said.own 1 (((dO a0') ++ beK (clampK (dI a2')).toNat (dI a1')).map (AV.int .u8))) else none := by unfold r221 Reg.of ask3; exact ite_cl

def gnum (k : Nat) (b : List Int) : Int × List Int × Int := if b.length < k then (0, [], 1) else (num (b.take k), b.drop k, 0)
theorem shl8 (n : Int) : evShift .shl .i64 n 8 = some (.int .i64 (IntKind.i64.wrap (n * 256))) := rfl
set_option maxHeartbeats 1000000 in
theorem getNum_spec (b : List Int) (k : Int) (hb : Oct b) : Fun seat 212 [octs b, .int .i64 k] (.tup [.int .i64 (gnum (clampK k).toNat b).1, octs (gnum (clampK k).toNat b).2.1, .int .i64 (gnum (clampK k).toNat b).2.2]) := by
  have hc := clampK_bd k
  have hB := bytes_of hb
  obtain ⟨K, hK⟩ : ∃ K : Nat, clampK k = K := ⟨(clampK k).toNat, by omega⟩
  rw [hK, Int.toNat_natCast]
  by_cases hs : b.length < K
  · have e : gnum K b = (0, [], 1) := if_pos hs
    have g : (b.length : Int) < (K : Int) := by omega
    rw [e]
    refine Fun.of0R [r226] told212 (by simp [il212]) (by simp [idb_patchA]) (by simp [idb_patchA]) 4 ?_
    simp -implicitDefEqProofs only [il212, List.zipIdx_cons, List.zipIdx_nil, leafA, innerA, nodeA, patchA, Leaf.cells, Inner.cells, Node.cells, r226_c, r226_ask, decide_true, decide_false, hK, g, go_sem, Nat.reduceEqDiff, reduceIte, Nat.reduceAdd, Nat.reduceLeDiff, Nat.reduceLT, Nat.reduceSub]
    try rfl
  have e : gnum K b = (num (b.take K), b.drop K, 0) := if_neg hs
  have g : ¬ (b.length : Int) < (K : Int) := by omega
  rw [e]
  have sl : ∀ H, evSlice H 1 (octs b) (some (.int .i64 (K : Int))) none none = some (octs (b.drop K)) := fun H => by
    have := sliceF_octs H b (K : Int) (by omega) (by simp; omega)
    rwa [Int.toNat_natCast] at this
  refine Fun.of0R [r226] told212 (by simp [il212]) (by simp [idb_patchA]) (by simp [idb_patchA]) 4 ?_
  simp -implicitDefEqProofs only [il212, List.zipIdx_cons, List.zipIdx_nil, leafA, innerA, nodeA, patchA, Leaf.cells, Inner.cells, Node.cells, r226_c, r226_ask, decide_true, decide_false, hK, g, go_sem, Nat.reduceEqDiff, reduceIte, Nat.reduceAdd, Nat.reduceLeDiff, Nat.reduceLT, Nat.reduceSub]
  refine WP.loop0 (fun i => i ≤ K) (fun i => [(0, octs b), (1, .int .i64 K), (7, .int .i64 (num (b.take i))), (15, .int .i64 K), (16, .int .i64 (i : Nat))]) (fun i => K - i) 0 (Nat.zero_le _) (fun i _ => by simp ) (by simp [num]) ?_
  intro i hi
  refine wpc_soundR [] ?_
  by_cases hlt : (i : Int) < (K : Nat)
  · have hi' : i < b.length := by omega
    have hx := hB _ (List.getElem_mem hi')
    have hn := num_bd3 (l := b.take i) (fun y hy => hB y (List.mem_of_mem_take hy)) (by rw [List.length_take]; omega)
    have w1 : IntKind.i64.wrap (num (b.take i) * 256) = num (b.take i) * 256 := wrap64 _ (by omega) (by omega)
    have w2 : IntKind.i64.wrap b[i] = b[i] := wrap64 _ (by omega) (by omega)
    have o := or_octet (num (b.take i)) b[i] hn.1 (by omega) hx.1 hx.2
    rw [← num_take hi'] at o
    simp -implicitDefEqProofs only [leafA, innerA, nodeA, patchA, Leaf.cells, Inner.cells, Node.cells, decide_true, decide_false, hlt, w1, w2, shl8, o, fun H => index_octs H b i hi', go_sem, Nat.reduceEqDiff, reduceIte, Nat.reduceAdd, Nat.reduceLeDiff, Nat.reduceLT, Nat.reduceSub]
    exact ⟨i + 1, by omega, by omega, by simp [wrapS (show i < 9223372036854775807 by omega)]⟩
  · have e : i = K := by omega
    subst e
    simp -implicitDefEqProofs only [leafA, innerA, nodeA, patchA, Leaf.cells, Inner.cells, Node.cells, decide_true, decide_false, hlt, go_sem, Nat.reduceEqDiff, reduceIte, Nat.reduceAdd, Nat.reduceLeDiff, Nat.reduceLT, Nat.reduceSub]
    refine WP.drawQ [] [.l, .l, .l, .l, .l, .l, .l] mixed (by decide) ?_
    simp -implicitDefEqProofs only [leafA, innerA, nodeA, patchA, Leaf.cells, Inner.cells, Node.cells, decide_true, decide_false, sl, go_sem, Nat.reduceEqDiff, reduceIte, Nat.reduceAdd, Nat.reduceLeDiff, Nat.reduceLT, Nat.reduceSub]
    try rfl
noncomputable def r212 : Reg seat := .of told212 (ask2 (fun a0' a1' => isO a0' ∧ isI a1' ∧ Oct (dO a0')) fun a0' a1' => .fn (.tup [.int .i64 (gnum (clampK (dI a1')).toNat (dO a0')).1, octs (gnum (clampK (dI a1')).toNat (dO a0')).2.1, .int .i64 (gnum (clampK (dI a1')).toNat (dO a0')).2.2])) (ask2_ok fun a0' a1' h => SaidOk.fn (Fun.weak (.cons (isO.weak h.1) (.cons (isI.weak h.2.1) .nil)) (getNum_spec _ _ h.2.2)))
theorem r212_c : r212.c = 212 := rfl
open Classical in
theorem r212_ask (a0' a1' : AV) : r212.ask [a0', a1'] = if isO a0' ∧ isI a1' ∧ Oct (dO a0') then some (Said.fn (.tup [.int .i64 (gnum (clampK (dI a1')).toNat (dO a0')).1, octs (gnum (clampK (dI a1')).toNat (dO a0')).2.1, .int .i64 (gnum (clampK (dI a1')).toNat (dO a0')).2.2])) else none := by unfold r212 Reg.of ask2; exact ite_cl
set_option maxHeartbeats 1000000 in
theorem refGetNum_spec (b : List Int) (k : Int) (hb : Oct b) : Fun seat 218 [octs b, .int .i64 k] (.tup [.int .i64 (gnum (clampK k).toNat b).1, octs (gnum (clampK k).toNat b).2.1, .int .i64 (gnum (clampK k).toNat b).2.2]) := by
  have hc := clampK_bd k
  have hB := bytes_of hb
  obtain ⟨K, hK⟩ : ∃ K : Nat, clampK k = K := ⟨(clampK k).toNat, by omega⟩
  rw [hK, Int.toNat_natCast]
  by_cases hs : b.length < K
  · have e : gnum K b = (0, [], 1) := if_pos hs
    have g : (b.length : Int) < (K : Int) := by omega
    rw [e]
    refine Fun.of0R [r235] told218 (by simp [il218]) (by simp [idb_patchA]) (by simp [idb_patchA]) 4 ?_
    simp -implicitDefEqProofs only [il218, List.zipIdx_cons, List.zipIdx_nil, leafA, innerA, nodeA, patchA, Leaf.cells, Inner.cells, Node.cells, r235_c, r235_ask, decide_true, decide_false, hK, g, go_sem, Nat.reduceEqDiff, reduceIte, Nat.reduceAdd, Nat.reduceLeDiff, Nat.reduceLT, Nat.reduceSub]
    try rfl
  have e : gnum K b = (num (b.take K), b.drop K, 0) := if_neg hs
  have g : ¬ (b.length : Int) < (K : Int) := by omega
  rw [e]
  have sl : ∀ H, evSlice H 1 (octs b) (some (.int .i64 (K : Int))) none none = some (octs (b.drop K)) := fun H => by
    have := sliceF_octs H b (K : Int) (by omega) (by simp; omega)
    rwa [Int.toNat_natCast] at this
  refine Fun.of0R [r235] told218 (by simp [il218]) (by simp [idb_patchA]) (by simp [idb_patchA]) 4 ?_
  simp -implicitDefEqProofs only [il218, List.zipIdx_cons, List.zipIdx_nil, leafA, innerA, nodeA, patchA, Leaf.cells, Inner.cells, Node.cells, r235_c, r235_ask, decide_true, decide_false, hK, g, go_sem, Nat.reduceEqDiff, reduceIte, Nat.reduceAdd, Nat.reduceLeDiff, Nat.reduceLT, Nat.reduceSub]
  refine WP.loop0 (fun i => i ≤ K) (fun i => [(0, octs b), (7, .int .i64 K), (8, .int .i64 (num (b.take i))), (9, .int .i64 (i : Nat))]) (fun i => K - i) 0 (Nat.zero_le _) (fun i _ => by simp ) (by simp [num]) ?_
  intro i hi
  refine wpc_soundR [] ?_
  by_cases hlt : (i : Int) < (K : Nat)
  · have hi' : i < b.length := by omega
    have hx := hB _ (List.getElem_mem hi')
    have hn := num_bd3 (l := b.take i) (fun y hy => hB y (List.mem_of_mem_take hy)) (by rw [List.length_take]; omega)
    have w1 : IntKind.i64.wrap (num (b.take i) * 256) = num (b.take i) * 256 := wrap64 _ (by omega) (by omega)
    have w2 : IntKind.i64.wrap b[i] = b[i] := wrap64 _ (by omega) (by omega)
    have w3 : IntKind.i64.wrap (num (b.take i) * 256 + b[i]) = num (b.take (i + 1)) := by rw [num_take hi', wrap64 _ (by omega) (by omega)]
    simp -implicitDefEqProofs only [leafA, innerA, nodeA, patchA, Leaf.cells, Inner.cells, Node.cells, decide_true, decide_false, hlt, w1, w2, w3, fun H => index_octs H b i hi', go_sem, Nat.reduceEqDiff, reduceIte, Nat.reduceAdd, Nat.reduceLeDiff, Nat.reduceLT, Nat.reduceSub]
    exact ⟨i + 1, by omega, by omega, by simp [wrapS (show i < 9223372036854775807 by omega)]⟩
  · have e : i = K := by omega
    subst e
    simp -implicitDefEqProofs only [leafA, innerA, nodeA, patchA, Leaf.cells, Inner.cells, Node.cells, decide_true, decide_false, hlt, go_sem, Nat.reduceEqDiff, reduceIte, Nat.reduceAdd, Nat.reduceLeDiff, Nat.reduceLT, Nat.reduceSub]
    refine WP.drawQ [] [.l, .l, .l, .l, .l, .l, .l] mixed (by decide) ?_
    simp -implicitDefEqProofs only [leafA, innerA, nodeA, patchA, Leaf.cells, Inner.cells, Node.cells, decide_true, decide_false, sl, go_sem, Nat.reduceEqDiff, reduceIte, Nat.reduceAdd, Nat.reduceLeDiff, Nat.reduceLT, Nat.reduceSub]
    try rfl
noncomputable def r218 : Reg seat := .of told218 (ask2 (fun a0' a1' => isO a0' ∧ isI a1' ∧ Oct (dO a0')) fun a0' a1' => .fn (.tup [.int .i64 (gnum (clampK (dI a1')).toNat (dO a0')).1, octs (gnum (clampK (dI a1')).toNat (dO a0')).2.1, .int .i64 (gnum (clampK (dI a1')).toNat (dO a0')).2.2])) (ask2_ok fun a0' a1' h => SaidOk.fn (Fun.weak (.cons (isO.weak h.1) (.cons (isI.weak h.2.1) .nil)) (refGetNum_spec _ _ h.2.2)))
theorem r218_c : r218.c = 218 := rfl
open Classical in
theorem r218_ask (a0' a1' : AV) : r218.ask [a0', a1'] = if isO a0' ∧ isI a1' ∧ Oct (dO a0') then some (Said.fn (.tup [.int .i64 (gnum (clampK (dI a1')).toNat (dO a0')).1, octs (gnum (clampK (dI a1')).toNat (dO a0')).2.1, .int .i64 (gnum (clampK (dI a1')).toNat (dO a0')).2.2])) else none := by unfold r218 Reg.of ask2; exact ite_cl
end Go.Proofs.YtihhinbjhiankaaGreatDoor.Al
