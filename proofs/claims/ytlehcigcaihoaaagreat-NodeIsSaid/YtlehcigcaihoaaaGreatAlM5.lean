/-
  SPECS: octets and numbers on the wire.
-/
import Derived.Test.YtlehcigcaihoaaaGreatAlM4
set_option linter.unusedSimpArgs false
set_option linter.unusedVariables false
namespace Go.Proofs.YtlehcigcaihoaaaGreat.Al
open Go
attribute [local go_sem] W_mv W_pick W_alloc W_box W_build W_bslice W_load W_store W_nilck W_bin W_isnil W_un W_convI W_convS W_mkiface W_mkfunc W_mkslice W_slice W_faddr W_field W_iaddr W_iaddrA W_idxA W_extract W_len W_lenS W_lenA W_min W_max W_append W_appendZ W_copy W_clear W_tassert W_invoke thenQ_normal thenQ_exit thenQ_goto thenQ_ret blockQ_normal blockQ_ret blockQ_goto blockQ_exit wpc_skip wpc_region wpc_draw wpc_seq wpc_cond wpc_block wpc_exit wpc_goto wpc_label wpc_ret wpc_loop wpc_range wpc_scope condW_true condW_false condW_dec condW_any W_nil W_call resW_some evalOp Opd.ev updo_envL updo_none setL_cons setL_nil envL_cons Option.map_some Option.bind_some evBin evInt List.map_cons List.map_nil Option.pure_def Option.bind_eq_bind W_grd' grdW_tt grdW_ff grdW_tf grdW_ft grdW_tup grdW_dt grdW_df lgrdW_tt lgrdW_ff lgrdW_tf lgrdW_ft lgrdW_tup lgrdW_dt lgrdW_df L_mv L_pick L_alloc L_box L_build L_bslice L_load L_store L_nilck L_bin L_isnil L_un L_convI L_convS L_mkiface L_mkfunc L_mkslice L_slice L_faddr L_field L_iaddr L_iaddrA L_idxA L_extract L_len L_lenS L_lenA L_min L_max L_append L_appendZ L_copy L_clear L_tassert L_nil L_call L_grd lresW_some upd_envL evUn beq_dec bne_dec leaves_ret1 leaves_end1 leaves_ret0 leaves_end0 leaves_ret2 leaves_ret3 rowLen_ints load_iptr0 not_dec heap_get0 heap_get1 heap_set0 heap_set1 heap_len1 heap_len2 heap_app heap_app2 bslice1_int seen_ints seen_one0 seen_one1 seen_one2 rowLen_own0 bslice0_int rowLen_own1 Nat.sub_zero Bool.not_true Bool.not_false List.length_nil List.length_cons List.nil_append List.cons_append Nat.zero_add load_iptrA canon_ptrI canon_bool canon_tup canon_agg canon_leafA canon_innerA canon_nodeA canon_ints' rowLen_ints0 seen_ints0 canon_ints0 rowLen_ints1 seen_ints1 canon_ints1 rowLen_ints2 seen_ints2 canon_ints2 rowLen_ints3 seen_ints3 canon_ints3 rowLen_octs seen_octs canon_octs' szOk_octs rowLen_octs0 seen_octs0 canon_octs0 rowLen_octs1 seen_octs1 canon_octs1 rowLen_octs2 seen_octs2 canon_octs2 rowLen_octs3 seen_octs3 canon_octs3 rowLen_intss seen_intss canon_intss' szOk_intss rowLen_intss0 seen_intss0 canon_intss0 rowLen_intss1 seen_intss1 canon_intss1 rowLen_intss2 seen_intss2 canon_intss2 rowLen_intss3 seen_intss3 canon_intss3 rowLen_octss seen_octss canon_octss' szOk_octss rowLen_octss0 seen_octss0 canon_octss0 rowLen_octss1 seen_octss1 canon_octss1 rowLen_octss2 seen_octss2 canon_octss2 rowLen_octss3 seen_octss3 canon_octss3 rowLen_nodes seen_nodes canon_nodes' szOk_nodes rowLen_nodes0 seen_nodes0 canon_nodes0 rowLen_nodes1 seen_nodes1 canon_nodes1 rowLen_nodes2 seen_nodes2 canon_nodes2 rowLen_nodes3 seen_nodes3 canon_nodes3 seen_list cells_int oneIn_int cells_bool oneIn_bool cells_str oneIn_str cells_list oneIn_list cells_func oneIn_func cells_nilfunc oneIn_nilfunc cells_iptr oneIn_iptr cells_iface oneIn_iface cells_nilIface oneIn_nilIface cells_own cells_ptr cells_anybool oneIn_anybool cells_agg oneIn_own0 oneIn_ptr0 seenL0 seenM0 oneIn_own1 oneIn_ptr1 seenL1 seenM1 oneIn_own2 oneIn_ptr2 seenL2 seenM2 oneIn_own3 oneIn_ptr3 seenL3 seenM3 oneIn_own4 oneIn_ptr4 seenL4 seenM4 oneIn_own5 oneIn_ptr5 seenL5 seenM5 cells_ints oneIn_ints cells_octs oneIn_octs cells_intss oneIn_intss cells_octss oneIn_octss cells_nodes oneIn_nodes ldB0 ldA0 adB0 stB0 ldB1 ldA1 adB1 stB1 ldB2 ldA2 adB2 stB2 ldB3 ldA3 adB3 stB3 ldB4 ldA4 adB4 stB4 ldB5 ldA5 adB5 stB5 List.getElem?_cons_zero List.getElem?_cons_succ beq_self_eq_true splice List.take_zero List.take_succ_cons List.drop_zero List.drop_succ_cons List.append_nil List.set_cons_zero List.set_cons_succ List.all_cons List.all_nil Bool.and_self and_self and_true true_and Nat.lt_irrefl Nat.zero_lt_one Nat.le_refl fillA evNil notA Bool.false_eq_true evMin_int evMax_int Option.map_none freezeP_all_nil freezeP_all_cons frzE_box frzE_arr frzE_dead foldA List.foldlM_cons List.foldlM_nil callW_f lcallW_f ansW_fn ansW_own lansW_fn lansW_own ansW_none lansW_none tab_cons tab_nil dI_int dB_bool dO_octs dO_ints dO_list dO_nil dOs_octss dOs_intss dOs_nil dLf_leafA dIn_innerA dN_nodeA dLf_agg dIn_agg dN_agg dNs_nodes dNs_list dNs_nil isI_int isU_int isB_bool isO_octs isO_nil isO_list isS_ints isS_nil isS_list isOs_octss isSs_intss isOs_nil isSs_nil isNs_nodes isNs_list isNs_nil isLf_leafA isIn_innerA isN_nodeA isLf_agg isIn_agg isN_agg leaf_eta inner_eta node_eta leaf_zero inner_zero node_zero dP_patchA dP_agg isP_patchA isP_agg patch_eta decide_eq_true_eq decide_eq_false_iff_not eq_self forall_const true_implies false_implies Bool.not_eq_true' Bool.not_eq_false' Bool.true_eq_false implies_true ne_eq ldI ldIA adI AV.tup.injEq AV.agg.injEq List.cons.injEq AV.int.injEq AV.bool.injEq nodes_inj octs_inj ints_inj nil_nodes nil_octs nil_ints canon_nilL decide_eq_decide two_ne four_ne b256_ne lendA_fn lendA_own lendA_none llendA_fn llendA_none plain_bool plain_int plain_tup2 isNs_own isO_own isS_own isOs_own false_and and_false Q_nil Q_l Q_g Q_h Q_grd qgrdW_b qgrdW_tup lightD_some heavyD_some readD_some fnD_some fnD_own fnD_none callL_f ownH_some callH_f litD_some litE_some Q_call Q_bslice H_call pendOk_nil pendOk_cons pastOk_nil pastOk_cons Q_mv Q_pick Q_bin Q_un Q_convI Q_mkfunc Q_extract Q_min Q_max Q_lenS Q_lenA Q_field Q_idxA Q_mkiface Q_tassert Q_alloc Q_box Q_store Q_mkslice Q_append Q_appendZ Q_copy Q_clear Q_build Q_load Q_nilck Q_isnil Q_convS Q_slice Q_faddr Q_iaddr Q_iaddrA Q_len H_alloc H_box H_bslice H_store H_mkslice H_append H_appendZ H_copy H_clear free_mv free_pick free_bin free_un free_convI free_mkfunc free_extract free_min free_max free_lenS free_lenA free_field free_idxA free_mkiface free_tassert free_build free_load free_nilck free_isnil free_convS free_slice free_faddr free_iaddr free_iaddrA free_len callW_y List.length_map List.length_set leaves_r evR_some evRess1 evRess2 evRess3 evRes_t evRes_c nz_kind nz_enc nz_cred nz_source nz_parent nz_ienc nz_hash nz_un true_or or_true bsl_node idbs_node idbs_int appN appI appO ixo_nodes canon_row canon_rowI canon_rowO not_false_eq_true not_true_eq_false ldE_a ldE_c adE_b stE_b onE_a onP_b bsl_zero idbs_zero appN_zero
attribute [local go_sem low] condW_b grdW_b lgrdW_b ldP adP stP onO onPt
attribute [local simp] envL_cons envL_nil idb_int idb_bool idb_str idb_ints idb_nil idb_own idb_ptr entB_ints' idb_octs entB_octs idb_intss entB_intss idb_octss entB_octss idb_nodes entB_nodes idb_leafA idb_innerA idb_nodeA idb_agg idb_tup idb_iptr idb_fn idb_undef entB_dead entB_box

theorem plainI (k : IntKind) (l : List Int) : (∀ x ∈ l.map (AV.int k), ∀ y ∈ x.cells, Plain y) = True := eq_true fun x hx y hy => by
  obtain ⟨z, _, rfl⟩ := List.mem_map.1 hx
  simp only [AV.cells, List.mem_singleton] at hy
  subst hy; exact .int _ _
theorem vsize_le (n : Int) : vsize n ≤ 4 := by
  unfold vsize
  split
  · omega
  · split
    · omega
    · split <;> omega
set_option maxHeartbeats 1000000 in
theorem putBytes_spec (b v : List Int) (hl : b.length ≤ 4290000000) : FunOwn seat 198 [octs b, octs v] 1 ((pbytes b v).map (AV.int .u8)) := by
  have hl' : b.length ≤ 4294967295 := by omega
  have hl2 : b.length ≤ 4294960000 := by omega
  by_cases hv : (v.length : Int) > 1048576
  · have e : pbytes b v = b := if_pos hv
    rw [e]
    refine FunOwn.of0R [r196, r219] told198 (by simp [il198]) (by simp [idb_patchA]) (by first | exact encI64.xs_idb _ | exact encU8.xs_idb _ | exact encNode.xs_idb _) ?_
    simp -implicitDefEqProofs only [il198, List.zipIdx_cons, List.zipIdx_nil, leafA, innerA, nodeA, patchA, Leaf.cells, Inner.cells, Node.cells, r196_c, r196_ask, r219_c, r219_ask, decide_true, decide_false, hl', hl2, hv, go_sem, Nat.reduceEqDiff, reduceIte, Nat.reduceAdd, Nat.reduceLeDiff, Nat.reduceLT, Nat.reduceSub]
    exact ⟨0, _, rfl, rfl⟩
  · have e : pbytes b v = (b ++ vput v.length) ++ v := if_neg hv
    rw [e]
    have hp := vput_len (n := (v.length : Int)) (by omega) (by omega)
    have hs : vsize (v.length : Int) ≤ 4 := vsize_le _
    obtain ⟨u, ap⟩ := encU8.app_any (H := [.arr 1 0 ((b ++ vput (v.length : Int)).map (AV.int .u8))]) (id := 0) (ver := 0) (l := b ++ vput (v.length : Int)) (ys := v) (bytes := 1) rfl (by unfold maxRow; simp; omega) (by decide)
    have ap' : evAppend [.arr 1 0 ((b ++ vput (v.length : Int)).map (AV.int .u8))] 1 1 (.own 0 0 0 (b ++ vput (v.length : Int)).length) (v.map (AV.int .u8)) = some (.own 0 u 0 ((b ++ vput (v.length : Int)) ++ v).length, [.arr 1 u (((b ++ vput (v.length : Int)) ++ v).map (AV.int .u8))]) := ap
    refine FunOwn.of0R [r196, r219] told198 (by simp [il198]) (by simp [idb_patchA]) (by first | exact encI64.xs_idb _ | exact encU8.xs_idb _ | exact encNode.xs_idb _) ?_
    simp -implicitDefEqProofs only [il198, List.zipIdx_cons, List.zipIdx_nil, leafA, innerA, nodeA, patchA, Leaf.cells, Inner.cells, Node.cells, r196_c, r196_ask, r219_c, r219_ask, decide_true, decide_false, hl', hl2, hv, ap', go_sem, Nat.reduceEqDiff, reduceIte, Nat.reduceAdd, Nat.reduceLeDiff, Nat.reduceLT, Nat.reduceSub]
    exact ⟨0, _, rfl, rfl⟩
noncomputable def r198 : Reg seat := .of told198 (ask2 (fun a0' a1' => isO a0' ∧ isO a1' ∧ (dO a0').length ≤ 4290000000) fun a0' a1' => .own 1 ((pbytes (dO a0') (dO a1')).map (AV.int .u8))) (ask2_ok fun a0' a1' h => SaidOk.own (FunOwn.weak (.cons (isO.weak h.1) (.cons (isO.weak h.2.1) .nil)) (putBytes_spec _ _ h.2.2)) (by first | exact encU8.xs_idb _ | exact encI64.xs_idb _ | exact encNode.xs_idb _))
theorem r198_c : r198.c = 198 := rfl
open Classical in
theorem r198_ask (a0' a1' : AV) : r198.ask [a0', a1'] = if isO a0' ∧ isO a1' ∧ (dO a0').length ≤ 4290000000 then some (Said.own 1 ((pbytes (dO a0') (dO a1')).map (AV.int .u8))) else none := by unfold r198 Reg.of ask2; exact ite_cl

set_option maxHeartbeats 1000000 in
theorem refPutBytes_spec (b v : List Int) (hl : b.length ≤ 4290000000) : FunOwn seat 199 [octs b, octs v] 1 ((pbytes b v).map (AV.int .u8)) := by
  have hl2 : b.length ≤ 4294960000 := by omega
  have cl : ∃ v, evAppend [Entry.arr 1 0 []] 1 1 (.own 0 0 0 0) (b.map (AV.int .u8)) = some (.own 0 v 0 b.length, [.arr 1 v (b.map (AV.int .u8))]) := by
    obtain ⟨v, hv⟩ := encU8.app_any (H := [Entry.arr 1 0 (([] : List Int).map (AV.int .u8))]) (id := 0) (ver := 0) (l := []) (ys := b) (bytes := 1) rfl (by unfold maxRow; simp; omega) (by decide)
    exact ⟨v, by simpa [encU8] using hv⟩
  obtain ⟨v0, cl⟩ := cl
  have hb : evBslice ([] : List Entry) 1 0 (.int .u8 0) [] = some (.own 0 0 0 0, [.arr 1 0 []]) := rfl
  by_cases hv : (v.length : Int) > 1048576
  · have e : pbytes b v = b := if_pos hv
    rw [e]
    refine FunOwn.of0R [r220] told199 (by simp [il199]) (by simp [idb_patchA]) (by first | exact encI64.xs_idb _ | exact encU8.xs_idb _ | exact encNode.xs_idb _) ?_
    simp -implicitDefEqProofs only [il199, List.zipIdx_cons, List.zipIdx_nil, leafA, innerA, nodeA, patchA, Leaf.cells, Inner.cells, Node.cells, r220_c, r220_ask, decide_true, decide_false, hl2, hb, cl, hv, go_sem, Nat.reduceEqDiff, reduceIte, Nat.reduceAdd, Nat.reduceLeDiff, Nat.reduceLT, Nat.reduceSub]
    exact ⟨0, _, rfl, rfl⟩
  · have e : pbytes b v = (b ++ vput v.length) ++ v := if_neg hv
    rw [e]
    have hp := vput_len (n := (v.length : Int)) (by omega) (by omega)
    have hs : vsize (v.length : Int) ≤ 4 := vsize_le _
    obtain ⟨u, ap⟩ := encU8.app_any (H := [.arr 1 v0 (b.map (AV.int .u8)), .arr 1 0 ((b ++ vput (v.length : Int)).map (AV.int .u8))]) (id := 1) (ver := 0) (l := b ++ vput (v.length : Int)) (ys := v) (bytes := 1) rfl (by unfold maxRow; simp; omega) (by decide)
    have ap' : evAppend [.arr 1 v0 (b.map (AV.int .u8)), .arr 1 0 ((b ++ vput (v.length : Int)).map (AV.int .u8))] 1 1 (.own 1 0 0 (b ++ vput (v.length : Int)).length) (v.map (AV.int .u8)) = some (.own 1 u 0 ((b ++ vput (v.length : Int)) ++ v).length, [.arr 1 v0 (b.map (AV.int .u8)), .arr 1 u (((b ++ vput (v.length : Int)) ++ v).map (AV.int .u8))]) := ap
    refine FunOwn.of0R [r220] told199 (by simp [il199]) (by simp [idb_patchA]) (by first | exact encI64.xs_idb _ | exact encU8.xs_idb _ | exact encNode.xs_idb _) ?_
    simp -implicitDefEqProofs only [il199, List.zipIdx_cons, List.zipIdx_nil, leafA, innerA, nodeA, patchA, Leaf.cells, Inner.cells, Node.cells, r220_c, r220_ask, decide_true, decide_false, hl2, hb, cl, hv, ap', plainI, true_and, go_sem, Nat.reduceEqDiff, reduceIte, Nat.reduceAdd, Nat.reduceLeDiff, Nat.reduceLT, Nat.reduceSub]
    exact ⟨1, _, rfl, rfl⟩
noncomputable def r199 : Reg seat := .of told199 (ask2 (fun a0' a1' => isO a0' ∧ isO a1' ∧ (dO a0').length ≤ 4290000000) fun a0' a1' => .own 1 ((pbytes (dO a0') (dO a1')).map (AV.int .u8))) (ask2_ok fun a0' a1' h => SaidOk.own (FunOwn.weak (.cons (isO.weak h.1) (.cons (isO.weak h.2.1) .nil)) (refPutBytes_spec _ _ h.2.2)) (by first | exact encU8.xs_idb _ | exact encI64.xs_idb _ | exact encNode.xs_idb _))
theorem r199_c : r199.c = 199 := rfl
open Classical in
theorem r199_ask (a0' a1' : AV) : r199.ask [a0', a1'] = if isO a0' ∧ isO a1' ∧ (dO a0').length ≤ 4290000000 then some (Said.own 1 ((pbytes (dO a0') (dO a1')).map (AV.int .u8))) else none := by unfold r199 Reg.of ask2; exact ite_cl

theorem getBytes_spec (b : List Int) (hb : Oct b) : Fun seat 192 [octs b] (.tup [octs (gbytes b).1, octs (gbytes b).2.1, .int .i64 (gbytes b).2.2]) := by
  have h0 := vget_nat (bytes_of hb)
  have hlb := hb.1
  have hr := (vget_rest (b := b)).1
  simp only [Small] at hlb
  unfold gbytes
  rcases hv : vget b with ⟨n, r, e⟩
  rw [hv] at h0 hr
  simp only at h0 hr ⊢
  by_cases he : e = 0
  rotate_left
  · rw [if_pos he]
    refine Fun.of0R [r215] told192 (by simp [il192]) (by simp [idb_patchA]) (by simp [idb_patchA]) 4 ?_
    simp -implicitDefEqProofs only [il192, List.zipIdx_cons, List.zipIdx_nil, leafA, innerA, nodeA, patchA, Leaf.cells, Inner.cells, Node.cells, r215_c, r215_ask, decide_true, decide_false, hb, hv, he, go_sem, Nat.reduceEqDiff, reduceIte, Nat.reduceAdd, Nat.reduceLeDiff, Nat.reduceLT, Nat.reduceSub]
    try rfl
  rw [if_neg (not_not_intro he)]
  by_cases h1 : n > 1048576
  · rw [if_pos h1]
    refine Fun.of0R [r215] told192 (by simp [il192]) (by simp [idb_patchA]) (by simp [idb_patchA]) 4 ?_
    simp -implicitDefEqProofs only [il192, List.zipIdx_cons, List.zipIdx_nil, leafA, innerA, nodeA, patchA, Leaf.cells, Inner.cells, Node.cells, r215_c, r215_ask, decide_true, decide_false, hb, hv, he, h1, go_sem, Nat.reduceEqDiff, reduceIte, Nat.reduceAdd, Nat.reduceLeDiff, Nat.reduceLT, Nat.reduceSub]
    try rfl
  rw [if_neg h1]
  by_cases h2 : n > (r.length : Int)
  · rw [if_pos h2]
    refine Fun.of0R [r215] told192 (by simp [il192]) (by simp [idb_patchA]) (by simp [idb_patchA]) 4 ?_
    simp -implicitDefEqProofs only [il192, List.zipIdx_cons, List.zipIdx_nil, leafA, innerA, nodeA, patchA, Leaf.cells, Inner.cells, Node.cells, r215_c, r215_ask, decide_true, decide_false, hb, hv, he, h1, h2, go_sem, Nat.reduceEqDiff, reduceIte, Nat.reduceAdd, Nat.reduceLeDiff, Nat.reduceLT, Nat.reduceSub]
    try rfl
  rw [if_neg h2]
  have s1 := fun H => sliceTT_octs H r n h0 (by omega)
  have s2 := fun H => sliceF_octs H r n h0 (by omega)
  refine Fun.of0R [r215] told192 (by simp [il192]) (by simp [idb_patchA]) (by simp [idb_patchA]) 4 ?_
  simp -implicitDefEqProofs only [il192, List.zipIdx_cons, List.zipIdx_nil, leafA, innerA, nodeA, patchA, Leaf.cells, Inner.cells, Node.cells, r215_c, r215_ask, decide_true, decide_false, hb, hv, he, h1, h2, go_sem, Nat.reduceEqDiff, reduceIte, Nat.reduceAdd, Nat.reduceLeDiff, Nat.reduceLT, Nat.reduceSub]
  refine WP.drawQ [] [.l, .l, .l, .l, .l, .l, .l, .l, .l, .l] mixed (by decide) ?_
  simp -implicitDefEqProofs only [leafA, innerA, nodeA, patchA, Leaf.cells, Inner.cells, Node.cells, decide_true, decide_false, s1, s2, go_sem, Nat.reduceEqDiff, reduceIte, Nat.reduceAdd, Nat.reduceLeDiff, Nat.reduceLT, Nat.reduceSub]
  exact encU8.canon_tight [] 2 true _
noncomputable def r192 : Reg seat := .of told192 (ask1 (fun a0' => isO a0' ∧ Oct (dO a0')) fun a0' => .fn (.tup [octs (gbytes (dO a0')).1, octs (gbytes (dO a0')).2.1, .int .i64 (gbytes (dO a0')).2.2])) (ask1_ok fun a0' h => SaidOk.fn (Fun.weak (.cons (isO.weak h.1) .nil) (getBytes_spec _ h.2)))
theorem r192_c : r192.c = 192 := rfl
open Classical in
theorem r192_ask (a0' : AV) : r192.ask [a0'] = if isO a0' ∧ Oct (dO a0') then some (Said.fn (.tup [octs (gbytes (dO a0')).1, octs (gbytes (dO a0')).2.1, .int .i64 (gbytes (dO a0')).2.2])) else none := by unfold r192 Reg.of ask1; exact ite_cl
theorem refGetBytes_spec (b : List Int) (hb : Oct b) : Fun seat 194 [octs b] (.tup [octs (gbytes b).1, octs (gbytes b).2.1, .int .i64 (gbytes b).2.2]) := by
  have h0 := vget_nat (bytes_of hb)
  have hlb := hb.1
  have hr := (vget_rest (b := b)).1
  simp only [Small] at hlb
  unfold gbytes
  rcases hv : vget b with ⟨n, r, e⟩
  rw [hv] at h0 hr
  simp only at h0 hr ⊢
  by_cases he : e = 0
  rotate_left
  · rw [if_pos he]
    refine Fun.of0R [r217] told194 (by simp [il194]) (by simp [idb_patchA]) (by simp [idb_patchA]) 4 ?_
    simp -implicitDefEqProofs only [il194, List.zipIdx_cons, List.zipIdx_nil, leafA, innerA, nodeA, patchA, Leaf.cells, Inner.cells, Node.cells, r217_c, r217_ask, decide_true, decide_false, hb, hv, he, go_sem, Nat.reduceEqDiff, reduceIte, Nat.reduceAdd, Nat.reduceLeDiff, Nat.reduceLT, Nat.reduceSub]
    try rfl
  rw [if_neg (not_not_intro he)]
  by_cases h1 : n > 1048576
  · rw [if_pos h1]
    refine Fun.of0R [r217] told194 (by simp [il194]) (by simp [idb_patchA]) (by simp [idb_patchA]) 4 ?_
    simp -implicitDefEqProofs only [il194, List.zipIdx_cons, List.zipIdx_nil, leafA, innerA, nodeA, patchA, Leaf.cells, Inner.cells, Node.cells, r217_c, r217_ask, decide_true, decide_false, hb, hv, he, h1, go_sem, Nat.reduceEqDiff, reduceIte, Nat.reduceAdd, Nat.reduceLeDiff, Nat.reduceLT, Nat.reduceSub]
    try rfl
  rw [if_neg h1]
  by_cases h2 : n > (r.length : Int)
  · rw [if_pos h2]
    have h2' : (r.length : Int) < n := h2
    refine Fun.of0R [r217] told194 (by simp [il194]) (by simp [idb_patchA]) (by simp [idb_patchA]) 4 ?_
    simp -implicitDefEqProofs only [il194, List.zipIdx_cons, List.zipIdx_nil, leafA, innerA, nodeA, patchA, Leaf.cells, Inner.cells, Node.cells, r217_c, r217_ask, decide_true, decide_false, hb, hv, he, h1, h2', go_sem, Nat.reduceEqDiff, reduceIte, Nat.reduceAdd, Nat.reduceLeDiff, Nat.reduceLT, Nat.reduceSub]
    try rfl
  rw [if_neg h2]
  have h2' : ¬ (r.length : Int) < n := h2
  have s1 := fun H => sliceT_octs H r n h0 (by omega)
  have s2 := fun H => sliceF_octs H r n h0 (by omega)
  refine Fun.of0R [r217] told194 (by simp [il194]) (by simp [idb_patchA]) (by simp [idb_patchA]) 4 ?_
  simp -implicitDefEqProofs only [il194, List.zipIdx_cons, List.zipIdx_nil, leafA, innerA, nodeA, patchA, Leaf.cells, Inner.cells, Node.cells, r217_c, r217_ask, decide_true, decide_false, hb, hv, he, h1, h2', go_sem, Nat.reduceEqDiff, reduceIte, Nat.reduceAdd, Nat.reduceLeDiff, Nat.reduceLT, Nat.reduceSub]
  refine WP.drawQ [] [.l, .l, .l, .l, .l, .l, .l, .l, .l] mixed (by decide) ?_
  simp -implicitDefEqProofs only [leafA, innerA, nodeA, patchA, Leaf.cells, Inner.cells, Node.cells, decide_true, decide_false, s1, s2, go_sem, Nat.reduceEqDiff, reduceIte, Nat.reduceAdd, Nat.reduceLeDiff, Nat.reduceLT, Nat.reduceSub]
  try rfl
noncomputable def r194 : Reg seat := .of told194 (ask1 (fun a0' => isO a0' ∧ Oct (dO a0')) fun a0' => .fn (.tup [octs (gbytes (dO a0')).1, octs (gbytes (dO a0')).2.1, .int .i64 (gbytes (dO a0')).2.2])) (ask1_ok fun a0' h => SaidOk.fn (Fun.weak (.cons (isO.weak h.1) .nil) (refGetBytes_spec _ h.2)))
theorem r194_c : r194.c = 194 := rfl
open Classical in
theorem r194_ask (a0' : AV) : r194.ask [a0'] = if isO a0' ∧ Oct (dO a0') then some (Said.fn (.tup [octs (gbytes (dO a0')).1, octs (gbytes (dO a0')).2.1, .int .i64 (gbytes (dO a0')).2.2])) else none := by unfold r194 Reg.of ask1; exact ite_cl

theorem weak_nilO : Weak (.list true []) (octs []) = True := eq_true (.list true [])
theorem weak_nilI : Weak (.list true []) (ints []) = True := eq_true (.list true [])
theorem clamp4 : (clampK 4).toNat = 4 := rfl
theorem putNumF_spec (b : List Int) (n k : Int) (hl : b.length ≤ 4294960000) : Fun seat 214 [octs b, .int .i64 n, .int .i64 k] (octs (b ++ beK (clampK k).toNat n)) := (putNum_spec b n k hl).val (encU8.xs_idb _)
noncomputable def r214f : Reg seat := .of told214 (ask3 (fun a0' a1' a2' => isO a0' ∧ isI a1' ∧ isI a2' ∧ (dO a0').length ≤ 4294960000) fun a0' a1' a2' => .fn (octs ((dO a0') ++ beK (clampK (dI a2')).toNat (dI a1')))) (ask3_ok fun a0' a1' a2' h => SaidOk.fn (Fun.weak (.cons (isO.weak h.1) (.cons (isI.weak h.2.1) (.cons (isI.weak h.2.2.1) .nil))) (putNumF_spec _ _ _ h.2.2.2)))
theorem r214f_c : r214f.c = 214 := rfl
open Classical in
theorem r214f_ask (a0' a1' a2' : AV) : r214f.ask [a0', a1', a2'] = if isO a0' ∧ isI a1' ∧ isI a2' ∧ (dO a0').length ≤ 4294960000 then some (Said.fn (octs ((dO a0') ++ beK (clampK (dI a2')).toNat (dI a1')))) else none := by unfold r214f Reg.of ask3; exact ite_cl
theorem refPutNumF_spec (b : List Int) (n k : Int) (hl : b.length ≤ 4294960000) : Fun seat 221 [octs b, .int .i64 n, .int .i64 k] (octs (b ++ beK (clampK k).toNat n)) := (refPutNum_spec b n k hl).val (encU8.xs_idb _)
noncomputable def r221f : Reg seat := .of told221 (ask3 (fun a0' a1' a2' => isO a0' ∧ isI a1' ∧ isI a2' ∧ (dO a0').length ≤ 4294960000) fun a0' a1' a2' => .fn (octs ((dO a0') ++ beK (clampK (dI a2')).toNat (dI a1')))) (ask3_ok fun a0' a1' a2' h => SaidOk.fn (Fun.weak (.cons (isO.weak h.1) (.cons (isI.weak h.2.1) (.cons (isI.weak h.2.2.1) .nil))) (refPutNumF_spec _ _ _ h.2.2.2)))
theorem r221f_c : r221f.c = 221 := rfl
open Classical in
theorem r221f_ask (a0' a1' a2' : AV) : r221f.ask [a0', a1', a2'] = if isO a0' ∧ isI a1' ∧ isI a2' ∧ (dO a0').length ≤ 4294960000 then some (Said.fn (octs ((dO a0') ++ beK (clampK (dI a2')).toNat (dI a1')))) else none := by unfold r221f Reg.of ask3; exact ite_cl

set_option maxHeartbeats 1000000 in
theorem putNums_spec (b l : List Int) (hl : b.length ≤ 4290000000) (hl2 : l.length ≤ 1000000000) : FunOwn seat 197 [octs b, ints l] 1 ((pnums b l).map (AV.int .u8)) := by
  unfold pnums
  refine FunOwn.of0R [r198] told197 (by simp [il197]) (by simp [idb_patchA]) (by first | exact encI64.xs_idb _ | exact encU8.xs_idb _ | exact encNode.xs_idb _) ?_
  simp -implicitDefEqProofs only [il197, List.zipIdx_cons, List.zipIdx_nil, leafA, innerA, nodeA, patchA, Leaf.cells, Inner.cells, Node.cells, r198_c, r198_ask, decide_true, decide_false, hl, go_sem, Nat.reduceEqDiff, reduceIte, Nat.reduceAdd, Nat.reduceLeDiff, Nat.reduceLT, Nat.reduceSub]
  refine WP.weakL [(0, octs b), (5, octs []), (8, ints l), (9, .int .i64 l.length), (10, .int .i64 0)] ?_ ?_
  · simp only [upd_envL, envL_cons, Nat.reduceEqDiff, reduceIte, List.mem_cons, List.not_mem_nil, or_false, forall_eq_or_imp, forall_eq, weak_refl, weak_nilO, and_self]
  refine WP.loop0 (fun k => k ≤ l.length) (fun k => [(0, octs b), (5, octs ((l.take k).flatMap be4)), (8, ints l), (9, .int .i64 l.length), (10, .int .i64 (k : Nat))]) (fun k => l.length - k) 0 (Nat.zero_le _) (fun i _ => by simp ) (by simp ) ?_
  intro k hk
  refine wpc_soundR [r214f] ?_
  by_cases hlt : (k : Int) < (l.length : Nat)
  · have hk' : k < l.length := by omega
    have hb4 : ((l.take k).flatMap be4).length ≤ 4294960000 := by rw [be4_len, List.length_take]; omega
    have ft := flat_take hk'
    rw [← beK_4] at ft
    simp -implicitDefEqProofs only [leafA, innerA, nodeA, patchA, Leaf.cells, Inner.cells, Node.cells, r214f_c, r214f_ask, decide_true, decide_false, hlt, hb4, clamp4, fun H => index_ints H l k hk', go_sem, Nat.reduceEqDiff, reduceIte, Nat.reduceAdd, Nat.reduceLeDiff, Nat.reduceLT, Nat.reduceSub]
    exact ⟨k + 1, by omega, by omega, by simp [wrapS (show k < 9223372036854775807 by omega), ft]⟩
  · have e : k = l.length := by omega
    subst e
    rw [List.take_length]
    simp -implicitDefEqProofs only [leafA, innerA, nodeA, patchA, Leaf.cells, Inner.cells, Node.cells, r198_c, r198_ask, decide_true, decide_false, hlt, hl, go_sem, Nat.reduceEqDiff, reduceIte, Nat.reduceAdd, Nat.reduceLeDiff, Nat.reduceLT, Nat.reduceSub]
    exact ⟨0, _, rfl, rfl⟩
noncomputable def r197 : Reg seat := .of told197 (ask2 (fun a0' a1' => isO a0' ∧ isS a1' ∧ (dO a0').length ≤ 4290000000 ∧ (dO a1').length ≤ 1000000000) fun a0' a1' => .own 1 ((pnums (dO a0') (dO a1')).map (AV.int .u8))) (ask2_ok fun a0' a1' h => SaidOk.own (FunOwn.weak (.cons (isO.weak h.1) (.cons (isS.weak h.2.1) .nil)) (putNums_spec _ _ h.2.2.1 h.2.2.2)) (by first | exact encU8.xs_idb _ | exact encI64.xs_idb _ | exact encNode.xs_idb _))
theorem r197_c : r197.c = 197 := rfl
open Classical in
theorem r197_ask (a0' a1' : AV) : r197.ask [a0', a1'] = if isO a0' ∧ isS a1' ∧ (dO a0').length ≤ 4290000000 ∧ (dO a1').length ≤ 1000000000 then some (Said.own 1 ((pnums (dO a0') (dO a1')).map (AV.int .u8))) else none := by unfold r197 Reg.of ask2; exact ite_cl
set_option maxHeartbeats 1000000 in
theorem refPutNums_spec (b l : List Int) (hl : b.length ≤ 4290000000) (hl2 : l.length ≤ 1000000000) : FunOwn seat 200 [octs b, ints l] 1 ((pnums b l).map (AV.int .u8)) := by
  unfold pnums
  refine FunOwn.of0R [r199] told200 (by simp [il200]) (by simp [idb_patchA]) (by first | exact encI64.xs_idb _ | exact encU8.xs_idb _ | exact encNode.xs_idb _) ?_
  simp -implicitDefEqProofs only [il200, List.zipIdx_cons, List.zipIdx_nil, leafA, innerA, nodeA, patchA, Leaf.cells, Inner.cells, Node.cells, r199_c, r199_ask, decide_true, decide_false, hl, go_sem, Nat.reduceEqDiff, reduceIte, Nat.reduceAdd, Nat.reduceLeDiff, Nat.reduceLT, Nat.reduceSub]
  refine WP.weakL [(0, octs b), (1, ints l), (5, octs []), (6, .int .i64 0)] ?_ ?_
  · simp only [upd_envL, envL_cons, Nat.reduceEqDiff, reduceIte, List.mem_cons, List.not_mem_nil, or_false, forall_eq_or_imp, forall_eq, weak_refl, weak_nilO, and_self]
  refine WP.loop0 (fun k => k ≤ l.length) (fun k => [(0, octs b), (1, ints l), (5, octs ((l.take k).flatMap be4)), (6, .int .i64 (k : Nat))]) (fun k => l.length - k) 0 (Nat.zero_le _) (fun i _ => by simp ) (by simp ) ?_
  intro k hk
  refine wpc_soundR [r221f] ?_
  by_cases hlt : (k : Int) < (l.length : Nat)
  · have hk' : k < l.length := by omega
    have hb4 : ((l.take k).flatMap be4).length ≤ 4294960000 := by rw [be4_len, List.length_take]; omega
    have ft := flat_take hk'
    rw [← beK_4] at ft
    simp -implicitDefEqProofs only [leafA, innerA, nodeA, patchA, Leaf.cells, Inner.cells, Node.cells, r221f_c, r221f_ask, decide_true, decide_false, hlt, hb4, clamp4, fun H => index_ints H l k hk', go_sem, Nat.reduceEqDiff, reduceIte, Nat.reduceAdd, Nat.reduceLeDiff, Nat.reduceLT, Nat.reduceSub]
    exact ⟨k + 1, by omega, by omega, by simp [wrapS (show k < 9223372036854775807 by omega), ft]⟩
  · have e : k = l.length := by omega
    subst e
    rw [List.take_length]
    simp -implicitDefEqProofs only [leafA, innerA, nodeA, patchA, Leaf.cells, Inner.cells, Node.cells, r199_c, r199_ask, decide_true, decide_false, hlt, hl, go_sem, Nat.reduceEqDiff, reduceIte, Nat.reduceAdd, Nat.reduceLeDiff, Nat.reduceLT, Nat.reduceSub]
    exact ⟨0, _, rfl, rfl⟩
noncomputable def r200 : Reg seat := .of told200 (ask2 (fun a0' a1' => isO a0' ∧ isS a1' ∧ (dO a0').length ≤ 4290000000 ∧ (dO a1').length ≤ 1000000000) fun a0' a1' => .own 1 ((pnums (dO a0') (dO a1')).map (AV.int .u8))) (ask2_ok fun a0' a1' h => SaidOk.own (FunOwn.weak (.cons (isO.weak h.1) (.cons (isS.weak h.2.1) .nil)) (refPutNums_spec _ _ h.2.2.1 h.2.2.2)) (by first | exact encU8.xs_idb _ | exact encI64.xs_idb _ | exact encNode.xs_idb _))
theorem r200_c : r200.c = 200 := rfl
open Classical in
theorem r200_ask (a0' a1' : AV) : r200.ask [a0', a1'] = if isO a0' ∧ isS a1' ∧ (dO a0').length ≤ 4290000000 ∧ (dO a1').length ≤ 1000000000 then some (Said.own 1 ((pnums (dO a0') (dO a1')).map (AV.int .u8))) else none := by unfold r200 Reg.of ask2; exact ite_cl
end Go.Proofs.YtlehcigcaihoaaaGreat.Al
