/-
  SPECS: the document's leaves and nodes as octets.
-/
import Derived.Test.YtlehcigcaihoaaaGreatAlQ6
import Derived.Test.YtlehcigcaihoaaaGreatAlS2B
set_option linter.unusedSimpArgs false
set_option linter.unusedVariables false
namespace Go.Proofs.YtlehcigcaihoaaaGreat.Al
open Go
attribute [local go_sem] W_mv W_pick W_alloc W_box W_build W_bslice W_load W_store W_nilck W_bin W_isnil W_un W_convI W_convS W_mkiface W_mkfunc W_mkslice W_slice W_faddr W_field W_iaddr W_iaddrA W_idxA W_extract W_len W_lenS W_lenA W_min W_max W_append W_appendZ W_copy W_clear W_tassert W_invoke thenQ_normal thenQ_exit thenQ_goto thenQ_ret blockQ_normal blockQ_ret blockQ_goto blockQ_exit wpc_skip wpc_region wpc_draw wpc_seq wpc_cond wpc_block wpc_exit wpc_goto wpc_label wpc_ret wpc_loop wpc_range wpc_scope condW_true condW_false condW_dec condW_any W_nil W_call resW_some evalOp Opd.ev updo_envL updo_none setL_cons setL_nil envL_cons Option.map_some Option.bind_some evBin evInt List.map_cons List.map_nil Option.pure_def Option.bind_eq_bind W_grd' grdW_tt grdW_ff grdW_tf grdW_ft grdW_tup grdW_dt grdW_df lgrdW_tt lgrdW_ff lgrdW_tf lgrdW_ft lgrdW_tup lgrdW_dt lgrdW_df L_mv L_pick L_alloc L_box L_build L_bslice L_load L_store L_nilck L_bin L_isnil L_un L_convI L_convS L_mkiface L_mkfunc L_mkslice L_slice L_faddr L_field L_iaddr L_iaddrA L_idxA L_extract L_len L_lenS L_lenA L_min L_max L_append L_appendZ L_copy L_clear L_tassert L_nil L_call L_grd lresW_some upd_envL evUn beq_dec bne_dec leaves_ret1 leaves_end1 leaves_ret0 leaves_end0 leaves_ret2 leaves_ret3 rowLen_ints load_iptr0 not_dec heap_get0 heap_get1 heap_set0 heap_set1 heap_len1 heap_len2 heap_app heap_app2 bslice1_int seen_ints seen_one0 seen_one1 seen_one2 rowLen_own0 bslice0_int rowLen_own1 Nat.sub_zero Bool.not_true Bool.not_false List.length_nil List.length_cons List.nil_append List.cons_append Nat.zero_add load_iptrA canon_ptrI canon_bool canon_tup canon_agg canon_leafA canon_innerA canon_nodeA canon_ints' rowLen_ints0 seen_ints0 canon_ints0 rowLen_ints1 seen_ints1 canon_ints1 rowLen_ints2 seen_ints2 canon_ints2 rowLen_ints3 seen_ints3 canon_ints3 rowLen_octs seen_octs canon_octs' szOk_octs rowLen_octs0 seen_octs0 canon_octs0 rowLen_octs1 seen_octs1 canon_octs1 rowLen_octs2 seen_octs2 canon_octs2 rowLen_octs3 seen_octs3 canon_octs3 rowLen_intss seen_intss canon_intss' szOk_intss rowLen_intss0 seen_intss0 canon_intss0 rowLen_intss1 seen_intss1 canon_intss1 rowLen_intss2 seen_intss2 canon_intss2 rowLen_intss3 seen_intss3 canon_intss3 rowLen_octss seen_octss canon_octss' szOk_octss rowLen_octss0 seen_octss0 canon_octss0 rowLen_octss1 seen_octss1 canon_octss1 rowLen_octss2 seen_octss2 canon_octss2 rowLen_octss3 seen_octss3 canon_octss3 rowLen_nodes seen_nodes canon_nodes' szOk_nodes rowLen_nodes0 seen_nodes0 canon_nodes0 rowLen_nodes1 seen_nodes1 canon_nodes1 rowLen_nodes2 seen_nodes2 canon_nodes2 rowLen_nodes3 seen_nodes3 canon_nodes3 seen_list cells_int oneIn_int cells_bool oneIn_bool cells_str oneIn_str cells_list oneIn_list cells_func oneIn_func cells_nilfunc oneIn_nilfunc cells_iptr oneIn_iptr cells_iface oneIn_iface cells_nilIface oneIn_nilIface cells_own cells_ptr cells_anybool oneIn_anybool cells_agg oneIn_own0 oneIn_ptr0 seenL0 seenM0 oneIn_own1 oneIn_ptr1 seenL1 seenM1 oneIn_own2 oneIn_ptr2 seenL2 seenM2 oneIn_own3 oneIn_ptr3 seenL3 seenM3 oneIn_own4 oneIn_ptr4 seenL4 seenM4 oneIn_own5 oneIn_ptr5 seenL5 seenM5 cells_ints oneIn_ints cells_octs oneIn_octs cells_intss oneIn_intss cells_octss oneIn_octss cells_nodes oneIn_nodes ldB0 ldA0 adB0 stB0 ldB1 ldA1 adB1 stB1 ldB2 ldA2 adB2 stB2 ldB3 ldA3 adB3 stB3 ldB4 ldA4 adB4 stB4 ldB5 ldA5 adB5 stB5 List.getElem?_cons_zero List.getElem?_cons_succ beq_self_eq_true splice List.take_zero List.take_succ_cons List.drop_zero List.drop_succ_cons List.append_nil List.set_cons_zero List.set_cons_succ List.all_cons List.all_nil Bool.and_self and_self and_true true_and Nat.lt_irrefl Nat.zero_lt_one Nat.le_refl fillA evNil notA Bool.false_eq_true evMin_int evMax_int Option.map_none freezeP_all_nil freezeP_all_cons frzE_box frzE_arr frzE_dead foldA List.foldlM_cons List.foldlM_nil callW_f lcallW_f ansW_fn ansW_own lansW_fn lansW_own ansW_none lansW_none tab_cons tab_nil dI_int dB_bool dO_octs dO_ints dO_list dO_nil dOs_octss dOs_intss dOs_nil dLf_leafA dIn_innerA dN_nodeA dLf_agg dIn_agg dN_agg dNs_nodes dNs_list dNs_nil isI_int isU_int isB_bool isO_octs isO_nil isO_list isS_ints isS_nil isS_list isOs_octss isSs_intss isOs_nil isSs_nil isNs_nodes isNs_list isNs_nil isLf_leafA isIn_innerA isN_nodeA isLf_agg isIn_agg isN_agg leaf_eta inner_eta node_eta leaf_zero inner_zero node_zero dP_patchA dP_agg isP_patchA isP_agg patch_eta decide_eq_true_eq decide_eq_false_iff_not eq_self forall_const true_implies false_implies Bool.not_eq_true' Bool.not_eq_false' Bool.true_eq_false implies_true ne_eq ldI ldIA adI AV.tup.injEq AV.agg.injEq List.cons.injEq AV.int.injEq AV.bool.injEq nodes_inj octs_inj ints_inj nil_nodes nil_octs nil_ints canon_nilL decide_eq_decide two_ne four_ne b256_ne lendA_fn lendA_own lendA_none llendA_fn llendA_none plain_bool plain_int plain_tup2 isNs_own isO_own isS_own isOs_own false_and and_false Q_nil Q_l Q_g Q_h Q_grd qgrdW_b qgrdW_tup lightD_some heavyD_some readD_some fnD_some fnD_own fnD_none callL_f ownH_some callH_f litD_some litE_some Q_call Q_bslice H_call pendOk_nil pendOk_cons pastOk_nil pastOk_cons Q_mv Q_pick Q_bin Q_un Q_convI Q_mkfunc Q_extract Q_min Q_max Q_lenS Q_lenA Q_field Q_idxA Q_mkiface Q_tassert Q_alloc Q_box Q_store Q_mkslice Q_append Q_appendZ Q_copy Q_clear Q_build Q_load Q_nilck Q_isnil Q_convS Q_slice Q_faddr Q_iaddr Q_iaddrA Q_len H_alloc H_box H_bslice H_store H_mkslice H_append H_appendZ H_copy H_clear free_mv free_pick free_bin free_un free_convI free_mkfunc free_extract free_min free_max free_lenS free_lenA free_field free_idxA free_mkiface free_tassert free_build free_load free_nilck free_isnil free_convS free_slice free_faddr free_iaddr free_iaddrA free_len callW_y List.length_map List.length_set leaves_r evR_some evRess1 evRess2 evRess3 evRes_t evRes_c nz_kind nz_enc nz_cred nz_source nz_parent nz_ienc nz_hash nz_un true_or or_true bsl_node idbs_node idbs_int appN appI appO ixo_nodes canon_row canon_rowI canon_rowO not_false_eq_true not_true_eq_false ldE_a ldE_c adE_b stE_b onE_a onP_b bsl_zero idbs_zero appN_zero
attribute [local go_sem low] condW_b grdW_b lgrdW_b ldP adP stP onO onPt
attribute [local simp] envL_cons envL_nil idb_int idb_bool idb_str idb_ints idb_nil idb_own idb_ptr entB_ints' idb_octs entB_octs idb_intss entB_intss idb_octss entB_octss idb_nodes entB_nodes idb_leafA idb_innerA idb_nodeA idb_agg idb_tup idb_iptr idb_fn idb_undef entB_dead entB_box
attribute [local go_sem high] qgrdW_tt qgrdW_ff qgrdW_tf qgrdW_ft

theorem refFput_spec (b : List Int) (f : Bool) (hb : b.length ≤ 4294960000) : Fun seat 245 [octs b, .bool f] (octs (fput b f)) := by
  unfold fput
  cases f with
  | true =>
    refine Fun.of0R [r221f] told245 (by simp [il245]) (by simp [idb_patchA]) (by simp [idb_patchA]) 4 ?_
    simp -implicitDefEqProofs only [il245, List.zipIdx_cons, List.zipIdx_nil, leafA, innerA, nodeA, patchA, Leaf.cells, Inner.cells, Node.cells, r221f_c, r221f_ask, decide_true, decide_false, hb, clamp1, go_sem, Nat.reduceEqDiff, reduceIte, Nat.reduceAdd, Nat.reduceLeDiff, Nat.reduceLT, Nat.reduceSub]
  | false =>
    refine Fun.of0R [r221f] told245 (by simp [il245]) (by simp [idb_patchA]) (by simp [idb_patchA]) 4 ?_
    simp -implicitDefEqProofs only [il245, List.zipIdx_cons, List.zipIdx_nil, leafA, innerA, nodeA, patchA, Leaf.cells, Inner.cells, Node.cells, r221f_c, r221f_ask, decide_true, decide_false, hb, clamp1, go_sem, Nat.reduceEqDiff, reduceIte, Nat.reduceAdd, Nat.reduceLeDiff, Nat.reduceLT, Nat.reduceSub]
noncomputable def r245 : Reg seat := .of told245 (ask2 (fun a0' a1' => isO a0' ∧ isB a1' ∧ (dO a0').length ≤ 4294960000) fun a0' a1' => .fn (octs (fput (dO a0') (dB a1')))) (ask2_ok fun a0' a1' h => SaidOk.fn (Fun.weak (.cons (isO.weak h.1) (.cons (isB.weak h.2.1) .nil)) (refFput_spec _ _ h.2.2)))
theorem r245_c : r245.c = 245 := rfl
open Classical in
theorem r245_ask (a0' a1' : AV) : r245.ask [a0', a1'] = if isO a0' ∧ isB a1' ∧ (dO a0').length ≤ 4294960000 then some (Said.fn (octs (fput (dO a0') (dB a1')))) else none := by unfold r245 Reg.of ask2; exact ite_cl
theorem gflag_cons (x : Int) (r : List Int) : gflag (x :: r) = if x > 1 then (false, [], 2) else (decide (x = 1), r, 0) := by
  have e : gnum 1 (x :: r) = (x, r, 0) := by simp [gnum, num]
  unfold gflag; rw [e]; simp
theorem refGflag_spec (b : List Int) (hb : Oct b) : Fun seat 242 [octs b] (.tup [.bool (gflag b).1, octs (gflag b).2.1, .int .i64 (gflag b).2.2]) := by
  cases b with
  | nil =>
    have e : gflag [] = (false, [], 1) := rfl
    rw [e]
    refine Fun.of0R [] told242 (by simp [il242]) (by simp [idb_patchA]) (by simp [idb_patchA]) 4 ?_
    simp -implicitDefEqProofs only [il242, List.zipIdx_cons, List.zipIdx_nil, leafA, innerA, nodeA, patchA, Leaf.cells, Inner.cells, Node.cells, decide_true, decide_false, Int.ofNat_zero, List.length_nil, go_sem, Nat.reduceEqDiff, reduceIte, Nat.reduceAdd, Nat.reduceLeDiff, Nat.reduceLT, Nat.reduceSub]
    try rfl
  | cons x r =>
    rw [gflag_cons]
    have l0 : ¬ ((r.length + 1 : Nat) : Int) = 0 := by omega
    have i0 : ∀ H, evIndex H 1 (octs (x :: r)) (.int .i64 0) = some (.iptr [.int .u8 x] 0) := fun H => index_octs H (x :: r) 0 (by simp)
    have sl : ∀ H, evSlice H 1 (octs (x :: r)) (some (.int .i64 1)) none none = some (octs r) := fun H => by
      have := sliceF_octs H (x :: r) 1 (by omega) (by simp)
      exact this
    by_cases h : x > 1
    · rw [if_pos h]
      refine Fun.of0R [] told242 (by simp [il242]) (by simp [idb_patchA]) (by simp [idb_patchA]) 4 ?_
      simp -implicitDefEqProofs only [il242, List.zipIdx_cons, List.zipIdx_nil, leafA, innerA, nodeA, patchA, Leaf.cells, Inner.cells, Node.cells, decide_true, decide_false, l0, i0, h, go_sem, Nat.reduceEqDiff, reduceIte, Nat.reduceAdd, Nat.reduceLeDiff, Nat.reduceLT, Nat.reduceSub]
      try rfl
    · rw [if_neg h]
      refine Fun.of0R [] told242 (by simp [il242]) (by simp [idb_patchA]) (by simp [idb_patchA]) 4 ?_
      simp -implicitDefEqProofs only [il242, List.zipIdx_cons, List.zipIdx_nil, leafA, innerA, nodeA, patchA, Leaf.cells, Inner.cells, Node.cells, decide_true, decide_false, l0, i0, h, go_sem, Nat.reduceEqDiff, reduceIte, Nat.reduceAdd, Nat.reduceLeDiff, Nat.reduceLT, Nat.reduceSub]
      refine WP.drawQ [] [.l, .g 0 0, .g 0 0, .l, .l, .g 0 0, .l, .l, .l] mixed (by decide) ?_
      simp -implicitDefEqProofs only [leafA, innerA, nodeA, patchA, Leaf.cells, Inner.cells, Node.cells, decide_true, decide_false, i0, sl, go_sem, Nat.reduceEqDiff, reduceIte, Nat.reduceAdd, Nat.reduceLeDiff, Nat.reduceLT, Nat.reduceSub]
noncomputable def r242 : Reg seat := .of told242 (ask1 (fun a0' => isO a0' ∧ Oct (dO a0')) fun a0' => .fn (.tup [.bool (gflag (dO a0')).1, octs (gflag (dO a0')).2.1, .int .i64 (gflag (dO a0')).2.2])) (ask1_ok fun a0' h => SaidOk.fn (Fun.weak (.cons (isO.weak h.1) .nil) (refGflag_spec _ h.2)))
theorem r242_c : r242.c = 242 := rfl
open Classical in
theorem r242_ask (a0' : AV) : r242.ask [a0'] = if isO a0' ∧ Oct (dO a0') then some (Said.fn (.tup [.bool (gflag (dO a0')).1, octs (gflag (dO a0')).2.1, .int .i64 (gflag (dO a0')).2.2])) else none := by unfold r242 Reg.of ask1; exact ite_cl

set_option maxHeartbeats 1000000 in
theorem refLput_spec (b : List Int) (l : Leaf) (hb : b.length ≤ 4270000000) (hl : l.Ok) : Fun seat 246 [octs b, leafA l] (octs (lput b l)) := by
  have b0 : b.length ≤ 4294967295 := by omega
  have cl : ∃ v, evAppend [.box [octs l.enc, octs l.cred, .int .i64 l.source, octs l.parent], Entry.arr 1 0 []] 1 1 (.own 1 0 0 0) (b.map (AV.int .u8)) = some (.own 1 v 0 b.length, [.box [octs l.enc, octs l.cred, .int .i64 l.source, octs l.parent], .arr 1 v (b.map (AV.int .u8))]) := by
    obtain ⟨v, hv⟩ := encU8.app_any (H := [.box [octs l.enc, octs l.cred, .int .i64 l.source, octs l.parent], Entry.arr 1 0 (([] : List Int).map (AV.int .u8))]) (id := 1) (ver := 0) (l := []) (ys := b) (bytes := 1) rfl (by unfold maxRow; simp; omega) (by decide)
    exact ⟨v, by simpa [encU8] using hv⟩
  obtain ⟨v0, cl⟩ := cl
  have hb0 : ∀ e : Entry, evBslice [e] 1 0 (.int .u8 0) [] = some (.own 1 0 0 0, [e, .arr 1 0 []]) := fun _ => rfl
  by_cases hc : leafCheck l = 0
  rotate_left
  · have e : lput b l = b := if_pos hc
    rw [e]
    refine Fun.of0R [r164] told246 (by simp [il246]) (by simp [idb_patchA]) (by simp [idb_patchA]) 4 ?_
    simp -implicitDefEqProofs only [il246, List.zipIdx_cons, List.zipIdx_nil, leafA, innerA, nodeA, patchA, Leaf.cells, Inner.cells, Node.cells, r164_c, r164_ask, decide_true, decide_false, hl, hc, cl, hb0, go_sem, Nat.reduceEqDiff, reduceIte, Nat.reduceAdd, Nat.reduceLeDiff, Nat.reduceLT, Nat.reduceSub]
  have l1 := pbytes_len b l.enc
  have l2 := pbytes_len (pbytes b l.enc) l.cred
  have b1 : b.length ≤ 4290000000 := by omega
  have b2 : (pbytes b l.enc).length ≤ 4290000000 := by omega
  have b3 : (pbytes (pbytes b l.enc) l.cred).length ≤ 4294960000 := by omega
  have b4 : (pbytes (pbytes b l.enc) l.cred ++ beK 1 l.source).length ≤ 4290000000 := by rw [List.length_append, beK1_len]; omega
  have e : lput b l = if l.source = 3 then pbytes (pbytes (pbytes b l.enc) l.cred ++ beK 1 l.source) l.parent else pbytes (pbytes b l.enc) l.cred ++ beK 1 l.source := if_neg (not_not_intro hc)
  rw [e]
  by_cases hs : l.source = 3
  · rw [if_pos hs]
    refine Fun.of0R [r164, r199, r221] told246 (by simp [il246]) (by simp [idb_patchA]) (by simp [idb_patchA]) 4 ?_
    simp -implicitDefEqProofs only [il246, List.zipIdx_cons, List.zipIdx_nil, leafA, innerA, nodeA, patchA, Leaf.cells, Inner.cells, Node.cells, r164_c, r164_ask, r199_c, r199_ask, r221_c, r221_ask, decide_true, decide_false, hl, hc, cl, hb0, b1, b2, b3, b4, clamp1, eq_true hs, plainI, true_and, go_sem, Nat.reduceEqDiff, reduceIte, Nat.reduceAdd, Nat.reduceLeDiff, Nat.reduceLT, Nat.reduceSub]
  · rw [if_neg hs]
    refine Fun.of0R [r164, r199, r221] told246 (by simp [il246]) (by simp [idb_patchA]) (by simp [idb_patchA]) 4 ?_
    simp -implicitDefEqProofs only [il246, List.zipIdx_cons, List.zipIdx_nil, leafA, innerA, nodeA, patchA, Leaf.cells, Inner.cells, Node.cells, r164_c, r164_ask, r199_c, r199_ask, r221_c, r221_ask, decide_true, decide_false, hl, hc, cl, hb0, b1, b2, b3, b4, clamp1, hs, plainI, true_and, go_sem, Nat.reduceEqDiff, reduceIte, Nat.reduceAdd, Nat.reduceLeDiff, Nat.reduceLT, Nat.reduceSub]
noncomputable def r246 : Reg seat := .of told246 (ask2 (fun a0' a1' => isO a0' ∧ isLf a1' ∧ (dO a0').length ≤ 4270000000 ∧ (dLf a1').Ok) fun a0' a1' => .fn (octs (lput (dO a0') (dLf a1')))) (ask2_ok fun a0' a1' h => SaidOk.fn (Fun.weak (.cons (isO.weak h.1) (.cons (isLf.weak h.2.1) .nil)) (refLput_spec _ _ h.2.2.1 h.2.2.2)))
theorem r246_c : r246.c = 246 := rfl
open Classical in
theorem r246_ask (a0' a1' : AV) : r246.ask [a0', a1'] = if isO a0' ∧ isLf a1' ∧ (dO a0').length ≤ 4270000000 ∧ (dLf a1').Ok then some (Said.fn (octs (lput (dO a0') (dLf a1')))) else none := by unfold r246 Reg.of ask2; exact ite_cl

theorem srcE_bad {s e : Int} (h : ¬ e = 0) : srcE s e = e := if_neg fun x => h x.1
theorem srcE_out {s : Int} (h : ¬ (s ≥ 1 ∧ s ≤ 3)) : srcE s 0 = 7 := if_pos ⟨rfl, h⟩
theorem srcE_in {s : Int} (h : s ≥ 1 ∧ s ≤ 3) : srcE s 0 = 0 := if_neg fun x => x.2 h
set_option maxRecDepth 100000 in
set_option maxHeartbeats 4000000 in
theorem refLget_spec (b : List Int) (hb : Oct b) : Fun seat 243 [octs b] (.tup [leafA (lget b).1, octs (lget b).2.1, .int .i64 (lget b).2.2]) := by
  have ho := gbytes_oct hb
  rcases h1 : gbytes b with ⟨x, r1, e1⟩
  rw [h1] at ho
  have ho2 := gbytes_oct ho.2
  simp only at ho
  rcases h2 : gbytes r1 with ⟨y, r2, e2⟩
  rw [h2] at ho2
  simp only at ho2
  have ho3 := gnum_oct (k := 1) ho2.2
  have hs64 : In64 (gnum 1 r2).1 := by
    have e1 : IntKind.i64.min = -9223372036854775808 := rfl
    have e2 : IntKind.i64.max = 9223372036854775807 := rfl
    unfold gnum
    split
    · exact In64.zero
    · have := num_bd3 (l := r2.take 1) (bytes_take (bytes_of ho2.2) 1) (by rw [List.length_take]; omega)
      simp only [In64]; omega
  rcases h3 : gnum 1 r2 with ⟨s, r3, e3⟩
  rw [h3] at ho3 hs64
  simp only at ho3 hs64
  have o1 := ho.2
  have o2 := ho2.2
  have ho4 := gbytes_oct ho3
  rcases h4 : gbytes r3 with ⟨p, r4, e4⟩
  rw [h4] at ho4
  simp only at ho4
  have g4 : gpar s r3 = if s = 3 then (p, r4, e4) else ([], r3, 0) := by unfold gpar; rw [h4]
  by_cases he1 : e1 = 0
  rotate_left
  · rw [lget_eq h1 h2 h3 (p := (gpar s r3).1) (r4 := (gpar s r3).2.1) (e4 := (gpar s r3).2.2) rfl, if_pos he1]
    refine Fun.of0R [r194] told243 (by simp [il243]) (by simp [idb_patchA]) (by simp [idb_patchA]) 4 ?_
    simp -implicitDefEqProofs only [il243, List.zipIdx_cons, List.zipIdx_nil, leafA, innerA, nodeA, patchA, Leaf.cells, Inner.cells, Node.cells, r194_c, r194_ask, decide_true, decide_false, hb, h1, he1, go_sem, Nat.reduceEqDiff, reduceIte, Nat.reduceAdd, Nat.reduceLeDiff, Nat.reduceLT, Nat.reduceSub]
    try exact ⟨rfl, rfl, rfl, rfl⟩
  by_cases he2 : e2 = 0
  rotate_left
  · rw [lget_eq h1 h2 h3 (p := (gpar s r3).1) (r4 := (gpar s r3).2.1) (e4 := (gpar s r3).2.2) rfl, if_neg (not_not_intro he1), if_pos he2]
    refine Fun.of0R [r194] told243 (by simp [il243]) (by simp [idb_patchA]) (by simp [idb_patchA]) 4 ?_
    simp -implicitDefEqProofs only [il243, List.zipIdx_cons, List.zipIdx_nil, leafA, innerA, nodeA, patchA, Leaf.cells, Inner.cells, Node.cells, r194_c, r194_ask, decide_true, decide_false, hb, h1, he1, o1, h2, he2, go_sem, Nat.reduceEqDiff, reduceIte, Nat.reduceAdd, Nat.reduceLeDiff, Nat.reduceLT, Nat.reduceSub]
    try exact ⟨rfl, rfl, rfl, rfl⟩
  by_cases he3 : e3 = 0
  rotate_left
  · rw [lget_eq h1 h2 h3 (p := (gpar s r3).1) (r4 := (gpar s r3).2.1) (e4 := (gpar s r3).2.2) rfl, if_neg (not_not_intro he1), if_neg (not_not_intro he2), if_pos (by rw [srcE_bad he3]; exact he3), srcE_bad he3]
    refine Fun.of0R [r194, r218] told243 (by simp [il243]) (by simp [idb_patchA]) (by simp [idb_patchA]) 4 ?_
    simp -implicitDefEqProofs only [il243, List.zipIdx_cons, List.zipIdx_nil, leafA, innerA, nodeA, patchA, Leaf.cells, Inner.cells, Node.cells, r194_c, r194_ask, r218_c, r218_ask, decide_true, decide_false, hb, h1, he1, o1, h2, he2, o2, clamp1, h3, he3, go_sem, Nat.reduceEqDiff, reduceIte, Nat.reduceAdd, Nat.reduceLeDiff, Nat.reduceLT, Nat.reduceSub]
    try exact ⟨rfl, rfl, rfl, rfl⟩
  subst he3
  by_cases hs : s ≥ 1 ∧ s ≤ 3
  rotate_left
  · rw [lget_eq h1 h2 h3 (p := (gpar s r3).1) (r4 := (gpar s r3).2.1) (e4 := (gpar s r3).2.2) rfl, if_neg (not_not_intro he1), if_neg (not_not_intro he2), if_pos (by rw [srcE_out hs]; decide), srcE_out hs]
    by_cases hs1 : s < 1
    · refine Fun.of0R [r194, r218] told243 (by simp [il243]) (by simp [idb_patchA]) (by simp [idb_patchA]) 4 ?_
      simp -implicitDefEqProofs only [il243, List.zipIdx_cons, List.zipIdx_nil, leafA, innerA, nodeA, patchA, Leaf.cells, Inner.cells, Node.cells, r194_c, r194_ask, r218_c, r218_ask, decide_true, decide_false, hb, h1, he1, o1, h2, he2, o2, clamp1, h3, hs1, go_sem, Nat.reduceEqDiff, reduceIte, Nat.reduceAdd, Nat.reduceLeDiff, Nat.reduceLT, Nat.reduceSub]
      try exact ⟨rfl, rfl, rfl, rfl⟩
    · have hs2 : s > 3 := by omega
      refine Fun.of0R [r194, r218] told243 (by simp [il243]) (by simp [idb_patchA]) (by simp [idb_patchA]) 4 ?_
      simp -implicitDefEqProofs only [il243, List.zipIdx_cons, List.zipIdx_nil, leafA, innerA, nodeA, patchA, Leaf.cells, Inner.cells, Node.cells, r194_c, r194_ask, r218_c, r218_ask, decide_true, decide_false, hb, h1, he1, o1, h2, he2, o2, clamp1, h3, hs1, hs2, go_sem, Nat.reduceEqDiff, reduceIte, Nat.reduceAdd, Nat.reduceLeDiff, Nat.reduceLT, Nat.reduceSub]
      try exact ⟨rfl, rfl, rfl, rfl⟩
  have hs1 : ¬ s < 1 := by omega
  have hs2 : ¬ s > 3 := by omega
  by_cases k3 : s = 3
  · have k3' : (s = 3) = True := eq_true k3
    rw [if_pos k3] at g4
    have ok : Leaf.Ok ⟨x, y, s, p⟩ := ⟨ho.1, ho2.1, ho4.1, hs64⟩
    rw [lget_eq h1 h2 h3 g4, if_neg (not_not_intro he1), if_neg (not_not_intro he2), if_neg (by rw [srcE_in hs]; decide)]
    by_cases he4 : e4 = 0
    rotate_left
    · rw [if_pos he4]
      refine Fun.of0R [r194, r218] told243 (by simp [il243]) (by simp [idb_patchA]) (by simp [idb_patchA]) 4 ?_
      simp -implicitDefEqProofs only [il243, List.zipIdx_cons, List.zipIdx_nil, leafA, innerA, nodeA, patchA, Leaf.cells, Inner.cells, Node.cells, r194_c, r194_ask, r218_c, r218_ask, decide_true, decide_false, hb, h1, he1, o1, h2, he2, o2, clamp1, h3, hs1, hs2, k3', ho3, h4, he4, go_sem, Nat.reduceEqDiff, reduceIte, Nat.reduceAdd, Nat.reduceLeDiff, Nat.reduceLT, Nat.reduceSub]
      try exact ⟨rfl, rfl, rfl, rfl⟩
    rw [if_neg (not_not_intro he4)]
    unfold lgetS
    by_cases hc : leafCheck ⟨x, y, s, p⟩ = 0
    · rw [if_neg (not_not_intro hc)]
      refine Fun.of0R [r194, r218, r164] told243 (by simp [il243]) (by simp [idb_patchA]) (by simp [idb_patchA]) 4 ?_
      simp -implicitDefEqProofs only [il243, List.zipIdx_cons, List.zipIdx_nil, leafA, innerA, nodeA, patchA, Leaf.cells, Inner.cells, Node.cells, r194_c, r194_ask, r218_c, r218_ask, r164_c, r164_ask, decide_true, decide_false, hb, h1, he1, o1, h2, he2, o2, clamp1, h3, hs1, hs2, k3', ho3, h4, he4, ok, hc, go_sem, Nat.reduceEqDiff, reduceIte, Nat.reduceAdd, Nat.reduceLeDiff, Nat.reduceLT, Nat.reduceSub]
      try rfl
    · rw [if_pos hc]
      refine Fun.of0R [r194, r218, r164] told243 (by simp [il243]) (by simp [idb_patchA]) (by simp [idb_patchA]) 4 ?_
      simp -implicitDefEqProofs only [il243, List.zipIdx_cons, List.zipIdx_nil, leafA, innerA, nodeA, patchA, Leaf.cells, Inner.cells, Node.cells, r194_c, r194_ask, r218_c, r218_ask, r164_c, r164_ask, decide_true, decide_false, hb, h1, he1, o1, h2, he2, o2, clamp1, h3, hs1, hs2, k3', ho3, h4, he4, ok, hc, go_sem, Nat.reduceEqDiff, reduceIte, Nat.reduceAdd, Nat.reduceLeDiff, Nat.reduceLT, Nat.reduceSub]
      refine WP.drawQ [r164] [.g 0 0, .g 0 0, .l, .h 0, .l, .l] mixed (by decide) ?_
      simp -implicitDefEqProofs only [leafA, innerA, nodeA, patchA, Leaf.cells, Inner.cells, Node.cells, r164_c, r164_ask, decide_true, decide_false, ok, go_sem, Nat.reduceEqDiff, reduceIte, Nat.reduceAdd, Nat.reduceLeDiff, Nat.reduceLT, Nat.reduceSub]
      try exact ⟨rfl, rfl, rfl, rfl⟩
  · rw [if_neg k3] at g4
    have ok : Leaf.Ok ⟨x, y, s, []⟩ := ⟨ho.1, ho2.1, .nil, hs64⟩
    rw [lget_eq h1 h2 h3 g4, if_neg (not_not_intro he1), if_neg (not_not_intro he2), if_neg (by rw [srcE_in hs]; decide), if_neg (by decide)]
    unfold lgetS
    by_cases hc : leafCheck ⟨x, y, s, []⟩ = 0
    · rw [if_neg (not_not_intro hc)]
      refine Fun.of0R [r194, r218, r164] told243 (by simp [il243]) (by simp [idb_patchA]) (by simp [idb_patchA]) 4 ?_
      simp -implicitDefEqProofs only [il243, List.zipIdx_cons, List.zipIdx_nil, leafA, innerA, nodeA, patchA, Leaf.cells, Inner.cells, Node.cells, r194_c, r194_ask, r218_c, r218_ask, r164_c, r164_ask, decide_true, decide_false, hb, h1, he1, o1, h2, he2, o2, clamp1, h3, hs1, hs2, k3, ok, hc, go_sem, Nat.reduceEqDiff, reduceIte, Nat.reduceAdd, Nat.reduceLeDiff, Nat.reduceLT, Nat.reduceSub]
      try rfl
    · rw [if_pos hc]
      refine Fun.of0R [r194, r218, r164] told243 (by simp [il243]) (by simp [idb_patchA]) (by simp [idb_patchA]) 4 ?_
      simp -implicitDefEqProofs only [il243, List.zipIdx_cons, List.zipIdx_nil, leafA, innerA, nodeA, patchA, Leaf.cells, Inner.cells, Node.cells, r194_c, r194_ask, r218_c, r218_ask, r164_c, r164_ask, decide_true, decide_false, hb, h1, he1, o1, h2, he2, o2, clamp1, h3, hs1, hs2, k3, ok, hc, go_sem, Nat.reduceEqDiff, reduceIte, Nat.reduceAdd, Nat.reduceLeDiff, Nat.reduceLT, Nat.reduceSub]
      refine WP.drawQ [r164] [.g 0 0, .g 0 0, .l, .h 0, .l, .l] mixed (by decide) ?_
      simp -implicitDefEqProofs only [leafA, innerA, nodeA, patchA, Leaf.cells, Inner.cells, Node.cells, r164_c, r164_ask, decide_true, decide_false, ok, go_sem, Nat.reduceEqDiff, reduceIte, Nat.reduceAdd, Nat.reduceLeDiff, Nat.reduceLT, Nat.reduceSub]
      try exact ⟨rfl, rfl, rfl, rfl⟩
noncomputable def r243 : Reg seat := .of told243 (ask1 (fun a0' => isO a0' ∧ Oct (dO a0')) fun a0' => .fn (.tup [leafA (lget (dO a0')).1, octs (lget (dO a0')).2.1, .int .i64 (lget (dO a0')).2.2])) (ask1_ok fun a0' h => SaidOk.fn (Fun.weak (.cons (isO.weak h.1) .nil) (refLget_spec _ h.2)))
theorem r243_c : r243.c = 243 := rfl
open Classical in
theorem r243_ask (a0' : AV) : r243.ask [a0'] = if isO a0' ∧ Oct (dO a0') then some (Said.fn (.tup [leafA (lget (dO a0')).1, octs (lget (dO a0')).2.1, .int .i64 (lget (dO a0')).2.2])) else none := by unfold r243 Reg.of ask1; exact ite_cl
end Go.Proofs.YtlehcigcaihoaaaGreat.Al
