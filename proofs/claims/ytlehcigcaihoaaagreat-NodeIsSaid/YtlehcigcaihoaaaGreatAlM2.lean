/-
  SPECS: lengths as octets.
-/
import Derived.Test.YtlehcigcaihoaaaGreatAlM1
set_option linter.unusedSimpArgs false
set_option linter.unusedVariables false
namespace Go.Proofs.YtlehcigcaihoaaaGreat.Al
open Go
attribute [local go_sem] W_mv W_pick W_alloc W_box W_build W_bslice W_load W_store W_nilck W_bin W_isnil W_un W_convI W_convS W_mkiface W_mkfunc W_mkslice W_slice W_faddr W_field W_iaddr W_iaddrA W_idxA W_extract W_len W_lenS W_lenA W_min W_max W_append W_appendZ W_copy W_clear W_tassert W_invoke thenQ_normal thenQ_exit thenQ_goto thenQ_ret blockQ_normal blockQ_ret blockQ_goto blockQ_exit wpc_skip wpc_region wpc_draw wpc_seq wpc_cond wpc_block wpc_exit wpc_goto wpc_label wpc_ret wpc_loop wpc_range wpc_scope condW_true condW_false condW_dec condW_any W_nil W_call resW_some evalOp Opd.ev updo_envL updo_none setL_cons setL_nil envL_cons Option.map_some Option.bind_some evBin evInt List.map_cons List.map_nil Option.pure_def Option.bind_eq_bind W_grd' grdW_tt grdW_ff grdW_tf grdW_ft grdW_tup grdW_dt grdW_df lgrdW_tt lgrdW_ff lgrdW_tf lgrdW_ft lgrdW_tup lgrdW_dt lgrdW_df L_mv L_pick L_alloc L_box L_build L_bslice L_load L_store L_nilck L_bin L_isnil L_un L_convI L_convS L_mkiface L_mkfunc L_mkslice L_slice L_faddr L_field L_iaddr L_iaddrA L_idxA L_extract L_len L_lenS L_lenA L_min L_max L_append L_appendZ L_copy L_clear L_tassert L_nil L_call L_grd lresW_some upd_envL evUn beq_dec bne_dec leaves_ret1 leaves_end1 leaves_ret0 leaves_end0 leaves_ret2 leaves_ret3 rowLen_ints load_iptr0 not_dec heap_get0 heap_get1 heap_set0 heap_set1 heap_len1 heap_len2 heap_app heap_app2 bslice1_int seen_ints seen_one0 seen_one1 seen_one2 rowLen_own0 bslice0_int rowLen_own1 Nat.sub_zero Bool.not_true Bool.not_false List.length_nil List.length_cons List.nil_append List.cons_append Nat.zero_add load_iptrA canon_ptrI canon_bool canon_tup canon_agg canon_leafA canon_innerA canon_nodeA canon_ints' rowLen_ints0 seen_ints0 canon_ints0 rowLen_ints1 seen_ints1 canon_ints1 rowLen_ints2 seen_ints2 canon_ints2 rowLen_ints3 seen_ints3 canon_ints3 rowLen_octs seen_octs canon_octs' szOk_octs rowLen_octs0 seen_octs0 canon_octs0 rowLen_octs1 seen_octs1 canon_octs1 rowLen_octs2 seen_octs2 canon_octs2 rowLen_octs3 seen_octs3 canon_octs3 rowLen_intss seen_intss canon_intss' szOk_intss rowLen_intss0 seen_intss0 canon_intss0 rowLen_intss1 seen_intss1 canon_intss1 rowLen_intss2 seen_intss2 canon_intss2 rowLen_intss3 seen_intss3 canon_intss3 rowLen_octss seen_octss canon_octss' szOk_octss rowLen_octss0 seen_octss0 canon_octss0 rowLen_octss1 seen_octss1 canon_octss1 rowLen_octss2 seen_octss2 canon_octss2 rowLen_octss3 seen_octss3 canon_octss3 rowLen_nodes seen_nodes canon_nodes' szOk_nodes rowLen_nodes0 seen_nodes0 canon_nodes0 rowLen_nodes1 seen_nodes1 canon_nodes1 rowLen_nodes2 seen_nodes2 canon_nodes2 rowLen_nodes3 seen_nodes3 canon_nodes3 seen_list cells_int oneIn_int cells_bool oneIn_bool cells_str oneIn_str cells_list oneIn_list cells_func oneIn_func cells_nilfunc oneIn_nilfunc cells_iptr oneIn_iptr cells_iface oneIn_iface cells_nilIface oneIn_nilIface cells_own cells_ptr cells_anybool oneIn_anybool cells_agg oneIn_own0 oneIn_ptr0 seenL0 seenM0 oneIn_own1 oneIn_ptr1 seenL1 seenM1 oneIn_own2 oneIn_ptr2 seenL2 seenM2 oneIn_own3 oneIn_ptr3 seenL3 seenM3 oneIn_own4 oneIn_ptr4 seenL4 seenM4 oneIn_own5 oneIn_ptr5 seenL5 seenM5 cells_ints oneIn_ints cells_octs oneIn_octs cells_intss oneIn_intss cells_octss oneIn_octss cells_nodes oneIn_nodes ldB0 ldA0 adB0 stB0 ldB1 ldA1 adB1 stB1 ldB2 ldA2 adB2 stB2 ldB3 ldA3 adB3 stB3 ldB4 ldA4 adB4 stB4 ldB5 ldA5 adB5 stB5 List.getElem?_cons_zero List.getElem?_cons_succ beq_self_eq_true splice List.take_zero List.take_succ_cons List.drop_zero List.drop_succ_cons List.append_nil List.set_cons_zero List.set_cons_succ List.all_cons List.all_nil Bool.and_self and_self and_true true_and Nat.lt_irrefl Nat.zero_lt_one Nat.le_refl fillA evNil notA Bool.false_eq_true evMin_int evMax_int Option.map_none freezeP_all_nil freezeP_all_cons frzE_box frzE_arr frzE_dead foldA List.foldlM_cons List.foldlM_nil callW_f lcallW_f ansW_fn ansW_own lansW_fn lansW_own ansW_none lansW_none tab_cons tab_nil dI_int dB_bool dO_octs dO_ints dO_list dO_nil dOs_octss dOs_intss dOs_nil dLf_leafA dIn_innerA dN_nodeA dLf_agg dIn_agg dN_agg dNs_nodes dNs_list dNs_nil isI_int isU_int isB_bool isO_octs isO_nil isO_list isS_ints isS_nil isS_list isOs_octss isSs_intss isOs_nil isSs_nil isNs_nodes isNs_list isNs_nil isLf_leafA isIn_innerA isN_nodeA isLf_agg isIn_agg isN_agg leaf_eta inner_eta node_eta leaf_zero inner_zero node_zero dP_patchA dP_agg isP_patchA isP_agg patch_eta decide_eq_true_eq decide_eq_false_iff_not eq_self forall_const true_implies false_implies Bool.not_eq_true' Bool.not_eq_false' Bool.true_eq_false implies_true ne_eq ldI ldIA adI AV.tup.injEq AV.agg.injEq List.cons.injEq AV.int.injEq AV.bool.injEq nodes_inj octs_inj ints_inj nil_nodes nil_octs nil_ints canon_nilL decide_eq_decide two_ne four_ne b256_ne lendA_fn lendA_own lendA_none llendA_fn llendA_none plain_bool plain_int plain_tup2 isNs_own isO_own isS_own isOs_own false_and and_false Q_nil Q_l Q_g Q_h Q_grd qgrdW_b qgrdW_tup lightD_some heavyD_some readD_some fnD_some fnD_own fnD_none callL_f ownH_some callH_f litD_some litE_some Q_call Q_bslice H_call pendOk_nil pendOk_cons pastOk_nil pastOk_cons Q_mv Q_pick Q_bin Q_un Q_convI Q_mkfunc Q_extract Q_min Q_max Q_lenS Q_lenA Q_field Q_idxA Q_mkiface Q_tassert Q_alloc Q_box Q_store Q_mkslice Q_append Q_appendZ Q_copy Q_clear Q_build Q_load Q_nilck Q_isnil Q_convS Q_slice Q_faddr Q_iaddr Q_iaddrA Q_len H_alloc H_box H_bslice H_store H_mkslice H_append H_appendZ H_copy H_clear free_mv free_pick free_bin free_un free_convI free_mkfunc free_extract free_min free_max free_lenS free_lenA free_field free_idxA free_mkiface free_tassert free_build free_load free_nilck free_isnil free_convS free_slice free_faddr free_iaddr free_iaddrA free_len callW_y List.length_map List.length_set leaves_r evR_some evRess1 evRess2 evRess3 evRes_t evRes_c nz_kind nz_enc nz_cred nz_source nz_parent nz_ienc nz_hash nz_un true_or or_true bsl_node idbs_node idbs_int appN appI appO ixo_nodes canon_row canon_rowI canon_rowO not_false_eq_true not_true_eq_false ldE_a ldE_c adE_b stE_b onE_a onP_b bsl_zero idbs_zero appN_zero
attribute [local go_sem low] condW_b grdW_b lgrdW_b ldP adP stP onO onPt
attribute [local simp] envL_cons envL_nil idb_int idb_bool idb_str idb_ints idb_nil idb_own idb_ptr entB_ints' idb_octs entB_octs idb_intss entB_intss idb_octss entB_octss idb_nodes entB_nodes idb_leafA idb_innerA idb_nodeA idb_agg idb_tup idb_iptr idb_fn idb_undef entB_dead entB_box

theorem appO2 {H : List Entry} {id ver : Nat} {l : List Int} {x y : Int} (h : H[id]? = some (.arr 1 ver (l.map (AV.int .u8)))) (hl : l.length + 2 ≤ maxRow) :
    evAppend H 1 1 (.own id ver 0 l.length) [.int .u8 x, .int .u8 y] = some (.own id (ver + 1) 0 (l ++ [x, y]).length, H.set id (.arr 1 (ver + 1) ((l ++ [x, y]).map (AV.int .u8)))) := encU8.app_owns (ys := [x, y]) h hl (by decide) (by simp)
theorem appO4 {H : List Entry} {id ver : Nat} {l : List Int} {x y z w : Int} (h : H[id]? = some (.arr 1 ver (l.map (AV.int .u8)))) (hl : l.length + 4 ≤ maxRow) :
    evAppend H 1 1 (.own id ver 0 l.length) [.int .u8 x, .int .u8 y, .int .u8 z, .int .u8 w] = some (.own id (ver + 1) 0 (l ++ [x, y, z, w]).length, H.set id (.arr 1 (ver + 1) ((l ++ [x, y, z, w]).map (AV.int .u8)))) := encU8.app_owns (ys := [x, y, z, w]) h hl (by decide) (by simp)

theorem shr8 (n : Int) : evShift .shr .i64 n 8 = some (.int .i64 (n / 256)) := by
  show some (AV.int .i64 (n.fdiv 256)) = _
  rw [Int.fdiv_eq_ediv_of_nonneg _ (by decide)]
theorem shr16 (n : Int) : evShift .shr .i64 n 16 = some (.int .i64 (n / 65536)) := by
  show some (AV.int .i64 (n.fdiv 65536)) = _
  rw [Int.fdiv_eq_ediv_of_nonneg _ (by decide)]
theorem shr24 (n : Int) : evShift .shr .i64 n 24 = some (.int .i64 (n / 16777216)) := by
  show some (AV.int .i64 (n.fdiv 16777216)) = _
  rw [Int.fdiv_eq_ediv_of_nonneg _ (by decide)]

theorem bs2 (H : List Entry) (x y : Int) : evBslice H 1 2 (.int .u8 0) [(0, .int .u8 x), (1, .int .u8 y)] = some (.own H.length 0 0 2, H ++ [.arr 1 0 [.int .u8 x, .int .u8 y]]) := rfl
theorem seen4 (e : Entry) (x y z w : AV) : seen [e, .arr 1 0 [x, y, z, w]] (.own 1 0 0 4) = some [x, y, z, w] := rfl
theorem bs4 (H : List Entry) (x y z w : Int) : evBslice H 1 4 (.int .u8 0) [(0, .int .u8 x), (1, .int .u8 y), (2, .int .u8 z), (3, .int .u8 w)] = some (.own H.length 0 0 4, H ++ [.arr 1 0 [.int .u8 x, .int .u8 y, .int .u8 z, .int .u8 w]]) := rfl

set_option maxHeartbeats 1000000 in
theorem vput_spec (b : List Int) (n : Int) (hl : b.length ≤ 4294960000) : FunOwn seat 219 [octs b, .int .i64 n] 1 ((b ++ vput n).map (AV.int .u8)) := by
  have hl' : b.length ≤ 4294967295 := by omega
  have m1 : b.length + 1 ≤ maxRow := by unfold maxRow; omega
  have m2 : b.length + 2 ≤ maxRow := by unfold maxRow; omega
  have m3 : ∀ x : Int, (b ++ [x]).length + 1 ≤ maxRow := fun x => by unfold maxRow; simp; omega
  have m4 : ∀ x y : Int, (b ++ [x, y]).length + 1 ≤ maxRow := fun x y => by unfold maxRow; simp; omega
  have m5 : ∀ x y z : Int, (b ++ [x, y] ++ [z]).length + 1 ≤ maxRow := fun x y z => by unfold maxRow; simp; omega
  by_cases h0 : n < 0 ∨ n > 1073741823
  · have s : vsize n = 0 := by unfold vsize; rw [if_pos h0]
    have e : vput n = [] := by unfold vput; rw [if_pos h0]
    rw [e, List.append_nil]
    refine FunOwn.of0R [r196, r232] told219 (by simp [il219]) (by simp [idb_patchA]) (by first | exact encI64.xs_idb _ | exact encU8.xs_idb _ | exact encNode.xs_idb _) ?_
    simp -implicitDefEqProofs only [il219, List.zipIdx_cons, List.zipIdx_nil, leafA, innerA, nodeA, patchA, Leaf.cells, Inner.cells, Node.cells, r196_c, r196_ask, r232_c, r232_ask, decide_true, decide_false, hl', s, shr8, shr16, shr24, Int.reduceEq, go_sem, Nat.reduceEqDiff, reduceIte, Nat.reduceAdd, Nat.reduceLeDiff, Nat.reduceLT, Nat.reduceSub]
    exact ⟨0, _, rfl, rfl⟩
  by_cases h1 : n < 64
  · have s : vsize n = 1 := by unfold vsize; rw [if_neg h0, if_pos h1]
    have e : vput n = [n] := by unfold vput; rw [if_neg h0, if_pos h1]
    rw [e]
    have w0 : IntKind.u8.wrap n = n := by rw [wrapU8]; omega
    refine FunOwn.of0R [r196, r232] told219 (by simp [il219]) (by simp [idb_patchA]) (by first | exact encI64.xs_idb _ | exact encU8.xs_idb _ | exact encNode.xs_idb _) ?_
    simp -implicitDefEqProofs only [il219, List.zipIdx_cons, List.zipIdx_nil, leafA, innerA, nodeA, patchA, Leaf.cells, Inner.cells, Node.cells, r196_c, r196_ask, r232_c, r232_ask, decide_true, decide_false, hl', s, m1, w0, shr8, shr16, shr24, Int.reduceEq, go_sem, Nat.reduceEqDiff, reduceIte, Nat.reduceAdd, Nat.reduceLeDiff, Nat.reduceLT, Nat.reduceSub]
    exact ⟨0, _, rfl, rfl⟩
  by_cases h2 : n < 16384
  · have s : vsize n = 2 := by unfold vsize; rw [if_neg h0, if_neg h1, if_pos h2]
    have e : vput n = [64 + n / 256, n % 256] := by unfold vput; rw [if_neg h0, if_neg h1, if_pos h2]
    rw [e]
    have w0 : IntKind.u8.wrap n = n % 256 := by rw [wrapU8]
    have w1 : IntKind.u8.wrap (n / 256) = n / 256 := by rw [wrapU8]; omega
    have w2 : IntKind.u8.wrap (64 + n / 256) = 64 + n / 256 := by rw [wrapU8]; omega
    refine FunOwn.of0R [r196, r232] told219 (by simp [il219]) (by simp [idb_patchA]) (by first | exact encI64.xs_idb _ | exact encU8.xs_idb _ | exact encNode.xs_idb _) ?_
    simp -implicitDefEqProofs only [il219, List.zipIdx_cons, List.zipIdx_nil, leafA, innerA, nodeA, patchA, Leaf.cells, Inner.cells, Node.cells, r196_c, r196_ask, r232_c, r232_ask, decide_true, decide_false, hl', s, m1, m3, w0, w1, w2, h2, shr8, shr16, shr24, Int.reduceEq, go_sem, Nat.reduceEqDiff, reduceIte, Nat.reduceAdd, Nat.reduceLeDiff, Nat.reduceLT, Nat.reduceSub]
    exact ⟨0, 2, by simp, by simp⟩
  · have s : vsize n = 4 := by unfold vsize; rw [if_neg h0, if_neg h1, if_neg h2]
    have e : vput n = [128 + n / 16777216, n / 65536 % 256, n / 256 % 256, n % 256] := by unfold vput; rw [if_neg h0, if_neg h1, if_neg h2]
    rw [e]
    have w0 : IntKind.u8.wrap n = n % 256 := by rw [wrapU8]
    have w1 : IntKind.u8.wrap (n / 16777216) = n / 16777216 := by rw [wrapU8]; omega
    have w2 : IntKind.u8.wrap (128 + n / 16777216) = 128 + n / 16777216 := by rw [wrapU8]; omega
    have w3 : IntKind.u8.wrap (n / 65536) = n / 65536 % 256 := by rw [wrapU8]
    have w4 : IntKind.u8.wrap (n / 256) = n / 256 % 256 := by rw [wrapU8]
    have w5 : IntKind.u8.wrap (0 + n / 256 % 256) = n / 256 % 256 := by rw [wrapU8]; omega
    refine FunOwn.of0R [r196, r232] told219 (by simp [il219]) (by simp [idb_patchA]) (by first | exact encI64.xs_idb _ | exact encU8.xs_idb _ | exact encNode.xs_idb _) ?_
    simp -implicitDefEqProofs only [il219, List.zipIdx_cons, List.zipIdx_nil, leafA, innerA, nodeA, patchA, Leaf.cells, Inner.cells, Node.cells, r196_c, r196_ask, r232_c, r232_ask, decide_true, decide_false, hl', s, m1, m2, m4, m5, w0, w1, w2, w3, w4, w5, h2, bs2, appO2, shr8, shr16, shr24, Int.reduceEq, go_sem, Nat.reduceEqDiff, reduceIte, Nat.reduceAdd, Nat.reduceLeDiff, Nat.reduceLT, Nat.reduceSub]
    exact ⟨0, 3, by simp, by simp⟩
noncomputable def r219 : Reg seat := .of told219 (ask2 (fun a0' a1' => isO a0' ∧ isI a1' ∧ (dO a0').length ≤ 4294960000) fun a0' a1' => .own 1 (((dO a0') ++ vput (dI a1')).map (AV.int .u8))) (ask2_ok fun a0' a1' h => SaidOk.own (FunOwn.weak (.cons (isO.weak h.1) (.cons (isI.weak h.2.1) .nil)) (vput_spec _ _ h.2.2)) (by first | exact encU8.xs_idb _ | exact encI64.xs_idb _ | exact encNode.xs_idb _))
theorem r219_c : r219.c = 219 := rfl
open Classical in
theorem r219_ask (a0' a1' : AV) : r219.ask [a0', a1'] = if isO a0' ∧ isI a1' ∧ (dO a0').length ≤ 4294960000 then some (Said.own 1 (((dO a0') ++ vput (dI a1')).map (AV.int .u8))) else none := by unfold r219 Reg.of ask2; exact ite_cl

set_option maxHeartbeats 1000000 in
theorem refVput_spec (b : List Int) (n : Int) (hl : b.length ≤ 4294960000) : FunOwn seat 220 [octs b, .int .i64 n] 1 ((b ++ vput n).map (AV.int .u8)) := by
  have m1 : b.length + 1 ≤ maxRow := by unfold maxRow; omega
  have m2 : b.length + 2 ≤ maxRow := by unfold maxRow; omega
  have m4 : b.length + 4 ≤ maxRow := by unfold maxRow; omega
  have cl : ∃ v, evAppend [Entry.arr 1 0 []] 1 1 (.own 0 0 0 0) (b.map (AV.int .u8)) = some (.own 0 v 0 b.length, [.arr 1 v (b.map (AV.int .u8))]) := by
    obtain ⟨v, hv⟩ := encU8.app_any (H := [Entry.arr 1 0 (([] : List Int).map (AV.int .u8))]) (id := 0) (ver := 0) (l := []) (ys := b) (bytes := 1) rfl (by unfold maxRow; simp; omega) (by decide)
    exact ⟨v, by simpa [encU8] using hv⟩
  obtain ⟨v, cl⟩ := cl
  have hb : evBslice ([] : List Entry) 1 0 (.int .u8 0) [] = some (.own 0 0 0 0, [.arr 1 0 []]) := rfl
  by_cases h0 : n < 0 ∨ n > 1073741823
  · have s : vsize n = 0 := by unfold vsize; rw [if_pos h0]
    have e : vput n = [] := by unfold vput; rw [if_pos h0]
    rw [e, List.append_nil]
    refine FunOwn.of0R [r234] told220 (by simp [il220]) (by simp [idb_patchA]) (by first | exact encI64.xs_idb _ | exact encU8.xs_idb _ | exact encNode.xs_idb _) ?_
    simp -implicitDefEqProofs only [il220, List.zipIdx_cons, List.zipIdx_nil, leafA, innerA, nodeA, patchA, Leaf.cells, Inner.cells, Node.cells, r234_c, r234_ask, decide_true, decide_false, hb, cl, s, Int.reduceEq, go_sem, Nat.reduceEqDiff, reduceIte, Nat.reduceAdd, Nat.reduceLeDiff, Nat.reduceLT, Nat.reduceSub]
    exact ⟨0, _, rfl, rfl⟩
  by_cases h1 : n < 64
  · have s : vsize n = 1 := by unfold vsize; rw [if_neg h0, if_pos h1]
    have e : vput n = [n] := by unfold vput; rw [if_neg h0, if_pos h1]
    rw [e]
    have w0 : IntKind.u8.wrap n = n := by rw [wrapU8]; omega
    refine FunOwn.of0R [r234] told220 (by simp [il220]) (by simp [idb_patchA]) (by first | exact encI64.xs_idb _ | exact encU8.xs_idb _ | exact encNode.xs_idb _) ?_
    simp -implicitDefEqProofs only [il220, List.zipIdx_cons, List.zipIdx_nil, leafA, innerA, nodeA, patchA, Leaf.cells, Inner.cells, Node.cells, r234_c, r234_ask, decide_true, decide_false, hb, cl, s, m1, w0, Int.reduceEq, go_sem, Nat.reduceEqDiff, reduceIte, Nat.reduceAdd, Nat.reduceLeDiff, Nat.reduceLT, Nat.reduceSub]
    exact ⟨0, _, rfl, rfl⟩
  have q1 : IntKind.i64.wrap (n.tdiv 256) = n / 256 := by rw [Int.tdiv_eq_ediv_of_nonneg (by omega), wrap64 _ (by omega) (by omega)]
  have q2 : IntKind.i64.wrap (n.tdiv 65536) = n / 65536 := by rw [Int.tdiv_eq_ediv_of_nonneg (by omega), wrap64 _ (by omega) (by omega)]
  have q3 : IntKind.i64.wrap (n.tdiv 16777216) = n / 16777216 := by rw [Int.tdiv_eq_ediv_of_nonneg (by omega), wrap64 _ (by omega) (by omega)]
  have t1 : n.tmod 256 = n % 256 := Int.tmod_eq_emod_of_nonneg (by omega)
  have t2 : (n / 65536).tmod 256 = n / 65536 % 256 := Int.tmod_eq_emod_of_nonneg (by omega)
  have t3 : (n / 256).tmod 256 = n / 256 % 256 := Int.tmod_eq_emod_of_nonneg (by omega)
  have u1 : ∀ x : Int, IntKind.u8.wrap (x % 256) = x % 256 := fun x => by rw [wrapU8]; omega
  by_cases h2 : n < 16384
  · have s : vsize n = 2 := by unfold vsize; rw [if_neg h0, if_neg h1, if_pos h2]
    have e : vput n = [64 + n / 256, n % 256] := by unfold vput; rw [if_neg h0, if_neg h1, if_pos h2]
    rw [e]
    have w1 : IntKind.i64.wrap (64 + n / 256) = 64 + n / 256 := wrap64 _ (by omega) (by omega)
    have w2 : IntKind.u8.wrap (64 + n / 256) = 64 + n / 256 := by rw [wrapU8]; omega
    refine FunOwn.of0R [r234] told220 (by simp [il220]) (by simp [idb_patchA]) (by first | exact encI64.xs_idb _ | exact encU8.xs_idb _ | exact encNode.xs_idb _) ?_
    simp -implicitDefEqProofs only [il220, List.zipIdx_cons, List.zipIdx_nil, leafA, innerA, nodeA, patchA, Leaf.cells, Inner.cells, Node.cells, r234_c, r234_ask, decide_true, decide_false, hb, cl, s, m2, w1, w2, q1, t1, u1, bs2, appO2, Int.reduceEq, go_sem, Nat.reduceEqDiff, reduceIte, Nat.reduceAdd, Nat.reduceLeDiff, Nat.reduceLT, Nat.reduceSub]
    exact ⟨0, _, rfl, rfl⟩
  · have s : vsize n = 4 := by unfold vsize; rw [if_neg h0, if_neg h1, if_neg h2]
    have e : vput n = [128 + n / 16777216, n / 65536 % 256, n / 256 % 256, n % 256] := by unfold vput; rw [if_neg h0, if_neg h1, if_neg h2]
    rw [e]
    have w1 : IntKind.i64.wrap (128 + n / 16777216) = 128 + n / 16777216 := wrap64 _ (by omega) (by omega)
    have w2 : IntKind.u8.wrap (128 + n / 16777216) = 128 + n / 16777216 := by rw [wrapU8]; omega
    refine FunOwn.of0R [r234] told220 (by simp [il220]) (by simp [idb_patchA]) (by first | exact encI64.xs_idb _ | exact encU8.xs_idb _ | exact encNode.xs_idb _) ?_
    simp -implicitDefEqProofs only [il220, List.zipIdx_cons, List.zipIdx_nil, leafA, innerA, nodeA, patchA, Leaf.cells, Inner.cells, Node.cells, r234_c, r234_ask, decide_true, decide_false, hb, cl, s, m4, w1, w2, q1, q2, q3, t1, t2, t3, u1, bs4, seen4, appO4, Int.reduceEq, go_sem, Nat.reduceEqDiff, reduceIte, Nat.reduceAdd, Nat.reduceLeDiff, Nat.reduceLT, Nat.reduceSub]
    exact ⟨0, _, rfl, rfl⟩
noncomputable def r220 : Reg seat := .of told220 (ask2 (fun a0' a1' => isO a0' ∧ isI a1' ∧ (dO a0').length ≤ 4294960000) fun a0' a1' => .own 1 (((dO a0') ++ vput (dI a1')).map (AV.int .u8))) (ask2_ok fun a0' a1' h => SaidOk.own (FunOwn.weak (.cons (isO.weak h.1) (.cons (isI.weak h.2.1) .nil)) (refVput_spec _ _ h.2.2)) (by first | exact encU8.xs_idb _ | exact encI64.xs_idb _ | exact encNode.xs_idb _))
theorem r220_c : r220.c = 220 := rfl
open Classical in
theorem r220_ask (a0' a1' : AV) : r220.ask [a0', a1'] = if isO a0' ∧ isI a1' ∧ (dO a0').length ≤ 4294960000 then some (Said.own 1 (((dO a0') ++ vput (dI a1')).map (AV.int .u8))) else none := by unfold r220 Reg.of ask2; exact ite_cl
end Go.Proofs.YtlehcigcaihoaaaGreat.Al
