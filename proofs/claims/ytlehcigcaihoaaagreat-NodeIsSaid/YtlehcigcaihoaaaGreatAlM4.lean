/-
  SPECS: a length is got.
-/
import Derived.Test.YtlehcigcaihoaaaGreatAlM3
set_option linter.unusedSimpArgs false
set_option linter.unusedVariables false
namespace Go.Proofs.YtlehcigcaihoaaaGreat.Al
open Go
attribute [local go_sem] W_mv W_pick W_alloc W_box W_build W_bslice W_load W_store W_nilck W_bin W_isnil W_un W_convI W_convS W_mkiface W_mkfunc W_mkslice W_slice W_faddr W_field W_iaddr W_iaddrA W_idxA W_extract W_len W_lenS W_lenA W_min W_max W_append W_appendZ W_copy W_clear W_tassert W_invoke thenQ_normal thenQ_exit thenQ_goto thenQ_ret blockQ_normal blockQ_ret blockQ_goto blockQ_exit wpc_skip wpc_region wpc_draw wpc_seq wpc_cond wpc_block wpc_exit wpc_goto wpc_label wpc_ret wpc_loop wpc_range wpc_scope condW_true condW_false condW_dec condW_any W_nil W_call resW_some evalOp Opd.ev updo_envL updo_none setL_cons setL_nil envL_cons Option.map_some Option.bind_some evBin evInt List.map_cons List.map_nil Option.pure_def Option.bind_eq_bind W_grd' grdW_tt grdW_ff grdW_tf grdW_ft grdW_tup grdW_dt grdW_df lgrdW_tt lgrdW_ff lgrdW_tf lgrdW_ft lgrdW_tup lgrdW_dt lgrdW_df L_mv L_pick L_alloc L_box L_build L_bslice L_load L_store L_nilck L_bin L_isnil L_un L_convI L_convS L_mkiface L_mkfunc L_mkslice L_slice L_faddr L_field L_iaddr L_iaddrA L_idxA L_extract L_len L_lenS L_lenA L_min L_max L_append L_appendZ L_copy L_clear L_tassert L_nil L_call L_grd lresW_some upd_envL evUn beq_dec bne_dec leaves_ret1 leaves_end1 leaves_ret0 leaves_end0 leaves_ret2 leaves_ret3 rowLen_ints load_iptr0 not_dec heap_get0 heap_get1 heap_set0 heap_set1 heap_len1 heap_len2 heap_app heap_app2 bslice1_int seen_ints seen_one0 seen_one1 seen_one2 rowLen_own0 bslice0_int rowLen_own1 Nat.sub_zero Bool.not_true Bool.not_false List.length_nil List.length_cons List.nil_append List.cons_append Nat.zero_add load_iptrA canon_ptrI canon_bool canon_tup canon_agg canon_leafA canon_innerA canon_nodeA canon_ints' rowLen_ints0 seen_ints0 canon_ints0 rowLen_ints1 seen_ints1 canon_ints1 rowLen_ints2 seen_ints2 canon_ints2 rowLen_ints3 seen_ints3 canon_ints3 rowLen_octs seen_octs canon_octs' szOk_octs rowLen_octs0 seen_octs0 canon_octs0 rowLen_octs1 seen_octs1 canon_octs1 rowLen_octs2 seen_octs2 canon_octs2 rowLen_octs3 seen_octs3 canon_octs3 rowLen_intss seen_intss canon_intss' szOk_intss rowLen_intss0 seen_intss0 canon_intss0 rowLen_intss1 seen_intss1 canon_intss1 rowLen_intss2 seen_intss2 canon_intss2 rowLen_intss3 seen_intss3 canon_intss3 rowLen_octss seen_octss canon_octss' szOk_octss rowLen_octss0 seen_octss0 canon_octss0 rowLen_octss1 seen_octss1 canon_octss1 rowLen_octss2 seen_octss2 canon_octss2 rowLen_octss3 seen_octss3 canon_octss3 rowLen_nodes seen_nodes canon_nodes' szOk_nodes rowLen_nodes0 seen_nodes0 canon_nodes0 rowLen_nodes1 seen_nodes1 canon_nodes1 rowLen_nodes2 seen_nodes2 canon_nodes2 rowLen_nodes3 seen_nodes3 canon_nodes3 seen_list cells_int oneIn_int cells_bool oneIn_bool cells_str oneIn_str cells_list oneIn_list cells_func oneIn_func cells_nilfunc oneIn_nilfunc cells_iptr oneIn_iptr cells_iface oneIn_iface cells_nilIface oneIn_nilIface cells_own cells_ptr cells_anybool oneIn_anybool cells_agg oneIn_own0 oneIn_ptr0 seenL0 seenM0 oneIn_own1 oneIn_ptr1 seenL1 seenM1 oneIn_own2 oneIn_ptr2 seenL2 seenM2 oneIn_own3 oneIn_ptr3 seenL3 seenM3 oneIn_own4 oneIn_ptr4 seenL4 seenM4 oneIn_own5 oneIn_ptr5 seenL5 seenM5 cells_ints oneIn_ints cells_octs oneIn_octs cells_intss oneIn_intss cells_octss oneIn_octss cells_nodes oneIn_nodes ldB0 ldA0 adB0 stB0 ldB1 ldA1 adB1 stB1 ldB2 ldA2 adB2 stB2 ldB3 ldA3 adB3 stB3 ldB4 ldA4 adB4 stB4 ldB5 ldA5 adB5 stB5 List.getElem?_cons_zero List.getElem?_cons_succ beq_self_eq_true splice List.take_zero List.take_succ_cons List.drop_zero List.drop_succ_cons List.append_nil List.set_cons_zero List.set_cons_succ List.all_cons List.all_nil Bool.and_self and_self and_true true_and Nat.lt_irrefl Nat.zero_lt_one Nat.le_refl fillA evNil notA Bool.false_eq_true evMin_int evMax_int Option.map_none freezeP_all_nil freezeP_all_cons frzE_box frzE_arr frzE_dead foldA List.foldlM_cons List.foldlM_nil callW_f lcallW_f ansW_fn ansW_own lansW_fn lansW_own ansW_none lansW_none tab_cons tab_nil dI_int dB_bool dO_octs dO_ints dO_list dO_nil dOs_octss dOs_intss dOs_nil dLf_leafA dIn_innerA dN_nodeA dLf_agg dIn_agg dN_agg dNs_nodes dNs_list dNs_nil isI_int isU_int isB_bool isO_octs isO_nil isO_list isS_ints isS_nil isS_list isOs_octss isSs_intss isOs_nil isSs_nil isNs_nodes isNs_list isNs_nil isLf_leafA isIn_innerA isN_nodeA isLf_agg isIn_agg isN_agg leaf_eta inner_eta node_eta leaf_zero inner_zero node_zero dP_patchA dP_agg isP_patchA isP_agg patch_eta decide_eq_true_eq decide_eq_false_iff_not eq_self forall_const true_implies false_implies Bool.not_eq_true' Bool.not_eq_false' Bool.true_eq_false implies_true ne_eq ldI ldIA adI AV.tup.injEq AV.agg.injEq List.cons.injEq AV.int.injEq AV.bool.injEq nodes_inj octs_inj ints_inj nil_nodes nil_octs nil_ints canon_nilL decide_eq_decide two_ne four_ne b256_ne lendA_fn lendA_own lendA_none llendA_fn llendA_none plain_bool plain_int plain_tup2 isNs_own isO_own isS_own isOs_own false_and and_false Q_nil Q_l Q_g Q_h Q_grd qgrdW_b qgrdW_tup lightD_some heavyD_some readD_some fnD_some fnD_own fnD_none callL_f ownH_some callH_f litD_some litE_some Q_call Q_bslice H_call pendOk_nil pendOk_cons pastOk_nil pastOk_cons Q_mv Q_pick Q_bin Q_un Q_convI Q_mkfunc Q_extract Q_min Q_max Q_lenS Q_lenA Q_field Q_idxA Q_mkiface Q_tassert Q_alloc Q_box Q_store Q_mkslice Q_append Q_appendZ Q_copy Q_clear Q_build Q_load Q_nilck Q_isnil Q_convS Q_slice Q_faddr Q_iaddr Q_iaddrA Q_len H_alloc H_box H_bslice H_store H_mkslice H_append H_appendZ H_copy H_clear free_mv free_pick free_bin free_un free_convI free_mkfunc free_extract free_min free_max free_lenS free_lenA free_field free_idxA free_mkiface free_tassert free_build free_load free_nilck free_isnil free_convS free_slice free_faddr free_iaddr free_iaddrA free_len callW_y List.length_map List.length_set leaves_r evR_some evRess1 evRess2 evRess3 evRes_t evRes_c nz_kind nz_enc nz_cred nz_source nz_parent nz_ienc nz_hash nz_un true_or or_true bsl_node idbs_node idbs_int appN appI appO ixo_nodes canon_row canon_rowI canon_rowO not_false_eq_true not_true_eq_false ldE_a ldE_c adE_b stE_b onE_a onP_b bsl_zero idbs_zero appN_zero
attribute [local go_sem low] condW_b grdW_b lgrdW_b ldP adP stP onO onPt
attribute [local simp] envL_cons envL_nil idb_int idb_bool idb_str idb_ints idb_nil idb_own idb_ptr entB_ints' idb_octs entB_octs idb_intss entB_intss idb_octss entB_octss idb_nodes entB_nodes idb_leafA idb_innerA idb_nodeA idb_agg idb_tup idb_iptr idb_fn idb_undef entB_dead entB_box

theorem vget_cons (x : Int) (r : List Int) (K : Nat) (hK : vk x = K) (h0 : K ≠ 0) : vget (x :: r) = if r.length + 1 < K then (0, [], 1) else if vsize (num (x % 64 :: r.take (K - 1))) ≠ K then (0, [], 2) else (num (x % 64 :: r.take (K - 1)), r.drop (K - 1), 0) := by
  simp only [vget, hK, h0, if_false]
theorem vget_none (x : Int) (r : List Int) (hK : vk x = 0) : vget (x :: r) = (0, [], 2) := by simp only [vget, hK, if_true]
theorem num_cons_take (m : Int) (r : List Int) (i : Nat) (h : i < r.length) : num (m :: r.take (i + 1)) = num (m :: r.take i) * 256 + r[i] := by
  rw [List.take_succ_eq_append_getElem h, show m :: (r.take i ++ [r[i]]) = (m :: r.take i) ++ [r[i]] from rfl, num_snoc]
theorem num_cons_bd {m : Int} {r : List Int} (hm : 0 ≤ m ∧ m < 64) (hr : Bytes r) (h : r.length ≤ 3) : 0 ≤ num (m :: r) ∧ num (m :: r) ≤ 1073741823 := by
  match r, hr, h with
  | [], _, _ => simp [num]; omega
  | [a], hr, _ => have := hr a (by simp); simp [num]; omega
  | [a, b], hr, _ => have := hr a (by simp); have := hr b (by simp); simp [num]; omega
  | [a, b, c], hr, _ => have := hr a (by simp); have := hr b (by simp); have := hr c (by simp); simp [num]; omega
theorem num_cons_bd2 {m : Int} {r : List Int} (hm : 0 ≤ m ∧ m < 64) (hr : Bytes r) (h : r.length ≤ 2) : 0 ≤ num (m :: r) ∧ num (m :: r) ≤ 4194303 := by
  match r, hr, h with
  | [], _, _ => simp [num]; omega
  | [a], hr, _ => have := hr a (by simp); simp [num]; omega
  | [a, b], hr, _ => have := hr a (by simp); have := hr b (by simp); simp [num]; omega

theorem bytes_take {r : List Int} (h : Bytes r) (k : Nat) : Bytes (r.take k) := fun y hy => h y (List.mem_of_mem_take hy)
set_option maxHeartbeats 2000000 in
theorem varGet_some (x : Int) (r : List Int) (K : Nat) (j : Int) (hK : vk x = K) (hK0 : 1 ≤ K ∧ K ≤ 4) (hb : Oct (x :: r)) (q : IntKind.u8.wrap (x.tdiv 64) = j) (c : (0 ≤ j ∧ j < ((4 : Nat) : Int)) = True)
    (ix : [AV.int .i64 1, AV.int .i64 2, AV.int .i64 4, AV.int .i64 0][j.toNat * 1]? = some (AV.int .i64 (K : Int))) :
    Fun seat 215 [octs (x :: r)] (.tup [.int .i64 (vget (x :: r)).1, octs (vget (x :: r)).2.1, .int .i64 (vget (x :: r)).2.2]) := by
  have hB := bytes_of hb
  have hx := hB x (by simp)
  have hr : Bytes r := fun y hy => hB y (by simp [hy])
  have l0 : ¬ ((r.length + 1 : Nat) : Int) = 0 := by omega
  have k0 : ¬ (K : Int) = 0 := by omega
  have i0 : ∀ H, evIndex H 1 (octs (x :: r)) (.int .i64 0) = some (.iptr [.int .u8 x] 0) := fun H => index_octs H (x :: r) 0 (by simp)
  rw [vget_cons x r K hK (by omega)]
  by_cases hs : r.length + 1 < K
  · have g : ((r.length + 1 : Nat) : Int) < (K : Int) := by omega
    rw [if_pos hs]
    refine Fun.of0R [] told215 (by simp [il215]) (by simp [idb_patchA]) (by simp [idb_patchA]) 4 ?_
    simp -implicitDefEqProofs only [il215, List.zipIdx_cons, List.zipIdx_nil, leafA, innerA, nodeA, patchA, Leaf.cells, Inner.cells, Node.cells, decide_true, decide_false, l0, i0, q, c, ix, k0, g, Int.reduceEq, go_sem, Nat.reduceEqDiff, reduceIte, Nat.reduceAdd, Nat.reduceLeDiff, Nat.reduceLT, Nat.reduceSub]
    try rfl
  have g : ¬ ((r.length + 1 : Nat) : Int) < (K : Int) := by omega
  rw [if_neg hs]
  have rm : x.tmod 64 = x % 64 := Int.tmod_eq_emod_of_nonneg hx.1
  have w0 : IntKind.i64.wrap (x % 64) = x % 64 := wrap64 _ (by omega) (by omega)
  obtain ⟨R, hR⟩ : ∃ R, R = r.take (K - 1) := ⟨_, rfl⟩
  have hRl : R.length = K - 1 := by rw [hR, List.length_take]; omega
  have hRb : Bytes R := by rw [hR]; exact bytes_take hr _
  have sl1 : ∀ H, evSlice H 1 (octs (x :: r)) (some (.int .i64 1)) (some (.int .i64 (K : Int))) none = some (octs R) := fun H => by
    have := sliceFT_octs H (x :: r) 1 (K : Int) (by omega) (by omega) (by simp; omega)
    rw [Int.toNat_natCast, show ((x :: r).take K).drop (1 : Int).toNat = R by
      rw [hR]; obtain ⟨k, rfl⟩ : ∃ k, K = k + 1 := ⟨K - 1, by omega⟩
      rfl] at this
    exact this
  have sl2 : ∀ H, evSlice H 1 (octs (x :: r)) (some (.int .i64 (K : Int))) none none = some (octs (r.drop (K - 1))) := fun H => by
    have := sliceF_octs H (x :: r) (K : Int) (by omega) (by simp; omega)
    rw [Int.toNat_natCast, show (x :: r).drop K = r.drop (K - 1) by
      obtain ⟨k, rfl⟩ : ∃ k, K = k + 1 := ⟨K - 1, by omega⟩
      rfl] at this
    exact this
  rw [← hR]
  refine Fun.of0R [r232] told215 (by simp [il215]) (by simp [idb_patchA]) (by simp [idb_patchA]) 4 ?_
  simp -implicitDefEqProofs only [il215, List.zipIdx_cons, List.zipIdx_nil, leafA, innerA, nodeA, patchA, Leaf.cells, Inner.cells, Node.cells, r232_c, r232_ask, decide_true, decide_false, l0, i0, q, c, ix, k0, g, rm, w0, sl1, Int.reduceEq, go_sem, Nat.reduceEqDiff, reduceIte, Nat.reduceAdd, Nat.reduceLeDiff, Nat.reduceLT, Nat.reduceSub]
  refine WP.loop0 (fun i => i ≤ R.length) (fun i => [(0, octs (x :: r)), (5, .int .i64 K), (6, .int .i64 (num (x % 64 :: R.take i))), (33, octs R), (34, .int .i64 R.length), (35, .int .i64 (i : Nat))]) (fun i => R.length - i) 0 (Nat.zero_le _) (fun i _ => by simp ) (by simp [num]) ?_
  intro i hi
  refine wpc_soundR [] ?_
  by_cases hlt : (i : Int) < (R.length : Nat)
  · have hi' : i < R.length := by omega
    have hy := hRb _ (List.getElem_mem hi')
    have hn := num_cons_bd2 (m := x % 64) (r := R.take i) (by omega) (bytes_take hRb _) (by rw [List.length_take]; omega)
    have w1 : IntKind.i64.wrap (num (x % 64 :: R.take i) * 256) = num (x % 64 :: R.take i) * 256 := wrap64 _ (by omega) (by omega)
    have w2 : IntKind.i64.wrap R[i] = R[i] := wrap64 _ (by omega) (by omega)
    have o := or_octet (num (x % 64 :: R.take i)) R[i] hn.1 (by omega) hy.1 hy.2
    rw [← num_cons_take _ _ _ hi'] at o
    simp -implicitDefEqProofs only [leafA, innerA, nodeA, patchA, Leaf.cells, Inner.cells, Node.cells, decide_true, decide_false, hlt, w1, w2, shl8, o, fun H => index_octs H R i hi', go_sem, Nat.reduceEqDiff, reduceIte, Nat.reduceAdd, Nat.reduceLeDiff, Nat.reduceLT, Nat.reduceSub]
    exact ⟨i + 1, by omega, by omega, by simp [wrapS (show i < 9223372036854775807 by omega)]⟩
  · have e : i = R.length := by omega
    subst e
    rw [List.take_length]
    by_cases hv : vsize (num (x % 64 :: R)) = (K : Int)
    · rw [if_neg (not_not_intro hv)]
      simp -implicitDefEqProofs only [leafA, innerA, nodeA, patchA, Leaf.cells, Inner.cells, Node.cells, r232_c, r232_ask, decide_true, decide_false, hlt, hv, go_sem, Nat.reduceEqDiff, reduceIte, Nat.reduceAdd, Nat.reduceLeDiff, Nat.reduceLT, Nat.reduceSub]
      refine WP.drawQ [] [.l, .l, .l, .l, .l, .l, .l] mixed (by decide) ?_
      simp -implicitDefEqProofs only [leafA, innerA, nodeA, patchA, Leaf.cells, Inner.cells, Node.cells, decide_true, decide_false, sl2, go_sem, Nat.reduceEqDiff, reduceIte, Nat.reduceAdd, Nat.reduceLeDiff, Nat.reduceLT, Nat.reduceSub]
      try rfl
    · rw [if_pos hv]
      simp -implicitDefEqProofs only [leafA, innerA, nodeA, patchA, Leaf.cells, Inner.cells, Node.cells, r232_c, r232_ask, decide_true, decide_false, hlt, hv, go_sem, Nat.reduceEqDiff, reduceIte, Nat.reduceAdd, Nat.reduceLeDiff, Nat.reduceLT, Nat.reduceSub]
      try rfl
theorem varGet_spec (b : List Int) (hb : Oct b) : Fun seat 215 [octs b] (.tup [.int .i64 (vget b).1, octs (vget b).2.1, .int .i64 (vget b).2.2]) := by
  have hB := bytes_of hb
  have hlb := hb.1
  simp only [Small] at hlb
  cases b with
  | nil =>
    refine Fun.of0R [] told215 (by simp [il215]) (by simp [idb_patchA]) (by simp [idb_patchA]) 4 ?_
    simp -implicitDefEqProofs only [il215, List.zipIdx_cons, List.zipIdx_nil, leafA, innerA, nodeA, patchA, Leaf.cells, Inner.cells, Node.cells, decide_true, decide_false, List.length_nil, Int.natCast_zero, go_sem, Nat.reduceEqDiff, reduceIte, Nat.reduceAdd, Nat.reduceLeDiff, Nat.reduceLT, Nat.reduceSub]
    exact ⟨rfl, rfl, rfl⟩
  | cons x r =>
    have hx := hB x (by simp)
    by_cases h1 : x < 64
    · exact varGet_some x r 1 0 (by unfold vk; rw [if_pos h1]) (by omega) hb (by rw [Int.tdiv_eq_ediv_of_nonneg hx.1, wrapU8]; omega) (by simp) rfl
    by_cases h2 : x < 128
    · exact varGet_some x r 2 1 (by unfold vk; rw [if_neg h1, if_pos h2]) (by omega) hb (by rw [Int.tdiv_eq_ediv_of_nonneg hx.1, wrapU8]; omega) (by simp) rfl
    by_cases h3 : x < 192
    · exact varGet_some x r 4 2 (by unfold vk; rw [if_neg h1, if_neg h2, if_pos h3]) (by omega) hb (by rw [Int.tdiv_eq_ediv_of_nonneg hx.1, wrapU8]; omega) (by simp) rfl
    rw [vget_none x r (by unfold vk; rw [if_neg h1, if_neg h2, if_neg h3])]
    have l0 : ¬ ((r.length + 1 : Nat) : Int) = 0 := by omega
    have i0 : ∀ H, evIndex H 1 (octs (x :: r)) (.int .i64 0) = some (.iptr [.int .u8 x] 0) := fun H => index_octs H (x :: r) 0 (by simp)
    have q : IntKind.u8.wrap (x.tdiv 64) = 3 := by rw [Int.tdiv_eq_ediv_of_nonneg hx.1, wrapU8]; omega
    have c : ((0 : Int) ≤ 3 ∧ (3 : Int) < ((4 : Nat) : Int)) = True := by simp
    have ix : [AV.int .i64 1, AV.int .i64 2, AV.int .i64 4, AV.int .i64 0][(3 : Int).toNat * 1]? = some (AV.int .i64 0) := rfl
    refine Fun.of0R [] told215 (by simp [il215]) (by simp [idb_patchA]) (by simp [idb_patchA]) 4 ?_
    simp -implicitDefEqProofs only [il215, List.zipIdx_cons, List.zipIdx_nil, leafA, innerA, nodeA, patchA, Leaf.cells, Inner.cells, Node.cells, decide_true, decide_false, l0, i0, q, c, ix, Int.reduceEq, go_sem, Nat.reduceEqDiff, reduceIte, Nat.reduceAdd, Nat.reduceLeDiff, Nat.reduceLT, Nat.reduceSub]
    try rfl
noncomputable def r215 : Reg seat := .of told215 (ask1 (fun a0' => isO a0' ∧ Oct (dO a0')) fun a0' => .fn (.tup [.int .i64 (vget (dO a0')).1, octs (vget (dO a0')).2.1, .int .i64 (vget (dO a0')).2.2])) (ask1_ok fun a0' h => SaidOk.fn (Fun.weak (.cons (isO.weak h.1) .nil) (varGet_spec _ h.2)))
theorem r215_c : r215.c = 215 := rfl
open Classical in
theorem r215_ask (a0' : AV) : r215.ask [a0'] = if isO a0' ∧ Oct (dO a0') then some (Said.fn (.tup [.int .i64 (vget (dO a0')).1, octs (vget (dO a0')).2.1, .int .i64 (vget (dO a0')).2.2])) else none := by unfold r215 Reg.of ask1; exact ite_cl

set_option maxHeartbeats 2000000 in
theorem refVarGet_some (x : Int) (r : List Int) (K : Nat) (hK : vk x = K) (hK0 : 1 ≤ K ∧ K ≤ 4) (hb : Oct (x :: r)) (hc : (K = 1 ∧ x < 64) ∨ (K = 2 ∧ ¬ x < 64 ∧ x < 128) ∨ (K = 4 ∧ ¬ x < 64 ∧ ¬ x < 128 ∧ ¬ x ≥ 192)) :
    Fun seat 217 [octs (x :: r)] (.tup [.int .i64 (vget (x :: r)).1, octs (vget (x :: r)).2.1, .int .i64 (vget (x :: r)).2.2]) := by
  have hB := bytes_of hb
  have hx := hB x (by simp)
  have hr : Bytes r := fun y hy => hB y (by simp [hy])
  have l0 : ¬ ((r.length + 1 : Nat) : Int) = 0 := by omega
  have i0 : ∀ H, evIndex H 1 (octs (x :: r)) (.int .i64 0) = some (.iptr [.int .u8 x] 0) := fun H => index_octs H (x :: r) 0 (by simp)
  rw [vget_cons x r K hK (by omega)]
  by_cases hs : r.length + 1 < K
  · rw [if_pos hs]
    rcases hc with ⟨rfl, c1⟩ | ⟨rfl, c1, c2⟩ | ⟨rfl, c1, c2, c3⟩
    · omega
    · have g : ((r.length + 1 : Nat) : Int) < 2 := by omega
      refine Fun.of0R [] told217 (by simp [il217]) (by simp [idb_patchA]) (by simp [idb_patchA]) 4 ?_
      simp -implicitDefEqProofs only [il217, List.zipIdx_cons, List.zipIdx_nil, leafA, innerA, nodeA, patchA, Leaf.cells, Inner.cells, Node.cells, decide_true, decide_false, l0, i0, c1, c2, g, Int.reduceEq, go_sem, Nat.reduceEqDiff, reduceIte, Nat.reduceAdd, Nat.reduceLeDiff, Nat.reduceLT, Nat.reduceSub]
      try rfl
    · have g : ((r.length + 1 : Nat) : Int) < 4 := by omega
      refine Fun.of0R [] told217 (by simp [il217]) (by simp [idb_patchA]) (by simp [idb_patchA]) 4 ?_
      simp -implicitDefEqProofs only [il217, List.zipIdx_cons, List.zipIdx_nil, leafA, innerA, nodeA, patchA, Leaf.cells, Inner.cells, Node.cells, decide_true, decide_false, l0, i0, c1, c2, c3, g, Int.reduceEq, go_sem, Nat.reduceEqDiff, reduceIte, Nat.reduceAdd, Nat.reduceLeDiff, Nat.reduceLT, Nat.reduceSub]
      try rfl
  rw [if_neg hs]
  have rm : x.tmod 64 = x % 64 := Int.tmod_eq_emod_of_nonneg hx.1
  have w00 : IntKind.i64.wrap x = x := wrap64 _ (by omega) (by omega)
  obtain ⟨R, hR⟩ : ∃ R, R = r.take (K - 1) := ⟨_, rfl⟩
  have hRl : R.length = K - 1 := by rw [hR, List.length_take]; omega
  have hRb : Bytes R := by rw [hR]; exact bytes_take hr _
  have sl2 : ∀ H, evSlice H 1 (octs (x :: r)) (some (.int .i64 (K : Int))) none none = some (octs (r.drop (K - 1))) := fun H => by
    have := sliceF_octs H (x :: r) (K : Int) (by omega) (by simp; omega)
    rw [Int.toNat_natCast, show (x :: r).drop K = r.drop (K - 1) by
      obtain ⟨k, rfl⟩ : ∃ k, K = k + 1 := ⟨K - 1, by omega⟩
      rfl] at this
    exact this
  have ir : ∀ i (hi : i < R.length) H, evIndex H 1 (octs (x :: r)) (.int .i64 ((i + 1 : Nat) : Int)) = some (.iptr [.int .u8 R[i]] 0) := fun i hi H => by
    have := index_octs H (x :: r) (i + 1) (by rw [hRl] at hi; simp; omega)
    rw [this]
    simp only [List.getElem_cons_succ, hR, List.getElem_take]
  rw [← hR]
  rcases hc with ⟨rfl, c1⟩ | ⟨rfl, c1, c2⟩ | ⟨rfl, c1, c2, c3⟩
  · have g : ¬ ((r.length + 1 : Nat) : Int) < 1 := by omega
    have sl3 : ∀ H, evSlice H 1 (octs (x :: r)) (some (.int .i64 1)) none none = some (octs (r.drop (1 - 1))) := sl2
    refine Fun.of0R [r234] told217 (by simp [il217]) (by simp [idb_patchA]) (by simp [idb_patchA]) 4 ?_
    simp -implicitDefEqProofs only [il217, List.zipIdx_cons, List.zipIdx_nil, leafA, innerA, nodeA, patchA, Leaf.cells, Inner.cells, Node.cells, r234_c, r234_ask, decide_true, decide_false, l0, i0, c1, g, rm, w00, Int.reduceEq, go_sem, Nat.reduceEqDiff, reduceIte, Nat.reduceAdd, Nat.reduceLeDiff, Nat.reduceLT, Nat.reduceSub]
    refine WP.loop0 (fun i => i ≤ R.length) (fun i => [(0, octs (x :: r)), (5, .int .i64 1), (6, .int .i64 (num (x % 64 :: R.take i))), (7, .int .i64 ((i + 1 : Nat) : Int))]) (fun i => R.length - i) 0 (Nat.zero_le _) (fun i _ => by simp ) (by simp [num]) ?_
    intro i hi
    refine wpc_soundR [] ?_
    by_cases hlt : ((i + 1 : Nat) : Int) < 1
    · have hi' : i < R.length := by omega
      have hy := hRb _ (List.getElem_mem hi')
      have hn := num_cons_bd2 (m := x % 64) (r := R.take i) (by omega) (bytes_take hRb _) (by rw [List.length_take]; omega)
      have w1 : IntKind.i64.wrap (num (x % 64 :: R.take i) * 256) = num (x % 64 :: R.take i) * 256 := wrap64 _ (by omega) (by omega)
      have w2 : IntKind.i64.wrap R[i] = R[i] := wrap64 _ (by omega) (by omega)
      have w3 : IntKind.i64.wrap (num (x % 64 :: R.take i) * 256 + R[i]) = num (x % 64 :: R.take (i + 1)) := by rw [num_cons_take _ _ _ hi', wrap64 _ (by omega) (by omega)]
      simp -implicitDefEqProofs only [leafA, innerA, nodeA, patchA, Leaf.cells, Inner.cells, Node.cells, decide_true, decide_false, hlt, w1, w2, w3, ir i hi', go_sem, Nat.reduceEqDiff, reduceIte, Nat.reduceAdd, Nat.reduceLeDiff, Nat.reduceLT, Nat.reduceSub]
      exact ⟨i + 1, by omega, by omega, by simp ; rw [wrap64 _ (by omega) (by omega)]⟩
    · have e : i = R.length := by omega
      subst e
      rw [List.take_length]
      by_cases hv : vsize (num (x % 64 :: R)) = 1
      · rw [if_neg (not_not_intro (show vsize (num (x % 64 :: R)) = ((1 : Nat) : Int) from hv))]
        simp -implicitDefEqProofs only [leafA, innerA, nodeA, patchA, Leaf.cells, Inner.cells, Node.cells, r234_c, r234_ask, decide_true, decide_false, hlt, hv, go_sem, Nat.reduceEqDiff, reduceIte, Nat.reduceAdd, Nat.reduceLeDiff, Nat.reduceLT, Nat.reduceSub]
        refine WP.drawQ [] [.l, .l, .l, .l, .l, .l, .l] mixed (by decide) ?_
        simp -implicitDefEqProofs only [leafA, innerA, nodeA, patchA, Leaf.cells, Inner.cells, Node.cells, decide_true, decide_false, sl3, go_sem, Nat.reduceEqDiff, reduceIte, Nat.reduceAdd, Nat.reduceLeDiff, Nat.reduceLT, Nat.reduceSub]
        try rfl
      · rw [if_pos (show ¬ vsize (num (x % 64 :: R)) = ((1 : Nat) : Int) from hv)]
        simp -implicitDefEqProofs only [leafA, innerA, nodeA, patchA, Leaf.cells, Inner.cells, Node.cells, r234_c, r234_ask, decide_true, decide_false, hlt, hv, go_sem, Nat.reduceEqDiff, reduceIte, Nat.reduceAdd, Nat.reduceLeDiff, Nat.reduceLT, Nat.reduceSub]
        try rfl
  · have g : ¬ ((r.length + 1 : Nat) : Int) < 2 := by omega
    have sl3 : ∀ H, evSlice H 1 (octs (x :: r)) (some (.int .i64 2)) none none = some (octs (r.drop (2 - 1))) := sl2
    refine Fun.of0R [r234] told217 (by simp [il217]) (by simp [idb_patchA]) (by simp [idb_patchA]) 4 ?_
    simp -implicitDefEqProofs only [il217, List.zipIdx_cons, List.zipIdx_nil, leafA, innerA, nodeA, patchA, Leaf.cells, Inner.cells, Node.cells, r234_c, r234_ask, decide_true, decide_false, l0, i0, c1, c2, g, rm, w00, Int.reduceEq, go_sem, Nat.reduceEqDiff, reduceIte, Nat.reduceAdd, Nat.reduceLeDiff, Nat.reduceLT, Nat.reduceSub]
    refine WP.loop0 (fun i => i ≤ R.length) (fun i => [(0, octs (x :: r)), (5, .int .i64 2), (6, .int .i64 (num (x % 64 :: R.take i))), (7, .int .i64 ((i + 1 : Nat) : Int))]) (fun i => R.length - i) 0 (Nat.zero_le _) (fun i _ => by simp ) (by simp [num]) ?_
    intro i hi
    refine wpc_soundR [] ?_
    by_cases hlt : ((i + 1 : Nat) : Int) < 2
    · have hi' : i < R.length := by omega
      have hy := hRb _ (List.getElem_mem hi')
      have hn := num_cons_bd2 (m := x % 64) (r := R.take i) (by omega) (bytes_take hRb _) (by rw [List.length_take]; omega)
      have w1 : IntKind.i64.wrap (num (x % 64 :: R.take i) * 256) = num (x % 64 :: R.take i) * 256 := wrap64 _ (by omega) (by omega)
      have w2 : IntKind.i64.wrap R[i] = R[i] := wrap64 _ (by omega) (by omega)
      have w3 : IntKind.i64.wrap (num (x % 64 :: R.take i) * 256 + R[i]) = num (x % 64 :: R.take (i + 1)) := by rw [num_cons_take _ _ _ hi', wrap64 _ (by omega) (by omega)]
      simp -implicitDefEqProofs only [leafA, innerA, nodeA, patchA, Leaf.cells, Inner.cells, Node.cells, decide_true, decide_false, hlt, w1, w2, w3, ir i hi', go_sem, Nat.reduceEqDiff, reduceIte, Nat.reduceAdd, Nat.reduceLeDiff, Nat.reduceLT, Nat.reduceSub]
      exact ⟨i + 1, by omega, by omega, by simp ; rw [wrap64 _ (by omega) (by omega)]⟩
    · have e : i = R.length := by omega
      subst e
      rw [List.take_length]
      by_cases hv : vsize (num (x % 64 :: R)) = 2
      · rw [if_neg (not_not_intro (show vsize (num (x % 64 :: R)) = ((2 : Nat) : Int) from hv))]
        simp -implicitDefEqProofs only [leafA, innerA, nodeA, patchA, Leaf.cells, Inner.cells, Node.cells, r234_c, r234_ask, decide_true, decide_false, hlt, hv, go_sem, Nat.reduceEqDiff, reduceIte, Nat.reduceAdd, Nat.reduceLeDiff, Nat.reduceLT, Nat.reduceSub]
        refine WP.drawQ [] [.l, .l, .l, .l, .l, .l, .l] mixed (by decide) ?_
        simp -implicitDefEqProofs only [leafA, innerA, nodeA, patchA, Leaf.cells, Inner.cells, Node.cells, decide_true, decide_false, sl3, go_sem, Nat.reduceEqDiff, reduceIte, Nat.reduceAdd, Nat.reduceLeDiff, Nat.reduceLT, Nat.reduceSub]
        try rfl
      · rw [if_pos (show ¬ vsize (num (x % 64 :: R)) = ((2 : Nat) : Int) from hv)]
        simp -implicitDefEqProofs only [leafA, innerA, nodeA, patchA, Leaf.cells, Inner.cells, Node.cells, r234_c, r234_ask, decide_true, decide_false, hlt, hv, go_sem, Nat.reduceEqDiff, reduceIte, Nat.reduceAdd, Nat.reduceLeDiff, Nat.reduceLT, Nat.reduceSub]
        try rfl
  · have g : ¬ ((r.length + 1 : Nat) : Int) < 4 := by omega
    have sl3 : ∀ H, evSlice H 1 (octs (x :: r)) (some (.int .i64 4)) none none = some (octs (r.drop (4 - 1))) := sl2
    refine Fun.of0R [r234] told217 (by simp [il217]) (by simp [idb_patchA]) (by simp [idb_patchA]) 4 ?_
    simp -implicitDefEqProofs only [il217, List.zipIdx_cons, List.zipIdx_nil, leafA, innerA, nodeA, patchA, Leaf.cells, Inner.cells, Node.cells, r234_c, r234_ask, decide_true, decide_false, l0, i0, c1, c2, c3, g, rm, w00, Int.reduceEq, go_sem, Nat.reduceEqDiff, reduceIte, Nat.reduceAdd, Nat.reduceLeDiff, Nat.reduceLT, Nat.reduceSub]
    refine WP.loop0 (fun i => i ≤ R.length) (fun i => [(0, octs (x :: r)), (5, .int .i64 4), (6, .int .i64 (num (x % 64 :: R.take i))), (7, .int .i64 ((i + 1 : Nat) : Int))]) (fun i => R.length - i) 0 (Nat.zero_le _) (fun i _ => by simp ) (by simp [num]) ?_
    intro i hi
    refine wpc_soundR [] ?_
    by_cases hlt : ((i + 1 : Nat) : Int) < 4
    · have hi' : i < R.length := by omega
      have hy := hRb _ (List.getElem_mem hi')
      have hn := num_cons_bd2 (m := x % 64) (r := R.take i) (by omega) (bytes_take hRb _) (by rw [List.length_take]; omega)
      have w1 : IntKind.i64.wrap (num (x % 64 :: R.take i) * 256) = num (x % 64 :: R.take i) * 256 := wrap64 _ (by omega) (by omega)
      have w2 : IntKind.i64.wrap R[i] = R[i] := wrap64 _ (by omega) (by omega)
      have w3 : IntKind.i64.wrap (num (x % 64 :: R.take i) * 256 + R[i]) = num (x % 64 :: R.take (i + 1)) := by rw [num_cons_take _ _ _ hi', wrap64 _ (by omega) (by omega)]
      simp -implicitDefEqProofs only [leafA, innerA, nodeA, patchA, Leaf.cells, Inner.cells, Node.cells, decide_true, decide_false, hlt, w1, w2, w3, ir i hi', go_sem, Nat.reduceEqDiff, reduceIte, Nat.reduceAdd, Nat.reduceLeDiff, Nat.reduceLT, Nat.reduceSub]
      exact ⟨i + 1, by omega, by omega, by simp ; rw [wrap64 _ (by omega) (by omega)]⟩
    · have e : i = R.length := by omega
      subst e
      rw [List.take_length]
      by_cases hv : vsize (num (x % 64 :: R)) = 4
      · rw [if_neg (not_not_intro (show vsize (num (x % 64 :: R)) = ((4 : Nat) : Int) from hv))]
        simp -implicitDefEqProofs only [leafA, innerA, nodeA, patchA, Leaf.cells, Inner.cells, Node.cells, r234_c, r234_ask, decide_true, decide_false, hlt, hv, go_sem, Nat.reduceEqDiff, reduceIte, Nat.reduceAdd, Nat.reduceLeDiff, Nat.reduceLT, Nat.reduceSub]
        refine WP.drawQ [] [.l, .l, .l, .l, .l, .l, .l] mixed (by decide) ?_
        simp -implicitDefEqProofs only [leafA, innerA, nodeA, patchA, Leaf.cells, Inner.cells, Node.cells, decide_true, decide_false, sl3, go_sem, Nat.reduceEqDiff, reduceIte, Nat.reduceAdd, Nat.reduceLeDiff, Nat.reduceLT, Nat.reduceSub]
        try rfl
      · rw [if_pos (show ¬ vsize (num (x % 64 :: R)) = ((4 : Nat) : Int) from hv)]
        simp -implicitDefEqProofs only [leafA, innerA, nodeA, patchA, Leaf.cells, Inner.cells, Node.cells, r234_c, r234_ask, decide_true, decide_false, hlt, hv, go_sem, Nat.reduceEqDiff, reduceIte, Nat.reduceAdd, Nat.reduceLeDiff, Nat.reduceLT, Nat.reduceSub]
        try rfl
theorem refVarGet_spec (b : List Int) (hb : Oct b) : Fun seat 217 [octs b] (.tup [.int .i64 (vget b).1, octs (vget b).2.1, .int .i64 (vget b).2.2]) := by
  have hB := bytes_of hb
  cases b with
  | nil =>
    refine Fun.of0R [] told217 (by simp [il217]) (by simp [idb_patchA]) (by simp [idb_patchA]) 4 ?_
    simp -implicitDefEqProofs only [il217, List.zipIdx_cons, List.zipIdx_nil, leafA, innerA, nodeA, patchA, Leaf.cells, Inner.cells, Node.cells, decide_true, decide_false, List.length_nil, Int.natCast_zero, go_sem, Nat.reduceEqDiff, reduceIte, Nat.reduceAdd, Nat.reduceLeDiff, Nat.reduceLT, Nat.reduceSub]
    exact ⟨rfl, rfl, rfl⟩
  | cons x r =>
    have hx := hB x (by simp)
    by_cases h1 : x < 64
    · exact refVarGet_some x r 1 (by unfold vk; rw [if_pos h1]) (by omega) hb (.inl ⟨rfl, h1⟩)
    by_cases h2 : x < 128
    · exact refVarGet_some x r 2 (by unfold vk; rw [if_neg h1, if_pos h2]) (by omega) hb (.inr (.inl ⟨rfl, h1, h2⟩))
    by_cases h3 : x ≥ 192
    · rw [vget_none x r (by unfold vk; rw [if_neg h1, if_neg h2, if_neg (by omega)])]
      have l0 : ¬ ((r.length + 1 : Nat) : Int) = 0 := by omega
      have i0 : ∀ H, evIndex H 1 (octs (x :: r)) (.int .i64 0) = some (.iptr [.int .u8 x] 0) := fun H => index_octs H (x :: r) 0 (by simp)
      refine Fun.of0R [] told217 (by simp [il217]) (by simp [idb_patchA]) (by simp [idb_patchA]) 4 ?_
      simp -implicitDefEqProofs only [il217, List.zipIdx_cons, List.zipIdx_nil, leafA, innerA, nodeA, patchA, Leaf.cells, Inner.cells, Node.cells, decide_true, decide_false, l0, i0, h1, h2, h3, Int.reduceEq, go_sem, Nat.reduceEqDiff, reduceIte, Nat.reduceAdd, Nat.reduceLeDiff, Nat.reduceLT, Nat.reduceSub]
      try rfl
    · exact refVarGet_some x r 4 (by unfold vk; rw [if_neg h1, if_neg h2, if_pos (by omega)]) (by omega) hb (.inr (.inr ⟨rfl, h1, h2, h3⟩))
noncomputable def r217 : Reg seat := .of told217 (ask1 (fun a0' => isO a0' ∧ Oct (dO a0')) fun a0' => .fn (.tup [.int .i64 (vget (dO a0')).1, octs (vget (dO a0')).2.1, .int .i64 (vget (dO a0')).2.2])) (ask1_ok fun a0' h => SaidOk.fn (Fun.weak (.cons (isO.weak h.1) .nil) (refVarGet_spec _ h.2)))
theorem r217_c : r217.c = 217 := rfl
open Classical in
theorem r217_ask (a0' : AV) : r217.ask [a0'] = if isO a0' ∧ Oct (dO a0') then some (Said.fn (.tup [.int .i64 (vget (dO a0')).1, octs (vget (dO a0')).2.1, .int .i64 (vget (dO a0')).2.2])) else none := by unfold r217 Reg.of ask1; exact ite_cl
end Go.Proofs.YtlehcigcaihoaaaGreat.Al
