/-
  JOINED: M4, M5, M6, S2A, M7, Q10, Q9
-/
import Derived.Test.YtihhinbjhiankaaGreatDoorLawSetBP7
import Derived.Test.YtihhinbjhiankaaGreatDoorLawSetBP6
set_option linter.unusedSimpArgs false
set_option linter.unusedVariables false
namespace Go.Proofs.YtihhinbjhiankaaGreatDoor.Al
open Go
attribute [local go_sem] W_mv W_pick W_alloc W_box W_build W_bslice W_load W_store W_bin W_isnil W_un W_convI W_convS W_mkiface W_mkfunc W_slice W_faddr W_iaddr W_idxA W_extract W_len W_min W_max W_append W_appendZ W_clear W_invoke thenQ_normal thenQ_exit thenQ_goto thenQ_ret blockQ_normal blockQ_ret blockQ_goto blockQ_exit wpc_skip wpc_region wpc_draw wpc_seq wpc_cond wpc_block wpc_exit wpc_goto wpc_label wpc_ret wpc_loop wpc_range wpc_scope condW_true condW_false condW_dec condW_any W_nil W_call resW_some evalOp Opd.ev updo_envL updo_none setL_cons setL_nil envL_cons Option.map_some Option.bind_some evBin evInt List.map_cons List.map_nil Option.pure_def Option.bind_eq_bind W_grd' grdW_tt grdW_ff grdW_tf grdW_ft grdW_tup grdW_dt grdW_df lgrdW_tup L_mv L_load L_bin L_un L_faddr L_iaddr L_nil L_call lresW_some upd_envL evUn beq_dec bne_dec leaves_ret1 leaves_ret0 leaves_end0 rowLen_ints load_iptr0 not_dec heap_get0 heap_get1 heap_set0 heap_set1 heap_len1 heap_app bslice1_int seen_ints seen_one0 bslice0_int Nat.sub_zero Bool.not_true Bool.not_false List.length_nil List.length_cons List.nil_append List.cons_append Nat.zero_add load_iptrA canon_ptrI canon_bool canon_tup canon_agg canon_ints' canon_ints0 rowLen_ints1 rowLen_octs seen_octs canon_octs' seen_intss seen_octss rowLen_nodes seen_nodes canon_nodes' rowLen_nodes3 seen_list cells_int oneIn_int cells_bool oneIn_bool cells_str oneIn_str cells_list oneIn_list cells_func oneIn_func cells_nilfunc oneIn_nilfunc cells_iptr oneIn_iptr cells_iface oneIn_iface cells_nilIface oneIn_nilIface cells_own cells_ptr cells_anybool oneIn_anybool cells_agg oneIn_own0 oneIn_own1 seenL1 seenM1 oneIn_ptr2 seenL2 oneIn_own3 seenL3 cells_ints oneIn_ints cells_octs oneIn_octs cells_intss oneIn_intss cells_octss oneIn_octss cells_nodes oneIn_nodes ldB0 ldA0 adB0 stB0 ldB1 ldA1 adB1 stB1 ldB2 ldA2 adB2 stB2 ldB3 ldA3 adB3 stB3 ldB4 ldA4 adB4 stB4 ldB5 ldA5 adB5 stB5 List.getElem?_cons_zero List.getElem?_cons_succ beq_self_eq_true splice List.take_zero List.take_succ_cons List.drop_zero List.drop_succ_cons List.append_nil List.set_cons_zero List.set_cons_succ List.all_cons List.all_nil Bool.and_self and_self and_true true_and Nat.lt_irrefl Nat.zero_lt_one Nat.le_refl fillA evNil notA Bool.false_eq_true evMin_int evMax_int Option.map_none freezeP_all_nil freezeP_all_cons frzE_box frzE_arr frzE_dead foldA List.foldlM_cons List.foldlM_nil callW_f lcallW_f ansW_fn ansW_own lansW_fn lansW_own ansW_none lansW_none tab_cons tab_nil dI_int dB_bool dO_octs dO_ints dO_list dO_nil dOs_nil dN_nodeA dLf_agg dIn_agg dN_agg dNs_nodes dNs_nil isI_int isB_bool isO_octs isO_nil isO_list isS_ints isS_nil isNs_nodes isNs_nil isN_nodeA isLf_agg isIn_agg isN_agg leaf_eta inner_eta node_eta leaf_zero inner_zero node_zero dP_agg isP_agg patch_eta decide_eq_true_eq decide_eq_false_iff_not eq_self forall_const true_implies false_implies Bool.not_eq_true' Bool.not_eq_false' Bool.true_eq_false implies_true ne_eq ldI ldIA adI AV.tup.injEq AV.agg.injEq List.cons.injEq AV.int.injEq AV.bool.injEq nodes_inj octs_inj ints_inj nil_nodes nil_octs nil_ints canon_nilL decide_eq_decide two_ne four_ne lendA_fn lendA_own lendA_none llendA_fn llendA_none false_and and_false Q_nil Q_l Q_g Q_h Q_grd qgrdW_b qgrdW_tup lightD_some heavyD_some readD_some fnD_some fnD_own fnD_none callL_f ownH_some litD_some litE_some Q_call Q_bslice H_call pendOk_nil pendOk_cons pastOk_nil pastOk_cons Q_mv Q_pick Q_bin Q_un Q_convI Q_mkfunc Q_extract Q_min Q_max Q_lenS Q_lenA Q_field Q_idxA Q_mkiface Q_tassert Q_alloc Q_box Q_store Q_mkslice Q_append Q_appendZ Q_copy Q_clear Q_build Q_load Q_nilck Q_isnil Q_convS Q_slice Q_faddr Q_iaddr Q_iaddrA Q_len H_alloc H_box H_bslice H_store H_mkslice H_append H_appendZ H_copy H_clear free_mv free_pick free_bin free_un free_convI free_mkfunc free_extract free_min free_max free_lenS free_lenA free_field free_idxA free_mkiface free_tassert free_build free_load free_nilck free_isnil free_convS free_slice free_faddr free_iaddr free_iaddrA free_len callW_y List.length_map List.length_set leaves_r evR_some evRess1 evRess2 evRess3 evRes_t evRes_c nz_kind nz_enc nz_cred nz_source nz_parent nz_ienc nz_hash nz_un true_or or_true bsl_node appI appO ixo_nodes canon_rowI canon_rowO not_false_eq_true not_true_eq_false ldE_a ldE_c adE_b stE_b onE_a onP_b bsl_zero
attribute [local go_sem low] condW_b grdW_b lgrdW_b ldP adP stP onO onPt
attribute [local simp] envL_cons envL_nil idb_int idb_bool idb_ints idb_nil idb_own idb_ptr idb_octs idb_nodes idb_leafA idb_innerA idb_nodeA idb_agg idb_tup idb_iptr idb_fn entB_dead entB_box
theorem vget_cons (x : Int) (r : List Int) (K : Nat) (hK : vk x = K) (h0 : K ≠ 0) : vget (x :: r) = if r.length + 1 < K then (0, [], 1) else if vsize (num (x % 64 :: r.take (K - 1))) ≠ K then (0, [], 2) else (num (x % 64 :: r.take (K - 1)), r.drop (K - 1), 0) := by
  simp only [vget, hK, h0, if_false]
theorem vget_none (x : Int) (r : List Int) (hK : vk x = 0) : vget (x :: r) = (0, [], 2) := by simp only [vget, hK, if_true]
theorem num_cons_take (m : Int) (r : List Int) (i : Nat) (h : i < r.length) : num (m :: r.take (i + 1)) = num (m :: r.take i) * 256 + r[i] := by
  rw [List.take_succ_eq_append_getElem h, show m :: (r.take i ++ [r[i]]) = (m :: r.take i) ++ [r[i]] from rfl, num_snoc]
theorem num_cons_bd2 {m : Int} {r : List Int} (hm : 0 ≤ m ∧ m < 64) (hr : Bytes r) (h : r.length ≤ 2) : 0 ≤ num (m :: r) ∧ num (m :: r) ≤ 4194303 := by
  match r, hr, h with
  | [], _, _ => simp [num]; omega
  | [a], hr, _ => have := hr a (by simp); simp [num]; omega
  | [a, b], hr, _ => have := hr a (by simp); have := hr b (by simp); simp [num]; omega

theorem bytes_take {r : List Int} (h : Bytes r) (k : Nat) : Bytes (r.take k) := fun y hy => h y (List.mem_of_mem_take hy)
set_option maxHeartbeats 2000000 in
theorem varGet_some (x : Int) (r : List Int) (K : Nat) (j : Int) (hK : vk x = K) (hK0 : 1 ≤ K ∧ K ≤ 4) (hb : Oct (x :: r)) (q : IntKind.u8.wrap (x.tdiv 64) = j) (c : (0 ≤ j ∧ j < ((4 : Nat) : Int)) = True)
    (ix : [AV.int .i64 1, AV.int .i64 2, AV.int .i64 4, AV.int .i64 0][j.toNat * 1]? = some (AV.int .i64 (K : Int))) :
    Fun seat 215 [octs (x :: r)] (.tup [.int .i64 (vget (x :: r)).1, octs (vget (x :: r)).2.1, .int .i64 (vget (x :: r)).2.2]) := by
  have hB := bytes_of hb
  have hx := hB x (by simp)
  have hr : Bytes r := fun y hy => hB y (by simp [hy])
  have l0 : ¬ ((r.length + 1 : Nat) : Int) = 0 := by omega
  have k0 : ¬ (K : Int) = 0 := by omega
  have i0 : ∀ H, evIndex H 1 (octs (x :: r)) (.int .i64 0) = some (.iptr [.int .u8 x] 0) := fun H => index_octs H (x :: r) 0 (by simp)
  rw [vget_cons x r K hK (by omega)]
  by_cases hs : r.length + 1 < K
  · have g : ((r.length + 1 : Nat) : Int) < (K : Int) := by omega
    rw [if_pos hs]
    refine Fun.of0R [] told215 (by simp [il215]) (by simp [idb_patchA]) (by simp [idb_patchA]) 4 ?_
    simp -implicitDefEqProofs only [il215, List.zipIdx_cons, List.zipIdx_nil, leafA, innerA, nodeA, patchA, Leaf.cells, Inner.cells, Node.cells, decide_true, decide_false, l0, i0, q, c, ix, k0, g, Int.reduceEq, go_sem, Nat.reduceEqDiff, reduceIte, Nat.reduceAdd, Nat.reduceLeDiff, Nat.reduceLT, Nat.reduceSub]
    try rfl
  have g : ¬ ((r.length + 1 : Nat) : Int) < (K : Int) := by omega
  rw [if_neg hs]
  have rm : x.tmod 64 = x % 64 := Int.tmod_eq_emod_of_nonneg hx.1
  have w0 : IntKind.i64.wrap (x % 64) = x % 64 := wrap64 _ (by omega) (by omega)
  obtain ⟨R, hR⟩ : ∃ R, R = r.take (K - 1) := ⟨_, rfl⟩
  have hRl : R.length = K - 1 := by rw [hR, List.length_take]; omega
  have hRb : Bytes R := by rw [hR]; exact bytes_take hr _
  have sl1 : ∀ H, evSlice H 1 (octs (x :: r)) (some (.int .i64 1)) (some (.int .i64 (K : Int))) none = some (octs R) := fun H => by
    have := sliceFT_octs H (x :: r) 1 (K : Int) (by omega) (by omega) (by simp; omega)
    rw [Int.toNat_natCast, show ((x :: r).take K).drop (1 : Int).toNat = R by
      rw [hR]; obtain ⟨k, rfl⟩ : ∃ k, K = k + 1 := ⟨K - 1, by omega⟩
      rfl] at this
    exact this
  have sl2 : ∀ H, evSlice H 1 (octs (x :: r)) (some (.int .i64 (K : Int))) none none = some (octs (r.drop (K - 1))) := fun H => by
    have := sliceF_octs H (x :: r) (K : Int) (by omega) (by simp; omega)
    rw [Int.toNat_natCast, show (x :: r).drop K = r.drop (K - 1) by
      obtain ⟨k, rfl⟩ : ∃ k, K = k + 1 := ⟨K - 1, by omega⟩
      rfl] at this
    exact this
  rw [← hR]
  refine Fun.of0R [r232] told215 (by simp [il215]) (by simp [idb_patchA]) (by simp [idb_patchA]) 4 ?_
  simp -implicitDefEqProofs only [il215, List.zipIdx_cons, List.zipIdx_nil, leafA, innerA, nodeA, patchA, Leaf.cells, Inner.cells, Node.cells, r232_c, r232_ask, decide_true, decide_false, l0, i0, q, c, ix, k0, g, rm, w0, sl1, Int.reduceEq, go_sem, Nat.reduceEqDiff, reduceIte, Nat.reduceAdd, Nat.reduceLeDiff, Nat.reduceLT, Nat.reduceSub]
  refine WP.loop0 (fun i => i ≤ R.length) (fun i => [(0, octs (x :: r)), (5, .int .i64 K), (6, .int .i64 (num (x % 64 :: R.take i))), (33, octs R), (34, .int .i64 R.length), (35, .int .i64 (i : Nat))]) (fun i => R.length - i) 0 (Nat.zero_le _) (fun i _ => by simp ) (by simp [num]) ?_
  intro i hi
  refine wpc_soundR [] ?_
  by_cases hlt : (i : Int) < (R.length : Nat)
  · have hi' : i < R.length := by omega
    have hy := hRb _ (List.getElem_mem hi')
    have hn := num_cons_bd2 (m := x % 64) (r := R.take i) (by omega) (bytes_take hRb _) (by rw [List.length_take]; omega)
    have w1 : IntKind.i64.wrap (num (x % 64 :: R.take i) * 256) = num (x % 64 :: R.take i) * 256 := wrap64 _ (by omega) (by omega)
    have w2 : IntKind.i64.wrap R[i] = R[i] := wrap64 _ (by omega) (by omega)
    have o := or_octet (num (x % 64 :: R.take i)) R[i] hn.1 (by omega) hy.1 hy.2
    rw [← num_cons_take _ _ _ hi'] at o
    simp -implicitDefEqProofs only [leafA, innerA, nodeA, patchA, Leaf.cells, Inner.cells, Node.cells, decide_true, decide_false, hlt, w1, w2, shl8, o, fun H => index_octs H R i hi', go_sem, Nat.reduceEqDiff, reduceIte, Nat.reduceAdd, Nat.reduceLeDiff, Nat.reduceLT, Nat.reduceSub]
    exact ⟨i + 1, by omega, by omega, by simp [wrapS (show i < 9223372036854775807 by omega)]⟩
  · have e : i = R.length := by omega
    subst e
    rw [List.take_length]
    by_cases hv : vsize (num (x % 64 :: R)) = (K : Int)
    · rw [if_neg (not_not_intro hv)]
      simp -implicitDefEqProofs only [leafA, innerA, nodeA, patchA, Leaf.cells, Inner.cells, Node.cells, r232_c, r232_ask, decide_true, decide_false, hlt, hv, go_sem, Nat.reduceEqDiff, reduceIte, Nat.reduceAdd, Nat.reduceLeDiff, Nat.reduceLT, Nat.reduceSub]
      refine WP.drawQ [] [.l, .l, .l, .l, .l, .l, .l] mixed (by decide) ?_
      simp -implicitDefEqProofs only [leafA, innerA, nodeA, patchA, Leaf.cells, Inner.cells, Node.cells, decide_true, decide_false, sl2, go_sem, Nat.reduceEqDiff, reduceIte, Nat.reduceAdd, Nat.reduceLeDiff, Nat.reduceLT, Nat.reduceSub]
      try rfl
    · rw [if_pos hv]
      simp -implicitDefEqProofs only [leafA, innerA, nodeA, patchA, Leaf.cells, Inner.cells, Node.cells, r232_c, r232_ask, decide_true, decide_false, hlt, hv, go_sem, Nat.reduceEqDiff, reduceIte, Nat.reduceAdd, Nat.reduceLeDiff, Nat.reduceLT, Nat.reduceSub]
      try rfl
theorem varGet_spec (b : List Int) (hb : Oct b) : Fun seat 215 [octs b] (.tup [.int .i64 (vget b).1, octs (vget b).2.1, .int .i64 (vget b).2.2]) := by
  have hB := bytes_of hb
  have hlb := hb.1
  simp only [Small] at hlb
  cases b with
  | nil =>
    refine Fun.of0R [] told215 (by simp [il215]) (by simp [idb_patchA]) (by simp [idb_patchA]) 4 ?_
    simp -implicitDefEqProofs only [il215, List.zipIdx_cons, List.zipIdx_nil, leafA, innerA, nodeA, patchA, Leaf.cells, Inner.cells, Node.cells, decide_true, decide_false, List.length_nil, Int.natCast_zero, go_sem, Nat.reduceEqDiff, reduceIte, Nat.reduceAdd, Nat.reduceLeDiff, Nat.reduceLT, Nat.reduceSub]
    exact ⟨rfl, rfl, rfl⟩
  | cons x r =>
    have hx := hB x (by simp)
    by_cases h1 : x < 64
    · exact varGet_some x r 1 0 (by unfold vk; rw [if_pos h1]) (by omega) hb (by rw [Int.tdiv_eq_ediv_of_nonneg hx.1, wrapU8]; omega) (by simp) rfl
    by_cases h2 : x < 128
    · exact varGet_some x r 2 1 (by unfold vk; rw [if_neg h1, if_pos h2]) (by omega) hb (by rw [Int.tdiv_eq_ediv_of_nonneg hx.1, wrapU8]; omega) (by simp) rfl
    by_cases h3 : x < 192
    · exact varGet_some x r 4 2 (by unfold vk; rw [if_neg h1, if_neg h2, if_pos h3]) (by omega) hb (by rw [Int.tdiv_eq_ediv_of_nonneg hx.1, wrapU8]; omega) (by simp) rfl
    rw [vget_none x r (by unfold vk; rw [if_neg h1, if_neg h2, if_neg h3])]
    have l0 : ¬ ((r.length + 1 : Nat) : Int) = 0 := by omega
    have i0 : ∀ H, evIndex H 1 (octs (x :: r)) (.int .i64 0) = some (.iptr [.int .u8 x] 0) := fun H => index_octs H (x :: r) 0 (by simp)
    have q : IntKind.u8.wrap (x.tdiv 64) = 3 := by rw [Int.tdiv_eq_ediv_of_nonneg hx.1, wrapU8]; omega
    have c : ((0 : Int) ≤ 3 ∧ (3 : Int) < ((4 : Nat) : Int)) = True := by simp
    have ix : [AV.int .i64 1, AV.int .i64 2, AV.int .i64 4, AV.int .i64 0][(3 : Int).toNat * 1]? = some (AV.int .i64 0) := rfl
    refine Fun.of0R [] told215 (by simp [il215]) (by simp [idb_patchA]) (by simp [idb_patchA]) 4 ?_
    simp -implicitDefEqProofs only [il215, List.zipIdx_cons, List.zipIdx_nil, leafA, innerA, nodeA, patchA, Leaf.cells, Inner.cells, Node.cells, decide_true, decide_false, l0, i0, q, c, ix, Int.reduceEq, go_sem, Nat.reduceEqDiff, reduceIte, Nat.reduceAdd, Nat.reduceLeDiff, Nat.reduceLT, Nat.reduceSub]
    try rfl
noncomputable def r215 : Reg seat := .of told215 (ask1 (fun a0' => isO a0' ∧ Oct (dO a0')) fun a0' => .fn (.tup [.int .i64 (vget (dO a0')).1, octs (vget (dO a0')).2.1, .int .i64 (vget (dO a0')).2.2])) (ask1_ok fun a0' h => SaidOk.fn (Fun.weak (.cons (isO.weak h.1) .nil) (varGet_spec _ h.2)))
theorem r215_c : r215.c = 215 := rfl
open Classical in
theorem r215_ask (a0' : AV) : r215.ask [a0'] = if isO a0' ∧ Oct (dO a0') then some (Said.fn (.tup [.int .i64 (vget (dO a0')).1, octs (vget (dO a0')).2.1, .int .i64 (vget (dO a0')).2.2])) else none := by unfold r215 Reg.of ask1; exact ite_cl

end Go.Proofs.YtihhinbjhiankaaGreatDoor.Al

set_option linter.unusedSimpArgs false
set_option linter.unusedVariables false
namespace Go.Proofs.YtihhinbjhiankaaGreatDoor.Al
open Go
attribute [local go_sem] W_mv W_pick W_alloc W_box W_build W_bslice W_load W_store W_bin W_isnil W_un W_convI W_convS W_mkiface W_mkfunc W_slice W_faddr W_iaddr W_idxA W_extract W_len W_min W_max W_append W_appendZ W_clear W_invoke thenQ_normal thenQ_exit thenQ_goto thenQ_ret blockQ_normal blockQ_ret blockQ_goto blockQ_exit wpc_skip wpc_region wpc_draw wpc_seq wpc_cond wpc_block wpc_exit wpc_goto wpc_label wpc_ret wpc_loop wpc_range wpc_scope condW_true condW_false condW_dec condW_any W_nil W_call resW_some evalOp Opd.ev updo_envL updo_none setL_cons setL_nil envL_cons Option.map_some Option.bind_some evBin evInt List.map_cons List.map_nil Option.pure_def Option.bind_eq_bind W_grd' grdW_tt grdW_ff grdW_tf grdW_ft grdW_tup grdW_dt grdW_df lgrdW_tup L_mv L_load L_bin L_un L_faddr L_iaddr L_nil L_call lresW_some upd_envL evUn beq_dec bne_dec leaves_ret1 leaves_ret0 leaves_end0 rowLen_ints load_iptr0 not_dec heap_get0 heap_get1 heap_set0 heap_set1 heap_len1 heap_app bslice1_int seen_ints seen_one0 bslice0_int Nat.sub_zero Bool.not_true Bool.not_false List.length_nil List.length_cons List.nil_append List.cons_append Nat.zero_add load_iptrA canon_ptrI canon_bool canon_tup canon_agg canon_ints' canon_ints0 rowLen_ints1 rowLen_octs seen_octs canon_octs' seen_intss seen_octss rowLen_nodes seen_nodes canon_nodes' rowLen_nodes3 seen_list cells_int oneIn_int cells_bool oneIn_bool cells_str oneIn_str cells_list oneIn_list cells_func oneIn_func cells_nilfunc oneIn_nilfunc cells_iptr oneIn_iptr cells_iface oneIn_iface cells_nilIface oneIn_nilIface cells_own cells_ptr cells_anybool oneIn_anybool cells_agg oneIn_own0 oneIn_own1 seenL1 seenM1 oneIn_ptr2 seenL2 oneIn_own3 seenL3 cells_ints oneIn_ints cells_octs oneIn_octs cells_intss oneIn_intss cells_octss oneIn_octss cells_nodes oneIn_nodes ldB0 ldA0 adB0 stB0 ldB1 ldA1 adB1 stB1 ldB2 ldA2 adB2 stB2 ldB3 ldA3 adB3 stB3 ldB4 ldA4 adB4 stB4 ldB5 ldA5 adB5 stB5 List.getElem?_cons_zero List.getElem?_cons_succ beq_self_eq_true splice List.take_zero List.take_succ_cons List.drop_zero List.drop_succ_cons List.append_nil List.set_cons_zero List.set_cons_succ List.all_cons List.all_nil Bool.and_self and_self and_true true_and Nat.lt_irrefl Nat.zero_lt_one Nat.le_refl fillA evNil notA Bool.false_eq_true evMin_int evMax_int Option.map_none freezeP_all_nil freezeP_all_cons frzE_box frzE_arr frzE_dead foldA List.foldlM_cons List.foldlM_nil callW_f lcallW_f ansW_fn ansW_own lansW_fn lansW_own ansW_none lansW_none tab_cons tab_nil dI_int dB_bool dO_octs dO_ints dO_list dO_nil dOs_nil dN_nodeA dLf_agg dIn_agg dN_agg dNs_nodes dNs_nil isI_int isB_bool isO_octs isO_nil isO_list isS_ints isS_nil isNs_nodes isNs_nil isN_nodeA isLf_agg isIn_agg isN_agg leaf_eta inner_eta node_eta leaf_zero inner_zero node_zero dP_agg isP_agg patch_eta decide_eq_true_eq decide_eq_false_iff_not eq_self forall_const true_implies false_implies Bool.not_eq_true' Bool.not_eq_false' Bool.true_eq_false implies_true ne_eq ldI ldIA adI AV.tup.injEq AV.agg.injEq List.cons.injEq AV.int.injEq AV.bool.injEq nodes_inj octs_inj ints_inj nil_nodes nil_octs nil_ints canon_nilL decide_eq_decide two_ne four_ne lendA_fn lendA_own lendA_none llendA_fn llendA_none false_and and_false Q_nil Q_l Q_g Q_h Q_grd qgrdW_b qgrdW_tup lightD_some heavyD_some readD_some fnD_some fnD_own fnD_none callL_f ownH_some litD_some litE_some Q_call Q_bslice H_call pendOk_nil pendOk_cons pastOk_nil pastOk_cons Q_mv Q_pick Q_bin Q_un Q_convI Q_mkfunc Q_extract Q_min Q_max Q_lenS Q_lenA Q_field Q_idxA Q_mkiface Q_tassert Q_alloc Q_box Q_store Q_mkslice Q_append Q_appendZ Q_copy Q_clear Q_build Q_load Q_nilck Q_isnil Q_convS Q_slice Q_faddr Q_iaddr Q_iaddrA Q_len H_alloc H_box H_bslice H_store H_mkslice H_append H_appendZ H_copy H_clear free_mv free_pick free_bin free_un free_convI free_mkfunc free_extract free_min free_max free_lenS free_lenA free_field free_idxA free_mkiface free_tassert free_build free_load free_nilck free_isnil free_convS free_slice free_faddr free_iaddr free_iaddrA free_len callW_y List.length_map List.length_set leaves_r evR_some evRess1 evRess2 evRess3 evRes_t evRes_c nz_kind nz_enc nz_cred nz_source nz_parent nz_ienc nz_hash nz_un true_or or_true bsl_node appI appO ixo_nodes canon_rowI canon_rowO not_false_eq_true not_true_eq_false ldE_a ldE_c adE_b stE_b onE_a onP_b bsl_zero
attribute [local go_sem low] condW_b grdW_b lgrdW_b ldP adP stP onO onPt
attribute [local simp] envL_cons envL_nil idb_int idb_bool idb_ints idb_nil idb_own idb_ptr idb_octs idb_nodes idb_leafA idb_innerA idb_nodeA idb_agg idb_tup idb_iptr idb_fn entB_dead entB_box
theorem vsize_le (n : Int) : vsize n ≤ 4 := by
  unfold vsize
  split
  · omega
  · split
    · omega
    · split <;> omega
set_option maxHeartbeats 1000000 in
theorem putBytes_spec (b v : List Int) (hl : b.length ≤ 4290000000) : FunOwn seat 198 [octs b, octs v] 1 ((pbytes b v).map (AV.int .u8)) := by
  have hl' : b.length ≤ 4294967295 := by omega
  have hl2 : b.length ≤ 4294960000 := by omega
  by_cases hv : (v.length : Int) > 1048576
  · have e : pbytes b v = b := if_pos hv
    rw [e]
    refine FunOwn.of0R [r196, r219] told198 (by simp [il198]) (by simp [idb_patchA]) (by first | exact encI64.xs_idb _ | exact encU8.xs_idb _ | exact encNode.xs_idb _) ?_
    simp -implicitDefEqProofs only [il198, List.zipIdx_cons, List.zipIdx_nil, leafA, innerA, nodeA, patchA, Leaf.cells, Inner.cells, Node.cells, r196_c, r196_ask, r219_c, r219_ask, decide_true, decide_false, hl', hl2, hv, go_sem, Nat.reduceEqDiff, reduceIte, Nat.reduceAdd, Nat.reduceLeDiff, Nat.reduceLT, Nat.reduceSub]
    exact ⟨0, _, rfl, rfl⟩
  · have e : pbytes b v = (b ++ vput v.length) ++ v := if_neg hv
    rw [e]
    have hp := vput_len (n := (v.length : Int)) (by omega) (by omega)
    have hs : vsize (v.length : Int) ≤ 4 := vsize_le _
    obtain ⟨u, ap⟩ := encU8.app_any (H := [.arr 1 0 ((b ++ vput (v.length : Int)).map (AV.int .u8))]) (id := 0) (ver := 0) (l := b ++ vput (v.length : Int)) (ys := v) (bytes := 1) rfl (by unfold maxRow; simp; omega) (by decide)
    have ap' : evAppend [.arr 1 0 ((b ++ vput (v.length : Int)).map (AV.int .u8))] 1 1 (.own 0 0 0 (b ++ vput (v.length : Int)).length) (v.map (AV.int .u8)) = some (.own 0 u 0 ((b ++ vput (v.length : Int)) ++ v).length, [.arr 1 u (((b ++ vput (v.length : Int)) ++ v).map (AV.int .u8))]) := ap
    refine FunOwn.of0R [r196, r219] told198 (by simp [il198]) (by simp [idb_patchA]) (by first | exact encI64.xs_idb _ | exact encU8.xs_idb _ | exact encNode.xs_idb _) ?_
    simp -implicitDefEqProofs only [il198, List.zipIdx_cons, List.zipIdx_nil, leafA, innerA, nodeA, patchA, Leaf.cells, Inner.cells, Node.cells, r196_c, r196_ask, r219_c, r219_ask, decide_true, decide_false, hl', hl2, hv, ap', go_sem, Nat.reduceEqDiff, reduceIte, Nat.reduceAdd, Nat.reduceLeDiff, Nat.reduceLT, Nat.reduceSub]
    exact ⟨0, _, rfl, rfl⟩
noncomputable def r198 : Reg seat := .of told198 (ask2 (fun a0' a1' => isO a0' ∧ isO a1' ∧ (dO a0').length ≤ 4290000000) fun a0' a1' => .own 1 ((pbytes (dO a0') (dO a1')).map (AV.int .u8))) (ask2_ok fun a0' a1' h => SaidOk.own (FunOwn.weak (.cons (isO.weak h.1) (.cons (isO.weak h.2.1) .nil)) (putBytes_spec _ _ h.2.2)) (by first | exact encU8.xs_idb _ | exact encI64.xs_idb _ | exact encNode.xs_idb _))
theorem r198_c : r198.c = 198 := rfl
open Classical in
theorem r198_ask (a0' a1' : AV) : r198.ask [a0', a1'] = if isO a0' ∧ isO a1' ∧ (dO a0').length ≤ 4290000000 then some (Said.own 1 ((pbytes (dO a0') (dO a1')).map (AV.int .u8))) else none := by unfold r198 Reg.of ask2; exact ite_cl

theorem getBytes_spec (b : List Int) (hb : Oct b) : Fun seat 192 [octs b] (.tup [octs (gbytes b).1, octs (gbytes b).2.1, .int .i64 (gbytes b).2.2]) := by
  have h0 := vget_nat (bytes_of hb)
  have hlb := hb.1
  have hr := (vget_rest (b := b)).1
  simp only [Small] at hlb
  unfold gbytes
  rcases hv : vget b with ⟨n, r, e⟩
  rw [hv] at h0 hr
  simp only at h0 hr ⊢
  by_cases he : e = 0
  rotate_left
  · rw [if_pos he]
    refine Fun.of0R [r215] told192 (by simp [il192]) (by simp [idb_patchA]) (by simp [idb_patchA]) 4 ?_
    simp -implicitDefEqProofs only [il192, List.zipIdx_cons, List.zipIdx_nil, leafA, innerA, nodeA, patchA, Leaf.cells, Inner.cells, Node.cells, r215_c, r215_ask, decide_true, decide_false, hb, hv, he, go_sem, Nat.reduceEqDiff, reduceIte, Nat.reduceAdd, Nat.reduceLeDiff, Nat.reduceLT, Nat.reduceSub]
    try rfl
  rw [if_neg (not_not_intro he)]
  by_cases h1 : n > 1048576
  · rw [if_pos h1]
    refine Fun.of0R [r215] told192 (by simp [il192]) (by simp [idb_patchA]) (by simp [idb_patchA]) 4 ?_
    simp -implicitDefEqProofs only [il192, List.zipIdx_cons, List.zipIdx_nil, leafA, innerA, nodeA, patchA, Leaf.cells, Inner.cells, Node.cells, r215_c, r215_ask, decide_true, decide_false, hb, hv, he, h1, go_sem, Nat.reduceEqDiff, reduceIte, Nat.reduceAdd, Nat.reduceLeDiff, Nat.reduceLT, Nat.reduceSub]
    try rfl
  rw [if_neg h1]
  by_cases h2 : n > (r.length : Int)
  · rw [if_pos h2]
    refine Fun.of0R [r215] told192 (by simp [il192]) (by simp [idb_patchA]) (by simp [idb_patchA]) 4 ?_
    simp -implicitDefEqProofs only [il192, List.zipIdx_cons, List.zipIdx_nil, leafA, innerA, nodeA, patchA, Leaf.cells, Inner.cells, Node.cells, r215_c, r215_ask, decide_true, decide_false, hb, hv, he, h1, h2, go_sem, Nat.reduceEqDiff, reduceIte, Nat.reduceAdd, Nat.reduceLeDiff, Nat.reduceLT, Nat.reduceSub]
    try rfl
  rw [if_neg h2]
  have s1 := fun H => sliceTT_octs H r n h0 (by omega)
  have s2 := fun H => sliceF_octs H r n h0 (by omega)
  refine Fun.of0R [r215] told192 (by simp [il192]) (by simp [idb_patchA]) (by simp [idb_patchA]) 4 ?_
  simp -implicitDefEqProofs only [il192, List.zipIdx_cons, List.zipIdx_nil, leafA, innerA, nodeA, patchA, Leaf.cells, Inner.cells, Node.cells, r215_c, r215_ask, decide_true, decide_false, hb, hv, he, h1, h2, go_sem, Nat.reduceEqDiff, reduceIte, Nat.reduceAdd, Nat.reduceLeDiff, Nat.reduceLT, Nat.reduceSub]
  refine WP.drawQ [] [.l, .l, .l, .l, .l, .l, .l, .l, .l, .l] mixed (by decide) ?_
  simp -implicitDefEqProofs only [leafA, innerA, nodeA, patchA, Leaf.cells, Inner.cells, Node.cells, decide_true, decide_false, s1, s2, go_sem, Nat.reduceEqDiff, reduceIte, Nat.reduceAdd, Nat.reduceLeDiff, Nat.reduceLT, Nat.reduceSub]
  exact encU8.canon_tight [] 2 true _
noncomputable def r192 : Reg seat := .of told192 (ask1 (fun a0' => isO a0' ∧ Oct (dO a0')) fun a0' => .fn (.tup [octs (gbytes (dO a0')).1, octs (gbytes (dO a0')).2.1, .int .i64 (gbytes (dO a0')).2.2])) (ask1_ok fun a0' h => SaidOk.fn (Fun.weak (.cons (isO.weak h.1) .nil) (getBytes_spec _ h.2)))
theorem r192_c : r192.c = 192 := rfl
open Classical in
theorem r192_ask (a0' : AV) : r192.ask [a0'] = if isO a0' ∧ Oct (dO a0') then some (Said.fn (.tup [octs (gbytes (dO a0')).1, octs (gbytes (dO a0')).2.1, .int .i64 (gbytes (dO a0')).2.2])) else none := by unfold r192 Reg.of ask1; exact ite_cl
theorem weak_nilO : Weak (.list true []) (octs []) = True := eq_true (.list true [])
theorem clamp4 : (clampK 4).toNat = 4 := rfl
theorem putNumF_spec (b : List Int) (n k : Int) (hl : b.length ≤ 4294960000) : Fun seat 214 [octs b, .int .i64 n, .int .i64 k] (octs (b ++ beK (clampK k).toNat n)) := (putNum_spec b n k hl).val (encU8.xs_idb _)
noncomputable def r214f : Reg seat := .of told214 (ask3 (fun a0' a1' a2' => isO a0' ∧ isI a1' ∧ isI a2' ∧ (dO a0').length ≤ 4294960000) fun a0' a1' a2' => .fn (octs ((dO a0') ++ beK (clampK (dI a2')).toNat (dI a1')))) (ask3_ok fun a0' a1' a2' h => SaidOk.fn (Fun.weak (.cons (isO.weak h.1) (.cons (isI.weak h.2.1) (.cons (isI.weak h.2.2.1) .nil))) (putNumF_spec _ _ _ h.2.2.2)))
theorem r214f_c : r214f.c = 214 := rfl
open Classical in
theorem r214f_ask (a0' a1' a2' : AV) : r214f.ask [a0', a1', a2'] = if isO a0' ∧ isI a1' ∧ isI a2' ∧ (dO a0').length ≤ 4294960000 then some (Said.fn (octs ((dO a0') ++ beK (clampK (dI a2')).toNat (dI a1')))) else none := by unfold r214f Reg.of ask3; exact ite_cl
set_option maxHeartbeats 1000000 in
theorem putNums_spec (b l : List Int) (hl : b.length ≤ 4290000000) (hl2 : l.length ≤ 1000000000) : FunOwn seat 197 [octs b, ints l] 1 ((pnums b l).map (AV.int .u8)) := by
  unfold pnums
  refine FunOwn.of0R [r198] told197 (by simp [il197]) (by simp [idb_patchA]) (by first | exact encI64.xs_idb _ | exact encU8.xs_idb _ | exact encNode.xs_idb _) ?_
  simp -implicitDefEqProofs only [il197, List.zipIdx_cons, List.zipIdx_nil, leafA, innerA, nodeA, patchA, Leaf.cells, Inner.cells, Node.cells, r198_c, r198_ask, decide_true, decide_false, hl, go_sem, Nat.reduceEqDiff, reduceIte, Nat.reduceAdd, Nat.reduceLeDiff, Nat.reduceLT, Nat.reduceSub]
  refine WP.weakL [(0, octs b), (5, octs []), (8, ints l), (9, .int .i64 l.length), (10, .int .i64 0)] ?_ ?_
  · simp only [upd_envL, envL_cons, Nat.reduceEqDiff, reduceIte, List.mem_cons, List.not_mem_nil, or_false, forall_eq_or_imp, forall_eq, weak_refl, weak_nilO, and_self]
  refine WP.loop0 (fun k => k ≤ l.length) (fun k => [(0, octs b), (5, octs ((l.take k).flatMap be4)), (8, ints l), (9, .int .i64 l.length), (10, .int .i64 (k : Nat))]) (fun k => l.length - k) 0 (Nat.zero_le _) (fun i _ => by simp ) (by simp ) ?_
  intro k hk
  refine wpc_soundR [r214f] ?_
  by_cases hlt : (k : Int) < (l.length : Nat)
  · have hk' : k < l.length := by omega
    have hb4 : ((l.take k).flatMap be4).length ≤ 4294960000 := by rw [be4_len, List.length_take]; omega
    have ft := flat_take hk'
    rw [← beK_4] at ft
    simp -implicitDefEqProofs only [leafA, innerA, nodeA, patchA, Leaf.cells, Inner.cells, Node.cells, r214f_c, r214f_ask, decide_true, decide_false, hlt, hb4, clamp4, fun H => index_ints H l k hk', go_sem, Nat.reduceEqDiff, reduceIte, Nat.reduceAdd, Nat.reduceLeDiff, Nat.reduceLT, Nat.reduceSub]
    exact ⟨k + 1, by omega, by omega, by simp [wrapS (show k < 9223372036854775807 by omega), ft]⟩
  · have e : k = l.length := by omega
    subst e
    rw [List.take_length]
    simp -implicitDefEqProofs only [leafA, innerA, nodeA, patchA, Leaf.cells, Inner.cells, Node.cells, r198_c, r198_ask, decide_true, decide_false, hlt, hl, go_sem, Nat.reduceEqDiff, reduceIte, Nat.reduceAdd, Nat.reduceLeDiff, Nat.reduceLT, Nat.reduceSub]
    exact ⟨0, _, rfl, rfl⟩
end Go.Proofs.YtihhinbjhiankaaGreatDoor.Al

set_option linter.unusedSimpArgs false
set_option linter.unusedVariables false
namespace Go.Proofs.YtihhinbjhiankaaGreatDoor.Al
open Go
attribute [local go_sem] W_mv W_pick W_alloc W_box W_build W_bslice W_load W_store W_bin W_isnil W_un W_convI W_convS W_mkiface W_mkfunc W_slice W_faddr W_iaddr W_idxA W_extract W_len W_min W_max W_append W_appendZ W_clear W_invoke thenQ_normal thenQ_exit thenQ_goto thenQ_ret blockQ_normal blockQ_ret blockQ_goto blockQ_exit wpc_skip wpc_region wpc_draw wpc_seq wpc_cond wpc_block wpc_exit wpc_goto wpc_label wpc_ret wpc_loop wpc_range wpc_scope condW_true condW_false condW_dec condW_any W_nil W_call resW_some evalOp Opd.ev updo_envL updo_none setL_cons setL_nil envL_cons Option.map_some Option.bind_some evBin evInt List.map_cons List.map_nil Option.pure_def Option.bind_eq_bind W_grd' grdW_tt grdW_ff grdW_tf grdW_ft grdW_tup grdW_dt grdW_df lgrdW_tup L_mv L_load L_bin L_un L_faddr L_iaddr L_nil L_call lresW_some upd_envL evUn beq_dec bne_dec leaves_ret1 leaves_ret0 leaves_end0 rowLen_ints load_iptr0 not_dec heap_get0 heap_get1 heap_set0 heap_set1 heap_len1 heap_app bslice1_int seen_ints seen_one0 bslice0_int Nat.sub_zero Bool.not_true Bool.not_false List.length_nil List.length_cons List.nil_append List.cons_append Nat.zero_add load_iptrA canon_ptrI canon_bool canon_tup canon_agg canon_ints' canon_ints0 rowLen_ints1 rowLen_octs seen_octs canon_octs' seen_intss seen_octss rowLen_nodes seen_nodes canon_nodes' rowLen_nodes3 seen_list cells_int oneIn_int cells_bool oneIn_bool cells_str oneIn_str cells_list oneIn_list cells_func oneIn_func cells_nilfunc oneIn_nilfunc cells_iptr oneIn_iptr cells_iface oneIn_iface cells_nilIface oneIn_nilIface cells_own cells_ptr cells_anybool oneIn_anybool cells_agg oneIn_own0 oneIn_own1 seenL1 seenM1 oneIn_ptr2 seenL2 oneIn_own3 seenL3 cells_ints oneIn_ints cells_octs oneIn_octs cells_intss oneIn_intss cells_octss oneIn_octss cells_nodes oneIn_nodes ldB0 ldA0 adB0 stB0 ldB1 ldA1 adB1 stB1 ldB2 ldA2 adB2 stB2 ldB3 ldA3 adB3 stB3 ldB4 ldA4 adB4 stB4 ldB5 ldA5 adB5 stB5 List.getElem?_cons_zero List.getElem?_cons_succ beq_self_eq_true splice List.take_zero List.take_succ_cons List.drop_zero List.drop_succ_cons List.append_nil List.set_cons_zero List.set_cons_succ List.all_cons List.all_nil Bool.and_self and_self and_true true_and Nat.lt_irrefl Nat.zero_lt_one Nat.le_refl fillA evNil notA Bool.false_eq_true evMin_int evMax_int Option.map_none freezeP_all_nil freezeP_all_cons frzE_box frzE_arr frzE_dead foldA List.foldlM_cons List.foldlM_nil callW_f lcallW_f ansW_fn ansW_own lansW_fn lansW_own ansW_none lansW_none tab_cons tab_nil dI_int dB_bool dO_octs dO_ints dO_list dO_nil dOs_nil dN_nodeA dLf_agg dIn_agg dN_agg dNs_nodes dNs_nil isI_int isB_bool isO_octs isO_nil isO_list isS_ints isS_nil isNs_nodes isNs_nil isN_nodeA isLf_agg isIn_agg isN_agg leaf_eta inner_eta node_eta leaf_zero inner_zero node_zero dP_agg isP_agg patch_eta decide_eq_true_eq decide_eq_false_iff_not eq_self forall_const true_implies false_implies Bool.not_eq_true' Bool.not_eq_false' Bool.true_eq_false implies_true ne_eq ldI ldIA adI AV.tup.injEq AV.agg.injEq List.cons.injEq AV.int.injEq AV.bool.injEq nodes_inj octs_inj ints_inj nil_nodes nil_octs nil_ints canon_nilL decide_eq_decide two_ne four_ne lendA_fn lendA_own lendA_none llendA_fn llendA_none false_and and_false Q_nil Q_l Q_g Q_h Q_grd qgrdW_b qgrdW_tup lightD_some heavyD_some readD_some fnD_some fnD_own fnD_none callL_f ownH_some litD_some litE_some Q_call Q_bslice H_call pendOk_nil pendOk_cons pastOk_nil pastOk_cons Q_mv Q_pick Q_bin Q_un Q_convI Q_mkfunc Q_extract Q_min Q_max Q_lenS Q_lenA Q_field Q_idxA Q_mkiface Q_tassert Q_alloc Q_box Q_store Q_mkslice Q_append Q_appendZ Q_copy Q_clear Q_build Q_load Q_nilck Q_isnil Q_convS Q_slice Q_faddr Q_iaddr Q_iaddrA Q_len H_alloc H_box H_bslice H_store H_mkslice H_append H_appendZ H_copy H_clear free_mv free_pick free_bin free_un free_convI free_mkfunc free_extract free_min free_max free_lenS free_lenA free_field free_idxA free_mkiface free_tassert free_build free_load free_nilck free_isnil free_convS free_slice free_faddr free_iaddr free_iaddrA free_len callW_y List.length_map List.length_set leaves_r evR_some evRess1 evRess2 evRess3 evRes_t evRes_c nz_kind nz_enc nz_cred nz_source nz_parent nz_ienc nz_hash nz_un true_or or_true bsl_node appI appO ixo_nodes canon_rowI canon_rowO not_false_eq_true not_true_eq_false ldE_a ldE_c adE_b stE_b onE_a onP_b bsl_zero
attribute [local go_sem low] condW_b grdW_b lgrdW_b ldP adP stP onO onPt
attribute [local simp] envL_cons envL_nil idb_int idb_bool idb_ints idb_nil idb_own idb_ptr idb_octs idb_nodes idb_leafA idb_innerA idb_nodeA idb_agg idb_tup idb_iptr idb_fn entB_dead entB_box
theorem chunk_spec (v : List Int) (n : Int) (hn : n = 4) : Fun seat 216 [octs v, .int .i64 n] (.func (.f 233) [] [.iptr [octs v] 0, .iptr [.int .i64 n] 0]) := by
  subst hn
  refine Fun.of0W told216 (by simp [il216]) (by simp ) (by simp ) 0 ?_
  simp only [il216, List.zipIdx_cons, List.zipIdx_nil, Nat.zero_add, List.map_cons, List.map_nil]
  refine WP.seqR [] fun K hK => ?_
  simp -implicitDefEqProofs only [leafA, innerA, nodeA, patchA, Leaf.cells, Inner.cells, Node.cells, decide_true, decide_false, go_sem, Nat.reduceEqDiff, reduceIte, Nat.reduceAdd, Nat.reduceLeDiff, Nat.reduceLT, Nat.reduceSub]
  refine hK _ (WP.sealB 2 0 rfl rfl (WP.sealB 3 1 rfl rfl ?_))
  clear hK K
  refine wpc_soundR [] ?_
  simp -implicitDefEqProofs only [leafA, innerA, nodeA, patchA, Leaf.cells, Inner.cells, Node.cells, decide_true, decide_false, Int.reduceLT, go_sem, Nat.reduceEqDiff, reduceIte, Nat.reduceAdd, Nat.reduceLeDiff, Nat.reduceLT, Nat.reduceSub]
  rfl
noncomputable def r216 : Reg seat := .of told216 (ask2 (fun a0' a1' => isO a0' ∧ isI a1' ∧ (dI a1') = 4) fun a0' a1' => .fn (.func (.f 233) [] [.iptr [octs (dO a0')] 0, .iptr [.int .i64 (dI a1')] 0])) (ask2_ok fun a0' a1' h => SaidOk.fn (Fun.weak (.cons (isO.weak h.1) (.cons (isI.weak h.2.1) .nil)) (chunk_spec _ _ h.2.2)))
theorem r216_c : r216.c = 216 := rfl
open Classical in
theorem r216_ask (a0' a1' : AV) : r216.ask [a0', a1'] = if isO a0' ∧ isI a1' ∧ (dI a1') = 4 then some (Said.fn (.func (.f 233) [] [.iptr [octs (dO a0')] 0, .iptr [.int .i64 (dI a1')] 0])) else none := by unfold r216 Reg.of ask2; exact ite_cl

theorem Enc.sliceFTT {α : Type} (E : Enc α) (H : List Entry) (l : List α) (a b : Int) (h0 : 0 ≤ a) (h1 : a ≤ b) (h : b.toNat ≤ l.length) : evSlice H E.sz (E.row l) (some (.int .i64 a)) (some (.int .i64 b)) (some (.int .i64 b)) = some (.list true (((l.take b.toNat).drop a.toNat).map E.f)) := by
  have hb : 0 ≤ b := by omega
  have hab : a.toNat ≤ b.toNat := by omega
  simp [Enc.row, evSlice, evBound, h0, h, hb, hab, E.lenOk, List.map_take, List.map_drop]
/-- The four octets of each number. -/
def fours (v : List Int) (k : Nat) : List Int := (v.drop (4 * k)).take 4
theorem fours_len {v : List Int} {k : Nat} (h : 4 * (k + 1) ≤ v.length) : (fours v k).length = 4 := by unfold fours; rw [List.length_take, List.length_drop]; omega
def chunks (v : List Int) : List AV := (List.range (v.length / 4)).map fun k => .list true ((fours v k).map (AV.int .u8))
theorem chunks_len (v : List Int) : (chunks v).length = v.length / 4 := by simp [chunks]
theorem chunks_at (v : List Int) (k : Nat) (h : k < (chunks v).length) : (chunks v)[k] = .list true ((fours v k).map (AV.int .u8)) := by simp [chunks]

theorem chunkIter (v : List Int) (hl : v.length ≤ 140737488355328) (h4 : v.length % 4 = 0) : Gives seat 233 [.iptr [octs v] 0, .iptr [.int .i64 4] 0] (chunks v) := by
  intro id H0 J Jx h0 hround
  rw [chunks_len] at *
  refine ACall.of_wp told233 (by simp [il233]) (wpc_sound ?_)
  rw [start_env]
  simp only [il233, List.zipIdx_cons, List.zipIdx_nil, Nat.zero_add, List.cons_append, List.nil_append, go_sem, Nat.reduceEqDiff, reduceIte, Nat.reduceAdd, Nat.reduceLeDiff, Nat.reduceLT, Nat.reduceSub]
  refine WP.loopJ (fun k : Nat => [(0, .func (.y id) [] []), (1, .iptr [octs v] 0), (2, .iptr [.int .i64 4] 0), (4, .int .i64 ((4 * k : Nat) : Int))]) (fun k H => k ≤ v.length / 4 ∧ J k H) (fun k => v.length / 4 - k) 0 (by simp ) ⟨Nat.zero_le _, h0⟩ ?_
  rintro k H ⟨hk, hj⟩
  refine wpc_soundR [] ?_
  by_cases hlt : ((4 * k : Nat) : Int) < (v.length : Nat)
  · have hk' : k < v.length / 4 := by omega
    have hr := hround k (by rw [chunks_len]; exact hk') H hj
    rw [chunks_at _ _ (by rw [chunks_len]; exact hk')] at hr
    have s1 : ∀ H, evSlice H 1 (octs v) (some (.int .i64 ((4 * k : Nat) : Int))) none none = some (octs (v.drop (4 * k))) := fun H => by
      have := sliceF_octs H v ((4 * k : Nat) : Int) (by omega) (by simp; omega)
      rwa [Int.toNat_natCast] at this
    have l1 : ((v.drop (4 * k)).length : Int) ≥ 4 := by rw [List.length_drop]; omega
    have l2 : ¬ ((v.drop (4 * k)).length : Int) < 4 := by omega
    have w1 : IntKind.i64.wrap (((4 * k : Nat) : Int) + 4) = ((4 * (k + 1) : Nat) : Int) := by rw [wrap64 _ (by omega) (by omega)]; omega
    have s2 : ∀ H, evSlice H 1 (octs v) (some (.int .i64 ((4 * k : Nat) : Int))) (some (.int .i64 ((4 * (k + 1) : Nat) : Int))) (some (.int .i64 ((4 * (k + 1) : Nat) : Int))) = some (.list true ((fours v k).map (AV.int .u8))) := fun H => by
      have := encU8.sliceFTT H v ((4 * k : Nat) : Int) ((4 * (k + 1) : Nat) : Int) (by omega) (by omega) (by omega)
      rw [Int.toNat_natCast, Int.toNat_natCast, List.drop_take, show 4 * (k + 1) - 4 * k = 4 by omega] at this
      exact this
    simp -implicitDefEqProofs only [leafA, innerA, nodeA, patchA, Leaf.cells, Inner.cells, Node.cells, decide_true, decide_false, hlt, go_sem, Nat.reduceEqDiff, reduceIte, Nat.reduceAdd, Nat.reduceLeDiff, Nat.reduceLT, Nat.reduceSub]
    refine WP.drawQ [] [.l, .l, .l, .l, .l, .l, .l] mixed (by decide) ?_
    simp -implicitDefEqProofs only [leafA, innerA, nodeA, patchA, Leaf.cells, Inner.cells, Node.cells, decide_true, decide_false, s1, l2, w1, s2, go_sem, Nat.reduceEqDiff, reduceIte, Nat.reduceAdd, Nat.reduceLeDiff, Nat.reduceLT, Nat.reduceSub]
    refine Callee.yld hr ?_
    rintro r H' (⟨rfl, hj'⟩ | ⟨rfl, hx⟩)
    · simp -implicitDefEqProofs only [leafA, innerA, nodeA, patchA, Leaf.cells, Inner.cells, Node.cells, decide_true, decide_false, w1, go_sem, Nat.reduceEqDiff, reduceIte, Nat.reduceAdd, Nat.reduceLeDiff, Nat.reduceLT, Nat.reduceSub]
      exact ⟨k + 1, ⟨by omega, hj'⟩, by omega, by simp ⟩
    · simp -implicitDefEqProofs only [leafA, innerA, nodeA, patchA, Leaf.cells, Inner.cells, Node.cells, decide_true, decide_false, w1, go_sem, Nat.reduceEqDiff, reduceIte, Nat.reduceAdd, Nat.reduceLeDiff, Nat.reduceLT, Nat.reduceSub]
      exact .inr hx
  · have e : k = v.length / 4 := by omega
    subst e
    simp -implicitDefEqProofs only [leafA, innerA, nodeA, patchA, Leaf.cells, Inner.cells, Node.cells, decide_true, decide_false, hlt, go_sem, Nat.reduceEqDiff, reduceIte, Nat.reduceAdd, Nat.reduceLeDiff, Nat.reduceLT, Nat.reduceSub]
    exact .inl hj

theorem chunkIterL (v : List Int) (hl : v.length ≤ 140737488355328) (h4 : v.length % 4 = 0) : GivesL seat 233 [.iptr [octs v] 0, .iptr [.int .i64 4] 0] ((chunks v).map fun x => [x]) := .of (chunkIter v hl h4)
theorem gnum_fours {v : List Int} {k : Nat} (h : 4 * (k + 1) ≤ v.length) : gnum 4 (fours v k) = (num (fours v k), [], 0) := by
  have := fours_len h
  unfold gnum
  rw [if_neg (by omega), List.take_of_length_le (by omega), List.drop_eq_nil_of_le (by omega)]
theorem fours_oct {v : List Int} (h : Oct v) (k : Nat) : Oct (fours v k) := by
  have := h.1
  simp only [Small] at this
  refine ⟨?_, fun x hx => h.2 x (List.mem_of_mem_drop (List.mem_of_mem_take hx))⟩
  simp only [Small, fours, List.length_take, List.length_drop]; omega
theorem seen_end (e1 e2 : Entry) (T : List Entry) (x : AV) : seen (e1 :: e2 :: (T ++ [.arr 1 0 [x]])) (.own (T.length + 1 + 1) 0 0 1) = some [x] := by simp [seen]

set_option maxHeartbeats 2000000 in
theorem getNums_spec (b : List Int) (hb : Oct b) (hl : b.length ≤ 4294967295) : Fun seat 193 [octs b] (.tup [ints (gnums b).1, octs (gnums b).2.1, .int .i64 (gnums b).2.2]) := by
  have ho := gbytes_oct hb
  have hsub := (gbytes_sub b).1.1
  unfold gnums
  rcases hv : gbytes b with ⟨v, r, e⟩
  rw [hv] at ho hsub
  simp only at ho hsub ⊢
  by_cases he : e = 0
  rotate_left
  · rw [if_pos he]
    refine Fun.of0R [r192, r216] told193 (by simp [il193]) (by simp [idb_patchA]) (by simp [idb_patchA]) 4 ?_
    simp -implicitDefEqProofs only [il193, List.zipIdx_cons, List.zipIdx_nil, leafA, innerA, nodeA, patchA, Leaf.cells, Inner.cells, Node.cells, r192_c, r192_ask, r216_c, r216_ask, decide_true, decide_false, hb, hv, he, go_sem, Nat.reduceEqDiff, reduceIte, Nat.reduceAdd, Nat.reduceLeDiff, Nat.reduceLT, Nat.reduceSub]
    try rfl
  rw [if_neg (not_not_intro he)]
  have rm : ((v.length : Int)).tmod 4 = ((v.length % 4 : Nat) : Int) := by rw [Int.tmod_eq_emod_of_nonneg (by omega)]; omega
  by_cases h4 : v.length % 4 = 0
  rotate_left
  · rw [if_pos h4]
    have h4' : ¬ ((v.length % 4 : Nat) : Int) = 0 := by omega
    refine Fun.of0R [r192, r216] told193 (by simp [il193]) (by simp [idb_patchA]) (by simp [idb_patchA]) 4 ?_
    simp -implicitDefEqProofs only [il193, List.zipIdx_cons, List.zipIdx_nil, leafA, innerA, nodeA, patchA, Leaf.cells, Inner.cells, Node.cells, r192_c, r192_ask, r216_c, r216_ask, decide_true, decide_false, hb, hv, he, rm, h4', Int.reduceEq, go_sem, Nat.reduceEqDiff, reduceIte, Nat.reduceAdd, Nat.reduceLeDiff, Nat.reduceLT, Nat.reduceSub]
    try rfl
  rw [if_neg (not_not_intro h4)]
  have h4' : ((v.length % 4 : Nat) : Int) = 0 := by omega
  refine Fun.of0R [r192, r216] told193 (by simp [il193]) (by simp [idb_patchA]) (by simp [idb_patchA]) 4 ?_
  simp -implicitDefEqProofs only [il193, List.zipIdx_cons, List.zipIdx_nil, leafA, innerA, nodeA, patchA, Leaf.cells, Inner.cells, Node.cells, r192_c, r192_ask, r216_c, r216_ask, decide_true, decide_false, hb, hv, he, rm, h4', Int.reduceEq, go_sem, Nat.reduceEqDiff, reduceIte, Nat.reduceAdd, Nat.reduceLeDiff, Nat.reduceLT, Nat.reduceSub]
  refine WP.adoptB 0 0 1 rfl rfl ?_
  have nl := fun k => num4_len (v.take (4 * k)) (by rw [List.length_take]; omega)
  refine WP.rangeL (c := 233) (cap := [.iptr [octs v] 0, .iptr [.int .i64 4] 0]) ((chunks v).map fun x => [x]) (by simp only [go_sem, Nat.reduceEqDiff, reduceIte, Nat.reduceAdd, Nat.reduceLeDiff, Nat.reduceLT, Nat.reduceSub]) (Callable.of told233) (chunkIterL v (by omega) h4) (fun x hx => by obtain ⟨k, _, rfl⟩ := List.mem_map.1 hx; rfl)
    (fun k => [.box [.own 1 k 0 (num4 (v.take (4 * k))).length], .arr 1 k ((num4 (v.take (4 * k))).map (AV.int .i64))]) (fun _ => True) (fun _ => rfl) trivial rfl ?_ ?_
  · intro k hk hp l T b' hb'
    have hk' : k < v.length / 4 := by simpa [chunks] using hk
    have h4k : 4 * (k + 1) ≤ v.length := by omega
    rw [List.getElem_map, chunks_at]
    have gn := gnum_fours h4k
    have fo := fours_oct ho.1 k
    have n4 := num4_step h4k
    rw [show (v.drop (4 * k)).take 4 = fours v k from rfl] at n4
    have hbd : (num4 (v.take (4 * k))).length + 1 ≤ maxRow := by rw [nl, List.length_take]; unfold maxRow; omega
    refine wpc_sound ?_
    simp only [setPs, go_sem, Nat.reduceEqDiff, reduceIte, Nat.reduceAdd, Nat.reduceLeDiff, Nat.reduceLT, Nat.reduceSub]
    refine ⟨[], (List.append_nil _).symm, fun T' hT' => wpc_soundR [r212] ?_⟩
    simp -implicitDefEqProofs only [leafA, innerA, nodeA, patchA, Leaf.cells, Inner.cells, Node.cells, r212_c, r212_ask, decide_true, decide_false, fo, clamp4, gn, List.append_nil, List.cons_append, List.nil_append, seen_end, hbd, go_sem, Nat.reduceEqDiff, reduceIte, Nat.reduceAdd, Nat.reduceLeDiff, Nat.reduceLT, Nat.reduceSub]
    refine ⟨[_, _], _, rfl, rfl, fun i hi => List.getElem?_append_left hi, trivial, ?_⟩
    simp only [n4]
  · intro hp T
    rw [List.length_map, chunks_len, show 4 * (v.length / 4) = v.length by omega, List.take_length]
    simp only [go_sem, Nat.reduceEqDiff, reduceIte, Nat.reduceAdd, Nat.reduceLeDiff, Nat.reduceLT, Nat.reduceSub]
noncomputable def r193 : Reg seat := .of told193 (ask1 (fun a0' => isO a0' ∧ Oct (dO a0') ∧ (dO a0').length ≤ 4294967295) fun a0' => .fn (.tup [ints (gnums (dO a0')).1, octs (gnums (dO a0')).2.1, .int .i64 (gnums (dO a0')).2.2])) (ask1_ok fun a0' h => SaidOk.fn (Fun.weak (.cons (isO.weak h.1) .nil) (getNums_spec _ h.2.1 h.2.2)))
theorem r193_c : r193.c = 193 := rfl
open Classical in
theorem r193_ask (a0' : AV) : r193.ask [a0'] = if isO a0' ∧ Oct (dO a0') ∧ (dO a0').length ≤ 4294967295 then some (Said.fn (.tup [ints (gnums (dO a0')).1, octs (gnums (dO a0')).2.1, .int .i64 (gnums (dO a0')).2.2])) else none := by unfold r193 Reg.of ask1; exact ite_cl

end Go.Proofs.YtihhinbjhiankaaGreatDoor.Al

set_option linter.unusedSimpArgs false
set_option linter.unusedVariables false
namespace Go.Proofs.YtihhinbjhiankaaGreatDoor.Al
open Go
attribute [local go_sem] W_mv W_pick W_alloc W_box W_build W_bslice W_load W_store W_bin W_isnil W_un W_convI W_convS W_mkiface W_mkfunc W_slice W_faddr W_iaddr W_idxA W_extract W_len W_min W_max W_append W_appendZ W_clear W_invoke thenQ_normal thenQ_exit thenQ_goto thenQ_ret blockQ_normal blockQ_ret blockQ_goto blockQ_exit wpc_skip wpc_region wpc_draw wpc_seq wpc_cond wpc_block wpc_exit wpc_goto wpc_label wpc_ret wpc_loop wpc_range wpc_scope condW_true condW_false condW_dec condW_any W_nil W_call resW_some evalOp Opd.ev updo_envL updo_none setL_cons setL_nil envL_cons Option.map_some Option.bind_some evBin evInt List.map_cons List.map_nil Option.pure_def Option.bind_eq_bind W_grd' grdW_tt grdW_ff grdW_tf grdW_ft grdW_tup grdW_dt grdW_df lgrdW_tup L_mv L_load L_bin L_un L_faddr L_iaddr L_nil L_call lresW_some upd_envL evUn beq_dec bne_dec leaves_ret1 leaves_ret0 leaves_end0 rowLen_ints load_iptr0 not_dec heap_get0 heap_get1 heap_set0 heap_set1 heap_len1 heap_app bslice1_int seen_ints seen_one0 bslice0_int Nat.sub_zero Bool.not_true Bool.not_false List.length_nil List.length_cons List.nil_append List.cons_append Nat.zero_add load_iptrA canon_ptrI canon_bool canon_tup canon_agg canon_ints' canon_ints0 rowLen_ints1 rowLen_octs seen_octs canon_octs' seen_intss seen_octss rowLen_nodes seen_nodes canon_nodes' rowLen_nodes3 seen_list cells_int oneIn_int cells_bool oneIn_bool cells_str oneIn_str cells_list oneIn_list cells_func oneIn_func cells_nilfunc oneIn_nilfunc cells_iptr oneIn_iptr cells_iface oneIn_iface cells_nilIface oneIn_nilIface cells_own cells_ptr cells_anybool oneIn_anybool cells_agg oneIn_own0 oneIn_own1 seenL1 seenM1 oneIn_ptr2 seenL2 oneIn_own3 seenL3 cells_ints oneIn_ints cells_octs oneIn_octs cells_intss oneIn_intss cells_octss oneIn_octss cells_nodes oneIn_nodes ldB0 ldA0 adB0 stB0 ldB1 ldA1 adB1 stB1 ldB2 ldA2 adB2 stB2 ldB3 ldA3 adB3 stB3 ldB4 ldA4 adB4 stB4 ldB5 ldA5 adB5 stB5 List.getElem?_cons_zero List.getElem?_cons_succ beq_self_eq_true splice List.take_zero List.take_succ_cons List.drop_zero List.drop_succ_cons List.append_nil List.set_cons_zero List.set_cons_succ List.all_cons List.all_nil Bool.and_self and_self and_true true_and Nat.lt_irrefl Nat.zero_lt_one Nat.le_refl fillA evNil notA Bool.false_eq_true evMin_int evMax_int Option.map_none freezeP_all_nil freezeP_all_cons frzE_box frzE_arr frzE_dead foldA List.foldlM_cons List.foldlM_nil callW_f lcallW_f ansW_fn ansW_own lansW_fn lansW_own ansW_none lansW_none tab_cons tab_nil dI_int dB_bool dO_octs dO_ints dO_list dO_nil dOs_nil dN_nodeA dLf_agg dIn_agg dN_agg dNs_nodes dNs_nil isI_int isB_bool isO_octs isO_nil isO_list isS_ints isS_nil isNs_nodes isNs_nil isN_nodeA isLf_agg isIn_agg isN_agg leaf_eta inner_eta node_eta leaf_zero inner_zero node_zero dP_agg isP_agg patch_eta decide_eq_true_eq decide_eq_false_iff_not eq_self forall_const true_implies false_implies Bool.not_eq_true' Bool.not_eq_false' Bool.true_eq_false implies_true ne_eq ldI ldIA adI AV.tup.injEq AV.agg.injEq List.cons.injEq AV.int.injEq AV.bool.injEq nodes_inj octs_inj ints_inj nil_nodes nil_octs nil_ints canon_nilL decide_eq_decide two_ne four_ne lendA_fn lendA_own lendA_none llendA_fn llendA_none false_and and_false Q_nil Q_l Q_g Q_h Q_grd qgrdW_b qgrdW_tup lightD_some heavyD_some readD_some fnD_some fnD_own fnD_none callL_f ownH_some litD_some litE_some Q_call Q_bslice H_call pendOk_nil pendOk_cons pastOk_nil pastOk_cons Q_mv Q_pick Q_bin Q_un Q_convI Q_mkfunc Q_extract Q_min Q_max Q_lenS Q_lenA Q_field Q_idxA Q_mkiface Q_tassert Q_alloc Q_box Q_store Q_mkslice Q_append Q_appendZ Q_copy Q_clear Q_build Q_load Q_nilck Q_isnil Q_convS Q_slice Q_faddr Q_iaddr Q_iaddrA Q_len H_alloc H_box H_bslice H_store H_mkslice H_append H_appendZ H_copy H_clear free_mv free_pick free_bin free_un free_convI free_mkfunc free_extract free_min free_max free_lenS free_lenA free_field free_idxA free_mkiface free_tassert free_build free_load free_nilck free_isnil free_convS free_slice free_faddr free_iaddr free_iaddrA free_len callW_y List.length_map List.length_set leaves_r evR_some evRess1 evRess2 evRess3 evRes_t evRes_c nz_kind nz_enc nz_cred nz_source nz_parent nz_ienc nz_hash nz_un true_or or_true bsl_node appI appO ixo_nodes canon_rowI canon_rowO not_false_eq_true not_true_eq_false ldE_a ldE_c adE_b stE_b onE_a onP_b bsl_zero
attribute [local go_sem low] condW_b grdW_b lgrdW_b ldP adP stP onO onPt
attribute [local simp] envL_cons envL_nil idb_int idb_bool idb_ints idb_nil idb_own idb_ptr idb_octs idb_nodes idb_leafA idb_innerA idb_nodeA idb_agg idb_tup idb_iptr idb_fn entB_dead entB_box
end Go.Proofs.YtihhinbjhiankaaGreatDoor.Al

set_option linter.unusedSimpArgs false
set_option linter.unusedVariables false
namespace Go.Proofs.YtihhinbjhiankaaGreatDoor.Al
open Go
attribute [local go_sem] W_mv W_pick W_alloc W_box W_build W_bslice W_load W_store W_bin W_isnil W_un W_convI W_convS W_mkiface W_mkfunc W_slice W_faddr W_iaddr W_idxA W_extract W_len W_min W_max W_append W_appendZ W_clear W_invoke thenQ_normal thenQ_exit thenQ_goto thenQ_ret blockQ_normal blockQ_ret blockQ_goto blockQ_exit wpc_skip wpc_region wpc_draw wpc_seq wpc_cond wpc_block wpc_exit wpc_goto wpc_label wpc_ret wpc_loop wpc_range wpc_scope condW_true condW_false condW_dec condW_any W_nil W_call resW_some evalOp Opd.ev updo_envL updo_none setL_cons setL_nil envL_cons Option.map_some Option.bind_some evBin evInt List.map_cons List.map_nil Option.pure_def Option.bind_eq_bind W_grd' grdW_tt grdW_ff grdW_tf grdW_ft grdW_tup grdW_dt grdW_df lgrdW_tup L_mv L_load L_bin L_un L_faddr L_iaddr L_nil L_call lresW_some upd_envL evUn beq_dec bne_dec leaves_ret1 leaves_ret0 leaves_end0 rowLen_ints load_iptr0 not_dec heap_get0 heap_get1 heap_set0 heap_set1 heap_len1 heap_app bslice1_int seen_ints seen_one0 bslice0_int Nat.sub_zero Bool.not_true Bool.not_false List.length_nil List.length_cons List.nil_append List.cons_append Nat.zero_add load_iptrA canon_ptrI canon_bool canon_tup canon_agg canon_ints' canon_ints0 rowLen_ints1 rowLen_octs seen_octs canon_octs' seen_intss seen_octss rowLen_nodes seen_nodes canon_nodes' rowLen_nodes3 seen_list cells_int oneIn_int cells_bool oneIn_bool cells_str oneIn_str cells_list oneIn_list cells_func oneIn_func cells_nilfunc oneIn_nilfunc cells_iptr oneIn_iptr cells_iface oneIn_iface cells_nilIface oneIn_nilIface cells_own cells_ptr cells_anybool oneIn_anybool cells_agg oneIn_own0 oneIn_own1 seenL1 seenM1 oneIn_ptr2 seenL2 oneIn_own3 seenL3 cells_ints oneIn_ints cells_octs oneIn_octs cells_intss oneIn_intss cells_octss oneIn_octss cells_nodes oneIn_nodes ldB0 ldA0 adB0 stB0 ldB1 ldA1 adB1 stB1 ldB2 ldA2 adB2 stB2 ldB3 ldA3 adB3 stB3 ldB4 ldA4 adB4 stB4 ldB5 ldA5 adB5 stB5 List.getElem?_cons_zero List.getElem?_cons_succ beq_self_eq_true splice List.take_zero List.take_succ_cons List.drop_zero List.drop_succ_cons List.append_nil List.set_cons_zero List.set_cons_succ List.all_cons List.all_nil Bool.and_self and_self and_true true_and Nat.lt_irrefl Nat.zero_lt_one Nat.le_refl fillA evNil notA Bool.false_eq_true evMin_int evMax_int Option.map_none freezeP_all_nil freezeP_all_cons frzE_box frzE_arr frzE_dead foldA List.foldlM_cons List.foldlM_nil callW_f lcallW_f ansW_fn ansW_own lansW_fn lansW_own ansW_none lansW_none tab_cons tab_nil dI_int dB_bool dO_octs dO_ints dO_list dO_nil dOs_nil dN_nodeA dLf_agg dIn_agg dN_agg dNs_nodes dNs_nil isI_int isB_bool isO_octs isO_nil isO_list isS_ints isS_nil isNs_nodes isNs_nil isN_nodeA isLf_agg isIn_agg isN_agg leaf_eta inner_eta node_eta leaf_zero inner_zero node_zero dP_agg isP_agg patch_eta decide_eq_true_eq decide_eq_false_iff_not eq_self forall_const true_implies false_implies Bool.not_eq_true' Bool.not_eq_false' Bool.true_eq_false implies_true ne_eq ldI ldIA adI AV.tup.injEq AV.agg.injEq List.cons.injEq AV.int.injEq AV.bool.injEq nodes_inj octs_inj ints_inj nil_nodes nil_octs nil_ints canon_nilL decide_eq_decide two_ne four_ne lendA_fn lendA_own lendA_none llendA_fn llendA_none false_and and_false Q_nil Q_l Q_g Q_h Q_grd qgrdW_b qgrdW_tup lightD_some heavyD_some readD_some fnD_some fnD_own fnD_none callL_f ownH_some litD_some litE_some Q_call Q_bslice H_call pendOk_nil pendOk_cons pastOk_nil pastOk_cons Q_mv Q_pick Q_bin Q_un Q_convI Q_mkfunc Q_extract Q_min Q_max Q_lenS Q_lenA Q_field Q_idxA Q_mkiface Q_tassert Q_alloc Q_box Q_store Q_mkslice Q_append Q_appendZ Q_copy Q_clear Q_build Q_load Q_nilck Q_isnil Q_convS Q_slice Q_faddr Q_iaddr Q_iaddrA Q_len H_alloc H_box H_bslice H_store H_mkslice H_append H_appendZ H_copy H_clear free_mv free_pick free_bin free_un free_convI free_mkfunc free_extract free_min free_max free_lenS free_lenA free_field free_idxA free_mkiface free_tassert free_build free_load free_nilck free_isnil free_convS free_slice free_faddr free_iaddr free_iaddrA free_len callW_y List.length_map List.length_set leaves_r evR_some evRess1 evRess2 evRess3 evRes_t evRes_c nz_kind nz_enc nz_cred nz_source nz_parent nz_ienc nz_hash nz_un true_or or_true bsl_node appI appO ixo_nodes canon_rowI canon_rowO not_false_eq_true not_true_eq_false ldE_a ldE_c adE_b stE_b onE_a onP_b bsl_zero
attribute [local go_sem low] condW_b grdW_b lgrdW_b ldP adP stP onO onPt
attribute [local simp] envL_cons envL_nil idb_int idb_bool idb_ints idb_nil idb_own idb_ptr idb_octs idb_nodes idb_leafA idb_innerA idb_nodeA idb_agg idb_tup idb_iptr idb_fn entB_dead entB_box
theorem pbytes_len (b v : List Int) : (pbytes b v).length ≤ b.length + 1048580 := by
  unfold pbytes
  split
  · omega
  · have hp := vput_len (n := (v.length : Int)) (by omega) (by omega)
    have hs := vsize_le (v.length : Int)
    simp only [List.length_append]; omega
theorem innerCheck_64 {n : Inner} (h : innerCheck n = 0) : n.unmerged.length ≤ 1000000000 := by have := (innerCheck_zero h).2.2.1; omega
theorem putBytesF_spec (b v : List Int) (hl : b.length ≤ 4290000000) : Fun seat 198 [octs b, octs v] (octs (pbytes b v)) := (putBytes_spec b v hl).val (encU8.xs_idb _)
noncomputable def r198f : Reg seat := .of told198 (ask2 (fun a0' a1' => isO a0' ∧ isO a1' ∧ (dO a0').length ≤ 4290000000) fun a0' a1' => .fn (octs (pbytes (dO a0') (dO a1')))) (ask2_ok fun a0' a1' h => SaidOk.fn (Fun.weak (.cons (isO.weak h.1) (.cons (isO.weak h.2.1) .nil)) (putBytesF_spec _ _ h.2.2)))
theorem r198f_c : r198f.c = 198 := rfl
open Classical in
theorem r198f_ask (a0' a1' : AV) : r198f.ask [a0', a1'] = if isO a0' ∧ isO a1' ∧ (dO a0').length ≤ 4290000000 then some (Said.fn (octs (pbytes (dO a0') (dO a1')))) else none := by unfold r198f Reg.of ask2; exact ite_cl
theorem putNumsF_spec (b l : List Int) (hl : b.length ≤ 4290000000) (hl2 : l.length ≤ 1000000000) : Fun seat 197 [octs b, ints l] (octs (pnums b l)) := (putNums_spec b l hl hl2).val (encU8.xs_idb _)
noncomputable def r197f : Reg seat := .of told197 (ask2 (fun a0' a1' => isO a0' ∧ isS a1' ∧ (dO a0').length ≤ 4290000000 ∧ (dO a1').length ≤ 1000000000) fun a0' a1' => .fn (octs (pnums (dO a0') (dO a1')))) (ask2_ok fun a0' a1' h => SaidOk.fn (Fun.weak (.cons (isO.weak h.1) (.cons (isS.weak h.2.1) .nil)) (putNumsF_spec _ _ h.2.2.1 h.2.2.2)))
theorem r197f_c : r197f.c = 197 := rfl
open Classical in
theorem r197f_ask (a0' a1' : AV) : r197f.ask [a0', a1'] = if isO a0' ∧ isS a1' ∧ (dO a0').length ≤ 4290000000 ∧ (dO a1').length ≤ 1000000000 then some (Said.fn (octs (pnums (dO a0') (dO a1')))) else none := by unfold r197f Reg.of ask2; exact ite_cl
theorem cloneOF_spec (b : List Int) (hl : b.length ≤ 4294967295) : Fun seat 196 [octs b] (octs b) := (cloneO_spec b hl).val (encU8.xs_idb _)
noncomputable def r196f : Reg seat := .of told196 (ask1 (fun a0' => isO a0' ∧ (dO a0').length ≤ 4294967295) fun a0' => .fn (octs (dO a0'))) (ask1_ok fun a0' h => SaidOk.fn (Fun.weak (.cons (isO.weak h.1) .nil) (cloneOF_spec _ h.2)))
theorem r196f_c : r196f.c = 196 := rfl
open Classical in
theorem r196f_ask (a0' : AV) : r196f.ask [a0'] = if isO a0' ∧ (dO a0').length ≤ 4294967295 then some (Said.fn (octs (dO a0'))) else none := by unfold r196f Reg.of ask1; exact ite_cl

set_option maxHeartbeats 1000000 in
theorem iput_spec (b : List Int) (n : Inner) (hb : b.length ≤ 4280000000) (hn : n.Ok) : Fun seat 183 [octs b, innerA n] (octs (iput b n)) := by
  have b0 : b.length ≤ 4294967295 := by omega
  by_cases hc : innerCheck n = 0
  rotate_left
  · have e : iput b n = b := if_pos hc
    rw [e]
    refine Fun.of0R [r147, r196f] told183 (by simp [il183]) (by simp [idb_patchA]) (by simp [idb_patchA]) 4 ?_
    simp -implicitDefEqProofs only [il183, List.zipIdx_cons, List.zipIdx_nil, leafA, innerA, nodeA, patchA, Leaf.cells, Inner.cells, Node.cells, r147_c, r147_ask, r196f_c, r196f_ask, decide_true, decide_false, hn, hc, b0, go_sem, Nat.reduceEqDiff, reduceIte, Nat.reduceAdd, Nat.reduceLeDiff, Nat.reduceLT, Nat.reduceSub]
  have e : iput b n = pnums (pbytes (pbytes b n.enc) n.hash) n.unmerged := if_neg (not_not_intro hc)
  rw [e]
  have l1 := pbytes_len b n.enc
  have l2 := pbytes_len (pbytes b n.enc) n.hash
  have b1 : b.length ≤ 4290000000 := by omega
  have b2 : (pbytes b n.enc).length ≤ 4290000000 := by omega
  have b3 : (pbytes (pbytes b n.enc) n.hash).length ≤ 4290000000 := by omega
  have b4 := innerCheck_64 hc
  refine Fun.of0R [r147] told183 (by simp [il183]) (by simp [idb_patchA]) (by simp [idb_patchA]) 4 ?_
  simp -implicitDefEqProofs only [il183, List.zipIdx_cons, List.zipIdx_nil, leafA, innerA, nodeA, patchA, Leaf.cells, Inner.cells, Node.cells, r147_c, r147_ask, decide_true, decide_false, hn, hc, go_sem, Nat.reduceEqDiff, reduceIte, Nat.reduceAdd, Nat.reduceLeDiff, Nat.reduceLT, Nat.reduceSub]
  refine WP.drawQ [r198f, r197f] [.l, .g 0 0, .g 0 0, .l, .g 0 0, .g 0 0, .l, .g 0 0, .g 0 0, .l, .l] mixed (by decide) ?_
  simp -implicitDefEqProofs only [leafA, innerA, nodeA, patchA, Leaf.cells, Inner.cells, Node.cells, r198f_c, r198f_ask, r197f_c, r197f_ask, decide_true, decide_false, b1, b2, b3, b4, go_sem, Nat.reduceEqDiff, reduceIte, Nat.reduceAdd, Nat.reduceLeDiff, Nat.reduceLT, Nat.reduceSub]
noncomputable def r183 : Reg seat := .of told183 (ask2 (fun a0' a1' => isO a0' ∧ isIn a1' ∧ (dO a0').length ≤ 4280000000 ∧ (dIn a1').Ok) fun a0' a1' => .fn (octs (iput (dO a0') (dIn a1')))) (ask2_ok fun a0' a1' h => SaidOk.fn (Fun.weak (.cons (isO.weak h.1) (.cons (isIn.weak h.2.1) .nil)) (iput_spec _ _ h.2.2.1 h.2.2.2)))
theorem r183_c : r183.c = 183 := rfl
open Classical in
theorem r183_ask (a0' a1' : AV) : r183.ask [a0', a1'] = if isO a0' ∧ isIn a1' ∧ (dO a0').length ≤ 4280000000 ∧ (dIn a1').Ok then some (Said.fn (octs (iput (dO a0') (dIn a1')))) else none := by unfold r183 Reg.of ask2; exact ite_cl
theorem num4_bd : ∀ {v : List Int}, Bytes v → ∀ x ∈ num4 v, 0 ≤ x ∧ x ≤ 4294967295
  | [], _, x, hx => by cases hx
  | [_], _, x, hx => by cases hx
  | [_, _], _, x, hx => by cases hx
  | [_, _, _], _, x, hx => by cases hx
  | a :: b :: c :: d :: r, hb, x, hx => by
    simp only [num4, List.mem_cons] at hx
    rcases hx with rfl | hx
    · have := num_bd4 (l := [a, b, c, d]) (fun y hy => hb y (by simp at hy ⊢; rcases hy with h | h | h | h <;> simp [h])) (by simp)
      omega
    · exact num4_bd (v := r) (fun y hy => hb y (by simp [hy])) x hx
theorem gnums_nums {b : List Int} (h : Oct b) : Nums (gnums b).1 := by
  have ho := (gbytes_oct h).1
  unfold gnums
  split
  · exact .nil
  · split
    · exact .nil
    · rename_i h4
      refine ⟨?_, fun x hx => ?_⟩
      · have := ho.1
        simp only [Small] at this ⊢
        rw [num4_len _ (by omega)]; omega
      · have := num4_bd (bytes_of ho) x hx
        have e1 : IntKind.i64.min = -9223372036854775808 := rfl
        have e2 : IntKind.i64.max = 9223372036854775807 := rfl
        omega

set_option maxHeartbeats 2000000 in
theorem iget_spec (b : List Int) (hb : Oct b) (hl : b.length ≤ 4294967295) : Fun seat 181 [octs b] (.tup [innerA (iget b).1, octs (iget b).2.1, .int .i64 (iget b).2.2]) := by
  have ho := gbytes_oct hb
  have hs1 := (gbytes_sub b).2.1
  rcases h1 : gbytes b with ⟨x, r, e⟩
  rw [h1] at ho hs1
  have ho2 := gbytes_oct ho.2
  have hs2 := (gbytes_sub r).2.1
  simp only at ho hs1
  rcases h2 : gbytes r with ⟨y, s, f⟩
  rw [h2] at ho2 hs2
  have ho3 := gnums_nums ho2.2
  simp only at ho2 hs2
  rcases h3 : gnums s with ⟨l, t, g⟩
  rw [h3] at ho3
  simp only at ho3
  have o1 := ho.2
  have o2 := ho2.2
  have ok : Inner.Ok ⟨x, y, l⟩ := ⟨ho.1, ho2.1, ho3⟩
  have m1 : s.length ≤ 4294967295 := by omega
  rw [iget_eq h1 h2 h3]
  by_cases he : e = 0
  rotate_left
  · rw [if_pos he]
    refine Fun.of0R [r192, r193, r147] told181 (by simp [il181]) (by simp [idb_patchA]) (by simp [idb_patchA]) 4 ?_
    simp -implicitDefEqProofs only [il181, List.zipIdx_cons, List.zipIdx_nil, leafA, innerA, nodeA, patchA, Leaf.cells, Inner.cells, Node.cells, r192_c, r192_ask, r193_c, r193_ask, r147_c, r147_ask, decide_true, decide_false, hb, h1, he, go_sem, Nat.reduceEqDiff, reduceIte, Nat.reduceAdd, Nat.reduceLeDiff, Nat.reduceLT, Nat.reduceSub]
    exact ⟨rfl, rfl, rfl⟩
  rw [if_neg (not_not_intro he)]
  by_cases hf : f = 0
  rotate_left
  · rw [if_pos hf]
    refine Fun.of0R [r192, r193, r147] told181 (by simp [il181]) (by simp [idb_patchA]) (by simp [idb_patchA]) 4 ?_
    simp -implicitDefEqProofs only [il181, List.zipIdx_cons, List.zipIdx_nil, leafA, innerA, nodeA, patchA, Leaf.cells, Inner.cells, Node.cells, r192_c, r192_ask, r193_c, r193_ask, r147_c, r147_ask, decide_true, decide_false, hb, h1, he, o1, h2, hf, go_sem, Nat.reduceEqDiff, reduceIte, Nat.reduceAdd, Nat.reduceLeDiff, Nat.reduceLT, Nat.reduceSub]
    exact ⟨rfl, rfl, rfl⟩
  rw [if_neg (not_not_intro hf)]
  by_cases hg : g = 0
  rotate_left
  · rw [if_pos hg]
    refine Fun.of0R [r192, r193, r147] told181 (by simp [il181]) (by simp [idb_patchA]) (by simp [idb_patchA]) 4 ?_
    simp -implicitDefEqProofs only [il181, List.zipIdx_cons, List.zipIdx_nil, leafA, innerA, nodeA, patchA, Leaf.cells, Inner.cells, Node.cells, r192_c, r192_ask, r193_c, r193_ask, r147_c, r147_ask, decide_true, decide_false, hb, h1, he, o1, h2, hf, o2, h3, hg, m1, go_sem, Nat.reduceEqDiff, reduceIte, Nat.reduceAdd, Nat.reduceLeDiff, Nat.reduceLT, Nat.reduceSub]
    exact ⟨rfl, rfl, rfl⟩
  rw [if_neg (not_not_intro hg)]
  by_cases hc : innerCheck ⟨x, y, l⟩ = 0
  rotate_left
  · rw [if_pos hc]
    refine Fun.of0R [r192, r193, r147] told181 (by simp [il181]) (by simp [idb_patchA]) (by simp [idb_patchA]) 4 ?_
    simp -implicitDefEqProofs only [il181, List.zipIdx_cons, List.zipIdx_nil, leafA, innerA, nodeA, patchA, Leaf.cells, Inner.cells, Node.cells, r192_c, r192_ask, r193_c, r193_ask, r147_c, r147_ask, decide_true, decide_false, hb, h1, he, o1, h2, hf, o2, h3, hg, m1, ok, hc, go_sem, Nat.reduceEqDiff, reduceIte, Nat.reduceAdd, Nat.reduceLeDiff, Nat.reduceLT, Nat.reduceSub]
    exact ⟨rfl, rfl, rfl⟩
  rw [if_neg (not_not_intro hc)]
  refine Fun.of0R [r192, r193, r147] told181 (by simp [il181]) (by simp [idb_patchA]) (by simp [idb_patchA]) 4 ?_
  simp -implicitDefEqProofs only [il181, List.zipIdx_cons, List.zipIdx_nil, leafA, innerA, nodeA, patchA, Leaf.cells, Inner.cells, Node.cells, r192_c, r192_ask, r193_c, r193_ask, r147_c, r147_ask, decide_true, decide_false, hb, h1, he, o1, h2, hf, o2, h3, hg, m1, ok, hc, go_sem, Nat.reduceEqDiff, reduceIte, Nat.reduceAdd, Nat.reduceLeDiff, Nat.reduceLT, Nat.reduceSub]
noncomputable def r181 : Reg seat := .of told181 (ask1 (fun a0' => isO a0' ∧ Oct (dO a0') ∧ (dO a0').length ≤ 4294967295) fun a0' => .fn (.tup [innerA (iget (dO a0')).1, octs (iget (dO a0')).2.1, .int .i64 (iget (dO a0')).2.2])) (ask1_ok fun a0' h => SaidOk.fn (Fun.weak (.cons (isO.weak h.1) .nil) (iget_spec _ h.2.1 h.2.2)))
theorem r181_c : r181.c = 181 := rfl
open Classical in
theorem r181_ask (a0' : AV) : r181.ask [a0'] = if isO a0' ∧ Oct (dO a0') ∧ (dO a0').length ≤ 4294967295 then some (Said.fn (.tup [innerA (iget (dO a0')).1, octs (iget (dO a0')).2.1, .int .i64 (iget (dO a0')).2.2])) else none := by unfold r181 Reg.of ask1; exact ite_cl
end Go.Proofs.YtihhinbjhiankaaGreatDoor.Al

set_option linter.unusedSimpArgs false
set_option linter.unusedVariables false
namespace Go.Proofs.YtihhinbjhiankaaGreatDoor.Al
open Go

section
variable {S : Seat} {T : List (Reg S)} {env : Env} {d : Option Nat} {op : IOp} {l : List IOper} {Q : St → Prop} {labs : List Lab} {k : Nat} {Ps : List (List Entry)} {rs : List Pend} {H : List Entry} {g : Nat} {b : Lab}
theorem qgrdW_tt : qgrdW S T (.bool true) true d op g l b labs k Ps rs Q env H = drawW S T (⟨d, op, none, []⟩ :: l) (b :: labs) k Ps rs Q ⟨env, H⟩ := by rw [qgrdW_b]; simp
theorem qgrdW_ff : qgrdW S T (.bool false) false d op g l b labs k Ps rs Q env H = drawW S T (⟨d, op, none, []⟩ :: l) (b :: labs) k Ps rs Q ⟨env, H⟩ := by rw [qgrdW_b]; simp
theorem qgrdW_tf : qgrdW S T (.bool true) false d op g l b labs k Ps rs Q env H = drawW S T l labs k Ps rs Q ⟨updo env d (.tup []), H⟩ := by rw [qgrdW_b]; simp
end
end Go.Proofs.YtihhinbjhiankaaGreatDoor.Al

set_option linter.unusedSimpArgs false
set_option linter.unusedVariables false
namespace Go.Proofs.YtihhinbjhiankaaGreatDoor.Al
open Go

theorem iget_ok {b : List Int} (hb : Oct b) : (iget b).1.Ok := by
  have ho := gbytes_oct hb
  rcases h1 : gbytes b with ⟨x, r, e⟩
  rw [h1] at ho
  have ho2 := gbytes_oct ho.2
  simp only at ho
  rcases h2 : gbytes r with ⟨y, s, f⟩
  rw [h2] at ho2
  have ho3 := gnums_nums ho2.2
  simp only at ho2
  rcases h3 : gnums s with ⟨l, t, g⟩
  rw [h3] at ho3
  simp only at ho3
  rw [iget_eq h1 h2 h3]
  split
  · exact .zero
  · split
    · exact .zero
    · split
      · exact .zero
      · split
        · exact .zero
        · exact ⟨ho.1, ho2.1, ho3⟩
end Go.Proofs.YtihhinbjhiankaaGreatDoor.Al
