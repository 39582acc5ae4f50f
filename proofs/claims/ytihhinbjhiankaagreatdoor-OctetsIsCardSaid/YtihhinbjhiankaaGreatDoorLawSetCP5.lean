/-
  JOINED: M4, M5, M6, S2A, M7, Q10, Q9, M17, M18, M19, Q6, Q7
-/
import Derived.Test.YtihhinbjhiankaaGreatDoorLawSetCP4
set_option linter.unusedSimpArgs false
set_option linter.unusedVariables false
namespace Go.Proofs.YtihhinbjhiankaaGreatDoor.Al
open Go
attribute [local go_sem] W_mv W_pick W_alloc W_box W_build W_bslice W_load W_store W_bin W_isnil W_un W_convI W_convS W_mkiface W_mkfunc W_slice W_faddr W_iaddr W_idxA W_extract W_len W_min W_max W_append thenQ_normal thenQ_exit thenQ_ret blockQ_normal blockQ_ret blockQ_exit wpc_skip wpc_region wpc_draw wpc_seq wpc_cond wpc_block wpc_exit wpc_ret wpc_loop wpc_range condW_true condW_false condW_dec condW_any W_nil W_call resW_some evalOp Opd.ev updo_envL updo_none setL_cons setL_nil envL_cons Option.map_some Option.bind_some evBin evInt List.map_cons List.map_nil Option.pure_def Option.bind_eq_bind W_grd' grdW_tt grdW_ff grdW_tf grdW_ft grdW_tup grdW_dt grdW_df L_mv L_load L_bin L_un L_faddr L_iaddr L_nil L_call lresW_some upd_envL evUn beq_dec bne_dec leaves_ret1 leaves_ret0 leaves_end0 rowLen_ints load_iptr0 not_dec heap_get0 heap_get1 heap_set0 heap_set1 heap_len1 heap_app bslice1_int seen_one0 Nat.sub_zero Bool.not_true Bool.not_false List.length_nil List.length_cons List.nil_append List.cons_append Nat.zero_add canon_ptrI canon_bool canon_tup canon_agg canon_ints' canon_ints0 rowLen_octs seen_octs canon_octs' rowLen_nodes canon_nodes' rowLen_nodes0 rowLen_nodes3 seen_list cells_int oneIn_int cells_bool oneIn_bool cells_list oneIn_list cells_func oneIn_func cells_own cells_ptr cells_agg oneIn_own0 oneIn_own1 seenL1 seenM1 oneIn_ptr2 seenL2 oneIn_own3 seenL3 cells_ints oneIn_ints cells_octs oneIn_octs cells_nodes oneIn_nodes ldB0 ldA0 adB0 stB0 ldB1 ldA1 adB1 stB1 ldB2 ldA2 adB2 stB2 ldB3 stB3 List.getElem?_cons_zero List.getElem?_cons_succ beq_self_eq_true splice List.take_zero List.take_succ_cons List.drop_zero List.drop_succ_cons List.append_nil List.set_cons_zero List.set_cons_succ List.all_cons List.all_nil Bool.and_self and_self and_true true_and Nat.lt_irrefl Nat.zero_lt_one Nat.le_refl fillA evNil notA Bool.false_eq_true evMin_int evMax_int Option.map_none freezeP_all_nil freezeP_all_cons frzE_box frzE_arr foldA List.foldlM_cons List.foldlM_nil callW_f lcallW_f ansW_fn ansW_own lansW_fn ansW_none tab_cons tab_nil dI_int dB_bool dO_octs dO_ints dO_list dO_nil dN_nodeA dLf_agg dIn_agg dN_agg dNs_nodes dNs_nil isI_int isB_bool isO_octs isO_nil isO_list isS_ints isS_nil isNs_nodes isNs_nil isN_nodeA isLf_agg isIn_agg isN_agg leaf_eta inner_eta node_eta leaf_zero inner_zero decide_eq_true_eq decide_eq_false_iff_not eq_self forall_const true_implies false_implies Bool.not_eq_true' Bool.not_eq_false' Bool.true_eq_false implies_true ne_eq ldI ldIA adI AV.tup.injEq AV.agg.injEq List.cons.injEq AV.int.injEq AV.bool.injEq nodes_inj octs_inj ints_inj nil_nodes nil_octs nil_ints canon_nilL decide_eq_decide two_ne four_ne b256_ne lendA_own lendA_none isO_own false_and and_false Q_nil Q_l Q_g Q_h Q_grd qgrdW_b lightD_some heavyD_some readD_some fnD_some callL_f Q_call pendOk_nil pendOk_cons pastOk_nil Q_mv Q_pick Q_bin Q_extract Q_min Q_load Q_slice Q_len H_store free_mv free_pick free_bin free_extract free_min free_load free_slice free_len callW_y List.length_map List.length_set leaves_r evR_some evRess1 evRess2 evRess3 evRes_t evRes_c nz_kind nz_enc nz_cred nz_source nz_parent nz_ienc nz_hash nz_un true_or or_true bsl_node appI appO canon_rowI canon_rowO not_false_eq_true not_true_eq_false ldE_a ldE_c adE_b stE_b onP_b
attribute [local go_sem low] condW_b ldP adP stP onO
attribute [local simp] envL_cons envL_nil idb_int idb_bool idb_ints idb_nil idb_own idb_ptr idb_octs idb_nodes idb_leafA idb_innerA idb_nodeA idb_agg idb_tup idb_iptr idb_fn entB_dead entB_box
theorem vget_cons (x : Int) (r : List Int) (K : Nat) (hK : vk x = K) (h0 : K ≠ 0) : vget (x :: r) = if r.length + 1 < K then (0, [], 1) else if vsize (num (x % 64 :: r.take (K - 1))) ≠ K then (0, [], 2) else (num (x % 64 :: r.take (K - 1)), r.drop (K - 1), 0) := by
  simp only [vget, hK, h0, if_false]
theorem vget_none (x : Int) (r : List Int) (hK : vk x = 0) : vget (x :: r) = (0, [], 2) := by simp only [vget, hK, if_true]
theorem num_cons_take (m : Int) (r : List Int) (i : Nat) (h : i < r.length) : num (m :: r.take (i + 1)) = num (m :: r.take i) * 256 + r[i] := by
  rw [List.take_succ_eq_append_getElem h, show m :: (r.take i ++ [r[i]]) = (m :: r.take i) ++ [r[i]] from rfl, num_snoc]
theorem num_cons_bd2 {m : Int} {r : List Int} (hm : 0 ≤ m ∧ m < 64) (hr : Bytes r) (h : r.length ≤ 2) : 0 ≤ num (m :: r) ∧ num (m :: r) ≤ 4194303 := by
  match r, hr, h with
  | [], _, _ => simp [num]; omega
  | [a], hr, _ => have := hr a (by simp); simp [num]; omega
  | [a, b], hr, _ => have := hr a (by simp); have := hr b (by simp); simp [num]; omega

theorem bytes_take {r : List Int} (h : Bytes r) (k : Nat) : Bytes (r.take k) := fun y hy => h y (List.mem_of_mem_take hy)
set_option maxHeartbeats 2000000 in
theorem varGet_some (x : Int) (r : List Int) (K : Nat) (j : Int) (hK : vk x = K) (hK0 : 1 ≤ K ∧ K ≤ 4) (hb : Oct (x :: r)) (q : IntKind.u8.wrap (x.tdiv 64) = j) (c : (0 ≤ j ∧ j < ((4 : Nat) : Int)) = True)
    (ix : [AV.int .i64 1, AV.int .i64 2, AV.int .i64 4, AV.int .i64 0][j.toNat * 1]? = some (AV.int .i64 (K : Int))) :
    Fun seat 215 [octs (x :: r)] (.tup [.int .i64 (vget (x :: r)).1, octs (vget (x :: r)).2.1, .int .i64 (vget (x :: r)).2.2]) := by
  have hB := bytes_of hb
  have hx := hB x (by simp)
  have hr : Bytes r := fun y hy => hB y (by simp [hy])
  have l0 : ¬ ((r.length + 1 : Nat) : Int) = 0 := by omega
  have k0 : ¬ (K : Int) = 0 := by omega
  have i0 : ∀ H, evIndex H 1 (octs (x :: r)) (.int .i64 0) = some (.iptr [.int .u8 x] 0) := fun H => index_octs H (x :: r) 0 (by simp)
  rw [vget_cons x r K hK (by omega)]
  by_cases hs : r.length + 1 < K
  · have g : ((r.length + 1 : Nat) : Int) < (K : Int) := by omega
    rw [if_pos hs]
    refine Fun.of0R [] told215 (by simp [il215]) (by simp [idb_patchA]) (by simp [idb_patchA]) 4 ?_
    simp -implicitDefEqProofs only [il215, List.zipIdx_cons, List.zipIdx_nil, leafA, innerA, nodeA, patchA, Leaf.cells, Inner.cells, Node.cells, decide_true, decide_false, l0, i0, q, c, ix, k0, g, Int.reduceEq, go_sem, Nat.reduceEqDiff, reduceIte, Nat.reduceAdd, Nat.reduceLeDiff, Nat.reduceLT, Nat.reduceSub]
    try rfl
  have g : ¬ ((r.length + 1 : Nat) : Int) < (K : Int) := by omega
  rw [if_neg hs]
  have rm : x.tmod 64 = x % 64 := Int.tmod_eq_emod_of_nonneg hx.1
  have w0 : IntKind.i64.wrap (x % 64) = x % 64 := wrap64 _ (by omega) (by omega)
  obtain ⟨R, hR⟩ : ∃ R, R = r.take (K - 1) := ⟨_, rfl⟩
  have hRl : R.length = K - 1 := by rw [hR, List.length_take]; omega
  have hRb : Bytes R := by rw [hR]; exact bytes_take hr _
  have sl1 : ∀ H, evSlice H 1 (octs (x :: r)) (some (.int .i64 1)) (some (.int .i64 (K : Int))) none = some (octs R) := fun H => by
    have := sliceFT_octs H (x :: r) 1 (K : Int) (by omega) (by omega) (by simp; omega)
    rw [Int.toNat_natCast, show ((x :: r).take K).drop (1 : Int).toNat = R by
      rw [hR]; obtain ⟨k, rfl⟩ : ∃ k, K = k + 1 := ⟨K - 1, by omega⟩
      rfl] at this
    exact this
  have sl2 : ∀ H, evSlice H 1 (octs (x :: r)) (some (.int .i64 (K : Int))) none none = some (octs (r.drop (K - 1))) := fun H => by
    have := sliceF_octs H (x :: r) (K : Int) (by omega) (by simp; omega)
    rw [Int.toNat_natCast, show (x :: r).drop K = r.drop (K - 1) by
      obtain ⟨k, rfl⟩ : ∃ k, K = k + 1 := ⟨K - 1, by omega⟩
      rfl] at this
    exact this
  rw [← hR]
  refine Fun.of0R [r232] told215 (by simp [il215]) (by simp [idb_patchA]) (by simp [idb_patchA]) 4 ?_
  simp -implicitDefEqProofs only [il215, List.zipIdx_cons, List.zipIdx_nil, leafA, innerA, nodeA, patchA, Leaf.cells, Inner.cells, Node.cells, r232_c, r232_ask, decide_true, decide_false, l0, i0, q, c, ix, k0, g, rm, w0, sl1, Int.reduceEq, go_sem, Nat.reduceEqDiff, reduceIte, Nat.reduceAdd, Nat.reduceLeDiff, Nat.reduceLT, Nat.reduceSub]
  refine WP.loop0 (fun i => i ≤ R.length) (fun i => [(0, octs (x :: r)), (5, .int .i64 K), (6, .int .i64 (num (x % 64 :: R.take i))), (33, octs R), (34, .int .i64 R.length), (35, .int .i64 (i : Nat))]) (fun i => R.length - i) 0 (Nat.zero_le _) (fun i _ => by simp ) (by simp [num]) ?_
  intro i hi
  refine wpc_soundR [] ?_
  by_cases hlt : (i : Int) < (R.length : Nat)
  · have hi' : i < R.length := by omega
    have hy := hRb _ (List.getElem_mem hi')
    have hn := num_cons_bd2 (m := x % 64) (r := R.take i) (by omega) (bytes_take hRb _) (by rw [List.length_take]; omega)
    have w1 : IntKind.i64.wrap (num (x % 64 :: R.take i) * 256) = num (x % 64 :: R.take i) * 256 := wrap64 _ (by omega) (by omega)
    have w2 : IntKind.i64.wrap R[i] = R[i] := wrap64 _ (by omega) (by omega)
    have o := or_octet (num (x % 64 :: R.take i)) R[i] hn.1 (by omega) hy.1 hy.2
    rw [← num_cons_take _ _ _ hi'] at o
    simp -implicitDefEqProofs only [leafA, innerA, nodeA, patchA, Leaf.cells, Inner.cells, Node.cells, decide_true, decide_false, hlt, w1, w2, shl8, o, fun H => index_octs H R i hi', go_sem, Nat.reduceEqDiff, reduceIte, Nat.reduceAdd, Nat.reduceLeDiff, Nat.reduceLT, Nat.reduceSub]
    exact ⟨i + 1, by omega, by omega, by simp [wrapS (show i < 9223372036854775807 by omega)]⟩
  · have e : i = R.length := by omega
    subst e
    rw [List.take_length]
    by_cases hv : vsize (num (x % 64 :: R)) = (K : Int)
    · rw [if_neg (not_not_intro hv)]
      simp -implicitDefEqProofs only [leafA, innerA, nodeA, patchA, Leaf.cells, Inner.cells, Node.cells, r232_c, r232_ask, decide_true, decide_false, hlt, hv, go_sem, Nat.reduceEqDiff, reduceIte, Nat.reduceAdd, Nat.reduceLeDiff, Nat.reduceLT, Nat.reduceSub]
      refine WP.drawQ [] [.l, .l, .l, .l, .l, .l, .l] mixed (by decide) ?_
      simp -implicitDefEqProofs only [leafA, innerA, nodeA, patchA, Leaf.cells, Inner.cells, Node.cells, decide_true, decide_false, sl2, go_sem, Nat.reduceEqDiff, reduceIte, Nat.reduceAdd, Nat.reduceLeDiff, Nat.reduceLT, Nat.reduceSub]
      try rfl
    · rw [if_pos hv]
      simp -implicitDefEqProofs only [leafA, innerA, nodeA, patchA, Leaf.cells, Inner.cells, Node.cells, r232_c, r232_ask, decide_true, decide_false, hlt, hv, go_sem, Nat.reduceEqDiff, reduceIte, Nat.reduceAdd, Nat.reduceLeDiff, Nat.reduceLT, Nat.reduceSub]
      try rfl
theorem varGet_spec (b : List Int) (hb : Oct b) : Fun seat 215 [octs b] (.tup [.int .i64 (vget b).1, octs (vget b).2.1, .int .i64 (vget b).2.2]) := by
  have hB := bytes_of hb
  have hlb := hb.1
  simp only [Small] at hlb
  cases b with
  | nil =>
    refine Fun.of0R [] told215 (by simp [il215]) (by simp [idb_patchA]) (by simp [idb_patchA]) 4 ?_
    simp -implicitDefEqProofs only [il215, List.zipIdx_cons, List.zipIdx_nil, leafA, innerA, nodeA, patchA, Leaf.cells, Inner.cells, Node.cells, decide_true, decide_false, List.length_nil, Int.natCast_zero, go_sem, Nat.reduceEqDiff, reduceIte, Nat.reduceAdd, Nat.reduceLeDiff, Nat.reduceLT, Nat.reduceSub]
    exact ⟨rfl, rfl, rfl⟩
  | cons x r =>
    have hx := hB x (by simp)
    by_cases h1 : x < 64
    · exact varGet_some x r 1 0 (by unfold vk; rw [if_pos h1]) (by omega) hb (by rw [Int.tdiv_eq_ediv_of_nonneg hx.1, wrapU8]; omega) (by simp) rfl
    by_cases h2 : x < 128
    · exact varGet_some x r 2 1 (by unfold vk; rw [if_neg h1, if_pos h2]) (by omega) hb (by rw [Int.tdiv_eq_ediv_of_nonneg hx.1, wrapU8]; omega) (by simp) rfl
    by_cases h3 : x < 192
    · exact varGet_some x r 4 2 (by unfold vk; rw [if_neg h1, if_neg h2, if_pos h3]) (by omega) hb (by rw [Int.tdiv_eq_ediv_of_nonneg hx.1, wrapU8]; omega) (by simp) rfl
    rw [vget_none x r (by unfold vk; rw [if_neg h1, if_neg h2, if_neg h3])]
    have l0 : ¬ ((r.length + 1 : Nat) : Int) = 0 := by omega
    have i0 : ∀ H, evIndex H 1 (octs (x :: r)) (.int .i64 0) = some (.iptr [.int .u8 x] 0) := fun H => index_octs H (x :: r) 0 (by simp)
    have q : IntKind.u8.wrap (x.tdiv 64) = 3 := by rw [Int.tdiv_eq_ediv_of_nonneg hx.1, wrapU8]; omega
    have c : ((0 : Int) ≤ 3 ∧ (3 : Int) < ((4 : Nat) : Int)) = True := by simp
    have ix : [AV.int .i64 1, AV.int .i64 2, AV.int .i64 4, AV.int .i64 0][(3 : Int).toNat * 1]? = some (AV.int .i64 0) := rfl
    refine Fun.of0R [] told215 (by simp [il215]) (by simp [idb_patchA]) (by simp [idb_patchA]) 4 ?_
    simp -implicitDefEqProofs only [il215, List.zipIdx_cons, List.zipIdx_nil, leafA, innerA, nodeA, patchA, Leaf.cells, Inner.cells, Node.cells, decide_true, decide_false, l0, i0, q, c, ix, Int.reduceEq, go_sem, Nat.reduceEqDiff, reduceIte, Nat.reduceAdd, Nat.reduceLeDiff, Nat.reduceLT, Nat.reduceSub]
    try rfl
noncomputable def r215 : Reg seat := .of told215 (ask1 (fun a0' => isO a0' ∧ Oct (dO a0')) fun a0' => .fn (.tup [.int .i64 (vget (dO a0')).1, octs (vget (dO a0')).2.1, .int .i64 (vget (dO a0')).2.2])) (ask1_ok fun a0' h => SaidOk.fn (Fun.weak (.cons (isO.weak h.1) .nil) (varGet_spec _ h.2)))
theorem r215_c : r215.c = 215 := rfl
open Classical in
theorem r215_ask (a0' : AV) : r215.ask [a0'] = if isO a0' ∧ Oct (dO a0') then some (Said.fn (.tup [.int .i64 (vget (dO a0')).1, octs (vget (dO a0')).2.1, .int .i64 (vget (dO a0')).2.2])) else none := by unfold r215 Reg.of ask1; exact ite_cl

set_option maxHeartbeats 2000000 in
theorem refVarGet_some (x : Int) (r : List Int) (K : Nat) (hK : vk x = K) (hK0 : 1 ≤ K ∧ K ≤ 4) (hb : Oct (x :: r)) (hc : (K = 1 ∧ x < 64) ∨ (K = 2 ∧ ¬ x < 64 ∧ x < 128) ∨ (K = 4 ∧ ¬ x < 64 ∧ ¬ x < 128 ∧ ¬ x ≥ 192)) :
    Fun seat 217 [octs (x :: r)] (.tup [.int .i64 (vget (x :: r)).1, octs (vget (x :: r)).2.1, .int .i64 (vget (x :: r)).2.2]) := by
  have hB := bytes_of hb
  have hx := hB x (by simp)
  have hr : Bytes r := fun y hy => hB y (by simp [hy])
  have l0 : ¬ ((r.length + 1 : Nat) : Int) = 0 := by omega
  have i0 : ∀ H, evIndex H 1 (octs (x :: r)) (.int .i64 0) = some (.iptr [.int .u8 x] 0) := fun H => index_octs H (x :: r) 0 (by simp)
  rw [vget_cons x r K hK (by omega)]
  by_cases hs : r.length + 1 < K
  · rw [if_pos hs]
    rcases hc with ⟨rfl, c1⟩ | ⟨rfl, c1, c2⟩ | ⟨rfl, c1, c2, c3⟩
    · omega
    · have g : ((r.length + 1 : Nat) : Int) < 2 := by omega
      refine Fun.of0R [] told217 (by simp [il217]) (by simp [idb_patchA]) (by simp [idb_patchA]) 4 ?_
      simp -implicitDefEqProofs only [il217, List.zipIdx_cons, List.zipIdx_nil, leafA, innerA, nodeA, patchA, Leaf.cells, Inner.cells, Node.cells, decide_true, decide_false, l0, i0, c1, c2, g, Int.reduceEq, go_sem, Nat.reduceEqDiff, reduceIte, Nat.reduceAdd, Nat.reduceLeDiff, Nat.reduceLT, Nat.reduceSub]
      try rfl
    · have g : ((r.length + 1 : Nat) : Int) < 4 := by omega
      refine Fun.of0R [] told217 (by simp [il217]) (by simp [idb_patchA]) (by simp [idb_patchA]) 4 ?_
      simp -implicitDefEqProofs only [il217, List.zipIdx_cons, List.zipIdx_nil, leafA, innerA, nodeA, patchA, Leaf.cells, Inner.cells, Node.cells, decide_true, decide_false, l0, i0, c1, c2, c3, g, Int.reduceEq, go_sem, Nat.reduceEqDiff, reduceIte, Nat.reduceAdd, Nat.reduceLeDiff, Nat.reduceLT, Nat.reduceSub]
      try rfl
  rw [if_neg hs]
  have rm : x.tmod 64 = x % 64 := Int.tmod_eq_emod_of_nonneg hx.1
  have w00 : IntKind.i64.wrap x = x := wrap64 _ (by omega) (by omega)
  obtain ⟨R, hR⟩ : ∃ R, R = r.take (K - 1) := ⟨_, rfl⟩
  have hRl : R.length = K - 1 := by rw [hR, List.length_take]; omega
  have hRb : Bytes R := by rw [hR]; exact bytes_take hr _
  have sl2 : ∀ H, evSlice H 1 (octs (x :: r)) (some (.int .i64 (K : Int))) none none = some (octs (r.drop (K - 1))) := fun H => by
    have := sliceF_octs H (x :: r) (K : Int) (by omega) (by simp; omega)
    rw [Int.toNat_natCast, show (x :: r).drop K = r.drop (K - 1) by
      obtain ⟨k, rfl⟩ : ∃ k, K = k + 1 := ⟨K - 1, by omega⟩
      rfl] at this
    exact this
  have ir : ∀ i (hi : i < R.length) H, evIndex H 1 (octs (x :: r)) (.int .i64 ((i + 1 : Nat) : Int)) = some (.iptr [.int .u8 R[i]] 0) := fun i hi H => by
    have := index_octs H (x :: r) (i + 1) (by rw [hRl] at hi; simp; omega)
    rw [this]
    simp only [List.getElem_cons_succ, hR, List.getElem_take]
  rw [← hR]
  rcases hc with ⟨rfl, c1⟩ | ⟨rfl, c1, c2⟩ | ⟨rfl, c1, c2, c3⟩
  · have g : ¬ ((r.length + 1 : Nat) : Int) < 1 := by omega
    have sl3 : ∀ H, evSlice H 1 (octs (x :: r)) (some (.int .i64 1)) none none = some (octs (r.drop (1 - 1))) := sl2
    refine Fun.of0R [r234] told217 (by simp [il217]) (by simp [idb_patchA]) (by simp [idb_patchA]) 4 ?_
    simp -implicitDefEqProofs only [il217, List.zipIdx_cons, List.zipIdx_nil, leafA, innerA, nodeA, patchA, Leaf.cells, Inner.cells, Node.cells, r234_c, r234_ask, decide_true, decide_false, l0, i0, c1, g, rm, w00, Int.reduceEq, go_sem, Nat.reduceEqDiff, reduceIte, Nat.reduceAdd, Nat.reduceLeDiff, Nat.reduceLT, Nat.reduceSub]
    refine WP.loop0 (fun i => i ≤ R.length) (fun i => [(0, octs (x :: r)), (5, .int .i64 1), (6, .int .i64 (num (x % 64 :: R.take i))), (7, .int .i64 ((i + 1 : Nat) : Int))]) (fun i => R.length - i) 0 (Nat.zero_le _) (fun i _ => by simp ) (by simp [num]) ?_
    intro i hi
    refine wpc_soundR [] ?_
    by_cases hlt : ((i + 1 : Nat) : Int) < 1
    · have hi' : i < R.length := by omega
      have hy := hRb _ (List.getElem_mem hi')
      have hn := num_cons_bd2 (m := x % 64) (r := R.take i) (by omega) (bytes_take hRb _) (by rw [List.length_take]; omega)
      have w1 : IntKind.i64.wrap (num (x % 64 :: R.take i) * 256) = num (x % 64 :: R.take i) * 256 := wrap64 _ (by omega) (by omega)
      have w2 : IntKind.i64.wrap R[i] = R[i] := wrap64 _ (by omega) (by omega)
      have w3 : IntKind.i64.wrap (num (x % 64 :: R.take i) * 256 + R[i]) = num (x % 64 :: R.take (i + 1)) := by rw [num_cons_take _ _ _ hi', wrap64 _ (by omega) (by omega)]
      simp -implicitDefEqProofs only [leafA, innerA, nodeA, patchA, Leaf.cells, Inner.cells, Node.cells, decide_true, decide_false, hlt, w1, w2, w3, ir i hi', go_sem, Nat.reduceEqDiff, reduceIte, Nat.reduceAdd, Nat.reduceLeDiff, Nat.reduceLT, Nat.reduceSub]
      exact ⟨i + 1, by omega, by omega, by simp ; rw [wrap64 _ (by omega) (by omega)]⟩
    · have e : i = R.length := by omega
      subst e
      rw [List.take_length]
      by_cases hv : vsize (num (x % 64 :: R)) = 1
      · rw [if_neg (not_not_intro (show vsize (num (x % 64 :: R)) = ((1 : Nat) : Int) from hv))]
        simp -implicitDefEqProofs only [leafA, innerA, nodeA, patchA, Leaf.cells, Inner.cells, Node.cells, r234_c, r234_ask, decide_true, decide_false, hlt, hv, go_sem, Nat.reduceEqDiff, reduceIte, Nat.reduceAdd, Nat.reduceLeDiff, Nat.reduceLT, Nat.reduceSub]
        refine WP.drawQ [] [.l, .l, .l, .l, .l, .l, .l] mixed (by decide) ?_
        simp -implicitDefEqProofs only [leafA, innerA, nodeA, patchA, Leaf.cells, Inner.cells, Node.cells, decide_true, decide_false, sl3, go_sem, Nat.reduceEqDiff, reduceIte, Nat.reduceAdd, Nat.reduceLeDiff, Nat.reduceLT, Nat.reduceSub]
        try rfl
      · rw [if_pos (show ¬ vsize (num (x % 64 :: R)) = ((1 : Nat) : Int) from hv)]
        simp -implicitDefEqProofs only [leafA, innerA, nodeA, patchA, Leaf.cells, Inner.cells, Node.cells, r234_c, r234_ask, decide_true, decide_false, hlt, hv, go_sem, Nat.reduceEqDiff, reduceIte, Nat.reduceAdd, Nat.reduceLeDiff, Nat.reduceLT, Nat.reduceSub]
        try rfl
  · have g : ¬ ((r.length + 1 : Nat) : Int) < 2 := by omega
    have sl3 : ∀ H, evSlice H 1 (octs (x :: r)) (some (.int .i64 2)) none none = some (octs (r.drop (2 - 1))) := sl2
    refine Fun.of0R [r234] told217 (by simp [il217]) (by simp [idb_patchA]) (by simp [idb_patchA]) 4 ?_
    simp -implicitDefEqProofs only [il217, List.zipIdx_cons, List.zipIdx_nil, leafA, innerA, nodeA, patchA, Leaf.cells, Inner.cells, Node.cells, r234_c, r234_ask, decide_true, decide_false, l0, i0, c1, c2, g, rm, w00, Int.reduceEq, go_sem, Nat.reduceEqDiff, reduceIte, Nat.reduceAdd, Nat.reduceLeDiff, Nat.reduceLT, Nat.reduceSub]
    refine WP.loop0 (fun i => i ≤ R.length) (fun i => [(0, octs (x :: r)), (5, .int .i64 2), (6, .int .i64 (num (x % 64 :: R.take i))), (7, .int .i64 ((i + 1 : Nat) : Int))]) (fun i => R.length - i) 0 (Nat.zero_le _) (fun i _ => by simp ) (by simp [num]) ?_
    intro i hi
    refine wpc_soundR [] ?_
    by_cases hlt : ((i + 1 : Nat) : Int) < 2
    · have hi' : i < R.length := by omega
      have hy := hRb _ (List.getElem_mem hi')
      have hn := num_cons_bd2 (m := x % 64) (r := R.take i) (by omega) (bytes_take hRb _) (by rw [List.length_take]; omega)
      have w1 : IntKind.i64.wrap (num (x % 64 :: R.take i) * 256) = num (x % 64 :: R.take i) * 256 := wrap64 _ (by omega) (by omega)
      have w2 : IntKind.i64.wrap R[i] = R[i] := wrap64 _ (by omega) (by omega)
      have w3 : IntKind.i64.wrap (num (x % 64 :: R.take i) * 256 + R[i]) = num (x % 64 :: R.take (i + 1)) := by rw [num_cons_take _ _ _ hi', wrap64 _ (by omega) (by omega)]
      simp -implicitDefEqProofs only [leafA, innerA, nodeA, patchA, Leaf.cells, Inner.cells, Node.cells, decide_true, decide_false, hlt, w1, w2, w3, ir i hi', go_sem, Nat.reduceEqDiff, reduceIte, Nat.reduceAdd, Nat.reduceLeDiff, Nat.reduceLT, Nat.reduceSub]
      exact ⟨i + 1, by omega, by omega, by simp ; rw [wrap64 _ (by omega) (by omega)]⟩
    · have e : i = R.length := by omega
      subst e
      rw [List.take_length]
      by_cases hv : vsize (num (x % 64 :: R)) = 2
      · rw [if_neg (not_not_intro (show vsize (num (x % 64 :: R)) = ((2 : Nat) : Int) from hv))]
        simp -implicitDefEqProofs only [leafA, innerA, nodeA, patchA, Leaf.cells, Inner.cells, Node.cells, r234_c, r234_ask, decide_true, decide_false, hlt, hv, go_sem, Nat.reduceEqDiff, reduceIte, Nat.reduceAdd, Nat.reduceLeDiff, Nat.reduceLT, Nat.reduceSub]
        refine WP.drawQ [] [.l, .l, .l, .l, .l, .l, .l] mixed (by decide) ?_
        simp -implicitDefEqProofs only [leafA, innerA, nodeA, patchA, Leaf.cells, Inner.cells, Node.cells, decide_true, decide_false, sl3, go_sem, Nat.reduceEqDiff, reduceIte, Nat.reduceAdd, Nat.reduceLeDiff, Nat.reduceLT, Nat.reduceSub]
        try rfl
      · rw [if_pos (show ¬ vsize (num (x % 64 :: R)) = ((2 : Nat) : Int) from hv)]
        simp -implicitDefEqProofs only [leafA, innerA, nodeA, patchA, Leaf.cells, Inner.cells, Node.cells, r234_c, r234_ask, decide_true, decide_false, hlt, hv, go_sem, Nat.reduceEqDiff, reduceIte, Nat.reduceAdd, Nat.reduceLeDiff, Nat.reduceLT, Nat.reduceSub]
        try rfl
  · have g : ¬ ((r.length + 1 : Nat) : Int) < 4 := by omega
    have sl3 : ∀ H, evSlice H 1 (octs (x :: r)) (some (.int .i64 4)) none none = some (octs (r.drop (4 - 1))) := sl2
    refine Fun.of0R [r234] told217 (by simp [il217]) (by simp [idb_patchA]) (by simp [idb_patchA]) 4 ?_
    simp -implicitDefEqProofs only [il217, List.zipIdx_cons, List.zipIdx_nil, leafA, innerA, nodeA, patchA, Leaf.cells, Inner.cells, Node.cells, r234_c, r234_ask, decide_true, decide_false, l0, i0, c1, c2, c3, g, rm, w00, Int.reduceEq, go_sem, Nat.reduceEqDiff, reduceIte, Nat.reduceAdd, Nat.reduceLeDiff, Nat.reduceLT, Nat.reduceSub]
    refine WP.loop0 (fun i => i ≤ R.length) (fun i => [(0, octs (x :: r)), (5, .int .i64 4), (6, .int .i64 (num (x % 64 :: R.take i))), (7, .int .i64 ((i + 1 : Nat) : Int))]) (fun i => R.length - i) 0 (Nat.zero_le _) (fun i _ => by simp ) (by simp [num]) ?_
    intro i hi
    refine wpc_soundR [] ?_
    by_cases hlt : ((i + 1 : Nat) : Int) < 4
    · have hi' : i < R.length := by omega
      have hy := hRb _ (List.getElem_mem hi')
      have hn := num_cons_bd2 (m := x % 64) (r := R.take i) (by omega) (bytes_take hRb _) (by rw [List.length_take]; omega)
      have w1 : IntKind.i64.wrap (num (x % 64 :: R.take i) * 256) = num (x % 64 :: R.take i) * 256 := wrap64 _ (by omega) (by omega)
      have w2 : IntKind.i64.wrap R[i] = R[i] := wrap64 _ (by omega) (by omega)
      have w3 : IntKind.i64.wrap (num (x % 64 :: R.take i) * 256 + R[i]) = num (x % 64 :: R.take (i + 1)) := by rw [num_cons_take _ _ _ hi', wrap64 _ (by omega) (by omega)]
      simp -implicitDefEqProofs only [leafA, innerA, nodeA, patchA, Leaf.cells, Inner.cells, Node.cells, decide_true, decide_false, hlt, w1, w2, w3, ir i hi', go_sem, Nat.reduceEqDiff, reduceIte, Nat.reduceAdd, Nat.reduceLeDiff, Nat.reduceLT, Nat.reduceSub]
      exact ⟨i + 1, by omega, by omega, by simp ; rw [wrap64 _ (by omega) (by omega)]⟩
    · have e : i = R.length := by omega
      subst e
      rw [List.take_length]
      by_cases hv : vsize (num (x % 64 :: R)) = 4
      · rw [if_neg (not_not_intro (show vsize (num (x % 64 :: R)) = ((4 : Nat) : Int) from hv))]
        simp -implicitDefEqProofs only [leafA, innerA, nodeA, patchA, Leaf.cells, Inner.cells, Node.cells, r234_c, r234_ask, decide_true, decide_false, hlt, hv, go_sem, Nat.reduceEqDiff, reduceIte, Nat.reduceAdd, Nat.reduceLeDiff, Nat.reduceLT, Nat.reduceSub]
        refine WP.drawQ [] [.l, .l, .l, .l, .l, .l, .l] mixed (by decide) ?_
        simp -implicitDefEqProofs only [leafA, innerA, nodeA, patchA, Leaf.cells, Inner.cells, Node.cells, decide_true, decide_false, sl3, go_sem, Nat.reduceEqDiff, reduceIte, Nat.reduceAdd, Nat.reduceLeDiff, Nat.reduceLT, Nat.reduceSub]
        try rfl
      · rw [if_pos (show ¬ vsize (num (x % 64 :: R)) = ((4 : Nat) : Int) from hv)]
        simp -implicitDefEqProofs only [leafA, innerA, nodeA, patchA, Leaf.cells, Inner.cells, Node.cells, r234_c, r234_ask, decide_true, decide_false, hlt, hv, go_sem, Nat.reduceEqDiff, reduceIte, Nat.reduceAdd, Nat.reduceLeDiff, Nat.reduceLT, Nat.reduceSub]
        try rfl
theorem refVarGet_spec (b : List Int) (hb : Oct b) : Fun seat 217 [octs b] (.tup [.int .i64 (vget b).1, octs (vget b).2.1, .int .i64 (vget b).2.2]) := by
  have hB := bytes_of hb
  cases b with
  | nil =>
    refine Fun.of0R [] told217 (by simp [il217]) (by simp [idb_patchA]) (by simp [idb_patchA]) 4 ?_
    simp -implicitDefEqProofs only [il217, List.zipIdx_cons, List.zipIdx_nil, leafA, innerA, nodeA, patchA, Leaf.cells, Inner.cells, Node.cells, decide_true, decide_false, List.length_nil, Int.natCast_zero, go_sem, Nat.reduceEqDiff, reduceIte, Nat.reduceAdd, Nat.reduceLeDiff, Nat.reduceLT, Nat.reduceSub]
    exact ⟨rfl, rfl, rfl⟩
  | cons x r =>
    have hx := hB x (by simp)
    by_cases h1 : x < 64
    · exact refVarGet_some x r 1 (by unfold vk; rw [if_pos h1]) (by omega) hb (.inl ⟨rfl, h1⟩)
    by_cases h2 : x < 128
    · exact refVarGet_some x r 2 (by unfold vk; rw [if_neg h1, if_pos h2]) (by omega) hb (.inr (.inl ⟨rfl, h1, h2⟩))
    by_cases h3 : x ≥ 192
    · rw [vget_none x r (by unfold vk; rw [if_neg h1, if_neg h2, if_neg (by omega)])]
      have l0 : ¬ ((r.length + 1 : Nat) : Int) = 0 := by omega
      have i0 : ∀ H, evIndex H 1 (octs (x :: r)) (.int .i64 0) = some (.iptr [.int .u8 x] 0) := fun H => index_octs H (x :: r) 0 (by simp)
      refine Fun.of0R [] told217 (by simp [il217]) (by simp [idb_patchA]) (by simp [idb_patchA]) 4 ?_
      simp -implicitDefEqProofs only [il217, List.zipIdx_cons, List.zipIdx_nil, leafA, innerA, nodeA, patchA, Leaf.cells, Inner.cells, Node.cells, decide_true, decide_false, l0, i0, h1, h2, h3, Int.reduceEq, go_sem, Nat.reduceEqDiff, reduceIte, Nat.reduceAdd, Nat.reduceLeDiff, Nat.reduceLT, Nat.reduceSub]
      try rfl
    · exact refVarGet_some x r 4 (by unfold vk; rw [if_neg h1, if_neg h2, if_pos (by omega)]) (by omega) hb (.inr (.inr ⟨rfl, h1, h2, h3⟩))
noncomputable def r217 : Reg seat := .of told217 (ask1 (fun a0' => isO a0' ∧ Oct (dO a0')) fun a0' => .fn (.tup [.int .i64 (vget (dO a0')).1, octs (vget (dO a0')).2.1, .int .i64 (vget (dO a0')).2.2])) (ask1_ok fun a0' h => SaidOk.fn (Fun.weak (.cons (isO.weak h.1) .nil) (refVarGet_spec _ h.2)))
theorem r217_c : r217.c = 217 := rfl
open Classical in
theorem r217_ask (a0' : AV) : r217.ask [a0'] = if isO a0' ∧ Oct (dO a0') then some (Said.fn (.tup [.int .i64 (vget (dO a0')).1, octs (vget (dO a0')).2.1, .int .i64 (vget (dO a0')).2.2])) else none := by unfold r217 Reg.of ask1; exact ite_cl
theorem plainI (k : IntKind) (l : List Int) : (∀ x ∈ l.map (AV.int k), ∀ y ∈ x.cells, Plain y) = True := eq_true fun x hx y hy => by
  obtain ⟨z, _, rfl⟩ := List.mem_map.1 hx
  simp only [AV.cells, List.mem_singleton] at hy
  subst hy; exact .int _ _
theorem vsize_le (n : Int) : vsize n ≤ 4 := by
  unfold vsize
  split
  · omega
  · split
    · omega
    · split <;> omega
set_option maxHeartbeats 1000000 in
theorem putBytes_spec (b v : List Int) (hl : b.length ≤ 4290000000) : FunOwn seat 198 [octs b, octs v] 1 ((pbytes b v).map (AV.int .u8)) := by
  have hl' : b.length ≤ 4294967295 := by omega
  have hl2 : b.length ≤ 4294960000 := by omega
  by_cases hv : (v.length : Int) > 1048576
  · have e : pbytes b v = b := if_pos hv
    rw [e]
    refine FunOwn.of0R [r196, r219] told198 (by simp [il198]) (by simp [idb_patchA]) (by first | exact encI64.xs_idb _ | exact encU8.xs_idb _ | exact encNode.xs_idb _) ?_
    simp -implicitDefEqProofs only [il198, List.zipIdx_cons, List.zipIdx_nil, leafA, innerA, nodeA, patchA, Leaf.cells, Inner.cells, Node.cells, r196_c, r196_ask, r219_c, r219_ask, decide_true, decide_false, hl', hl2, hv, go_sem, Nat.reduceEqDiff, reduceIte, Nat.reduceAdd, Nat.reduceLeDiff, Nat.reduceLT, Nat.reduceSub]
    exact ⟨0, _, rfl, rfl⟩
  · have e : pbytes b v = (b ++ vput v.length) ++ v := if_neg hv
    rw [e]
    have hp := vput_len (n := (v.length : Int)) (by omega) (by omega)
    have hs : vsize (v.length : Int) ≤ 4 := vsize_le _
    obtain ⟨u, ap⟩ := encU8.app_any (H := [.arr 1 0 ((b ++ vput (v.length : Int)).map (AV.int .u8))]) (id := 0) (ver := 0) (l := b ++ vput (v.length : Int)) (ys := v) (bytes := 1) rfl (by unfold maxRow; simp; omega) (by decide)
    have ap' : evAppend [.arr 1 0 ((b ++ vput (v.length : Int)).map (AV.int .u8))] 1 1 (.own 0 0 0 (b ++ vput (v.length : Int)).length) (v.map (AV.int .u8)) = some (.own 0 u 0 ((b ++ vput (v.length : Int)) ++ v).length, [.arr 1 u (((b ++ vput (v.length : Int)) ++ v).map (AV.int .u8))]) := ap
    refine FunOwn.of0R [r196, r219] told198 (by simp [il198]) (by simp [idb_patchA]) (by first | exact encI64.xs_idb _ | exact encU8.xs_idb _ | exact encNode.xs_idb _) ?_
    simp -implicitDefEqProofs only [il198, List.zipIdx_cons, List.zipIdx_nil, leafA, innerA, nodeA, patchA, Leaf.cells, Inner.cells, Node.cells, r196_c, r196_ask, r219_c, r219_ask, decide_true, decide_false, hl', hl2, hv, ap', go_sem, Nat.reduceEqDiff, reduceIte, Nat.reduceAdd, Nat.reduceLeDiff, Nat.reduceLT, Nat.reduceSub]
    exact ⟨0, _, rfl, rfl⟩
noncomputable def r198 : Reg seat := .of told198 (ask2 (fun a0' a1' => isO a0' ∧ isO a1' ∧ (dO a0').length ≤ 4290000000) fun a0' a1' => .own 1 ((pbytes (dO a0') (dO a1')).map (AV.int .u8))) (ask2_ok fun a0' a1' h => SaidOk.own (FunOwn.weak (.cons (isO.weak h.1) (.cons (isO.weak h.2.1) .nil)) (putBytes_spec _ _ h.2.2)) (by first | exact encU8.xs_idb _ | exact encI64.xs_idb _ | exact encNode.xs_idb _))
theorem r198_c : r198.c = 198 := rfl
open Classical in
theorem r198_ask (a0' a1' : AV) : r198.ask [a0', a1'] = if isO a0' ∧ isO a1' ∧ (dO a0').length ≤ 4290000000 then some (Said.own 1 ((pbytes (dO a0') (dO a1')).map (AV.int .u8))) else none := by unfold r198 Reg.of ask2; exact ite_cl

set_option maxHeartbeats 1000000 in
theorem refPutBytes_spec (b v : List Int) (hl : b.length ≤ 4290000000) : FunOwn seat 199 [octs b, octs v] 1 ((pbytes b v).map (AV.int .u8)) := by
  have hl2 : b.length ≤ 4294960000 := by omega
  have cl : ∃ v, evAppend [Entry.arr 1 0 []] 1 1 (.own 0 0 0 0) (b.map (AV.int .u8)) = some (.own 0 v 0 b.length, [.arr 1 v (b.map (AV.int .u8))]) := by
    obtain ⟨v, hv⟩ := encU8.app_any (H := [Entry.arr 1 0 (([] : List Int).map (AV.int .u8))]) (id := 0) (ver := 0) (l := []) (ys := b) (bytes := 1) rfl (by unfold maxRow; simp; omega) (by decide)
    exact ⟨v, by simpa [encU8] using hv⟩
  obtain ⟨v0, cl⟩ := cl
  have hb : evBslice ([] : List Entry) 1 0 (.int .u8 0) [] = some (.own 0 0 0 0, [.arr 1 0 []]) := rfl
  by_cases hv : (v.length : Int) > 1048576
  · have e : pbytes b v = b := if_pos hv
    rw [e]
    refine FunOwn.of0R [r220] told199 (by simp [il199]) (by simp [idb_patchA]) (by first | exact encI64.xs_idb _ | exact encU8.xs_idb _ | exact encNode.xs_idb _) ?_
    simp -implicitDefEqProofs only [il199, List.zipIdx_cons, List.zipIdx_nil, leafA, innerA, nodeA, patchA, Leaf.cells, Inner.cells, Node.cells, r220_c, r220_ask, decide_true, decide_false, hl2, hb, cl, hv, go_sem, Nat.reduceEqDiff, reduceIte, Nat.reduceAdd, Nat.reduceLeDiff, Nat.reduceLT, Nat.reduceSub]
    exact ⟨0, _, rfl, rfl⟩
  · have e : pbytes b v = (b ++ vput v.length) ++ v := if_neg hv
    rw [e]
    have hp := vput_len (n := (v.length : Int)) (by omega) (by omega)
    have hs : vsize (v.length : Int) ≤ 4 := vsize_le _
    obtain ⟨u, ap⟩ := encU8.app_any (H := [.arr 1 v0 (b.map (AV.int .u8)), .arr 1 0 ((b ++ vput (v.length : Int)).map (AV.int .u8))]) (id := 1) (ver := 0) (l := b ++ vput (v.length : Int)) (ys := v) (bytes := 1) rfl (by unfold maxRow; simp; omega) (by decide)
    have ap' : evAppend [.arr 1 v0 (b.map (AV.int .u8)), .arr 1 0 ((b ++ vput (v.length : Int)).map (AV.int .u8))] 1 1 (.own 1 0 0 (b ++ vput (v.length : Int)).length) (v.map (AV.int .u8)) = some (.own 1 u 0 ((b ++ vput (v.length : Int)) ++ v).length, [.arr 1 v0 (b.map (AV.int .u8)), .arr 1 u (((b ++ vput (v.length : Int)) ++ v).map (AV.int .u8))]) := ap
    refine FunOwn.of0R [r220] told199 (by simp [il199]) (by simp [idb_patchA]) (by first | exact encI64.xs_idb _ | exact encU8.xs_idb _ | exact encNode.xs_idb _) ?_
    simp -implicitDefEqProofs only [il199, List.zipIdx_cons, List.zipIdx_nil, leafA, innerA, nodeA, patchA, Leaf.cells, Inner.cells, Node.cells, r220_c, r220_ask, decide_true, decide_false, hl2, hb, cl, hv, ap', plainI, true_and, go_sem, Nat.reduceEqDiff, reduceIte, Nat.reduceAdd, Nat.reduceLeDiff, Nat.reduceLT, Nat.reduceSub]
    exact ⟨1, _, rfl, rfl⟩
noncomputable def r199 : Reg seat := .of told199 (ask2 (fun a0' a1' => isO a0' ∧ isO a1' ∧ (dO a0').length ≤ 4290000000) fun a0' a1' => .own 1 ((pbytes (dO a0') (dO a1')).map (AV.int .u8))) (ask2_ok fun a0' a1' h => SaidOk.own (FunOwn.weak (.cons (isO.weak h.1) (.cons (isO.weak h.2.1) .nil)) (refPutBytes_spec _ _ h.2.2)) (by first | exact encU8.xs_idb _ | exact encI64.xs_idb _ | exact encNode.xs_idb _))
theorem r199_c : r199.c = 199 := rfl
open Classical in
theorem r199_ask (a0' a1' : AV) : r199.ask [a0', a1'] = if isO a0' ∧ isO a1' ∧ (dO a0').length ≤ 4290000000 then some (Said.own 1 ((pbytes (dO a0') (dO a1')).map (AV.int .u8))) else none := by unfold r199 Reg.of ask2; exact ite_cl

theorem getBytes_spec (b : List Int) (hb : Oct b) : Fun seat 192 [octs b] (.tup [octs (gbytes b).1, octs (gbytes b).2.1, .int .i64 (gbytes b).2.2]) := by
  have h0 := vget_nat (bytes_of hb)
  have hlb := hb.1
  have hr := (vget_rest (b := b)).1
  simp only [Small] at hlb
  unfold gbytes
  rcases hv : vget b with ⟨n, r, e⟩
  rw [hv] at h0 hr
  simp only at h0 hr ⊢
  by_cases he : e = 0
  rotate_left
  · rw [if_pos he]
    refine Fun.of0R [r215] told192 (by simp [il192]) (by simp [idb_patchA]) (by simp [idb_patchA]) 4 ?_
    simp -implicitDefEqProofs only [il192, List.zipIdx_cons, List.zipIdx_nil, leafA, innerA, nodeA, patchA, Leaf.cells, Inner.cells, Node.cells, r215_c, r215_ask, decide_true, decide_false, hb, hv, he, go_sem, Nat.reduceEqDiff, reduceIte, Nat.reduceAdd, Nat.reduceLeDiff, Nat.reduceLT, Nat.reduceSub]
    try rfl
  rw [if_neg (not_not_intro he)]
  by_cases h1 : n > 1048576
  · rw [if_pos h1]
    refine Fun.of0R [r215] told192 (by simp [il192]) (by simp [idb_patchA]) (by simp [idb_patchA]) 4 ?_
    simp -implicitDefEqProofs only [il192, List.zipIdx_cons, List.zipIdx_nil, leafA, innerA, nodeA, patchA, Leaf.cells, Inner.cells, Node.cells, r215_c, r215_ask, decide_true, decide_false, hb, hv, he, h1, go_sem, Nat.reduceEqDiff, reduceIte, Nat.reduceAdd, Nat.reduceLeDiff, Nat.reduceLT, Nat.reduceSub]
    try rfl
  rw [if_neg h1]
  by_cases h2 : n > (r.length : Int)
  · rw [if_pos h2]
    refine Fun.of0R [r215] told192 (by simp [il192]) (by simp [idb_patchA]) (by simp [idb_patchA]) 4 ?_
    simp -implicitDefEqProofs only [il192, List.zipIdx_cons, List.zipIdx_nil, leafA, innerA, nodeA, patchA, Leaf.cells, Inner.cells, Node.cells, r215_c, r215_ask, decide_true, decide_false, hb, hv, he, h1, h2, go_sem, Nat.reduceEqDiff, reduceIte, Nat.reduceAdd, Nat.reduceLeDiff, Nat.reduceLT, Nat.reduceSub]
    try rfl
  rw [if_neg h2]
  have s1 := fun H => sliceTT_octs H r n h0 (by omega)
  have s2 := fun H => sliceF_octs H r n h0 (by omega)
  refine Fun.of0R [r215] told192 (by simp [il192]) (by simp [idb_patchA]) (by simp [idb_patchA]) 4 ?_
  simp -implicitDefEqProofs only [il192, List.zipIdx_cons, List.zipIdx_nil, leafA, innerA, nodeA, patchA, Leaf.cells, Inner.cells, Node.cells, r215_c, r215_ask, decide_true, decide_false, hb, hv, he, h1, h2, go_sem, Nat.reduceEqDiff, reduceIte, Nat.reduceAdd, Nat.reduceLeDiff, Nat.reduceLT, Nat.reduceSub]
  refine WP.drawQ [] [.l, .l, .l, .l, .l, .l, .l, .l, .l, .l] mixed (by decide) ?_
  simp -implicitDefEqProofs only [leafA, innerA, nodeA, patchA, Leaf.cells, Inner.cells, Node.cells, decide_true, decide_false, s1, s2, go_sem, Nat.reduceEqDiff, reduceIte, Nat.reduceAdd, Nat.reduceLeDiff, Nat.reduceLT, Nat.reduceSub]
  exact encU8.canon_tight [] 2 true _
noncomputable def r192 : Reg seat := .of told192 (ask1 (fun a0' => isO a0' ∧ Oct (dO a0')) fun a0' => .fn (.tup [octs (gbytes (dO a0')).1, octs (gbytes (dO a0')).2.1, .int .i64 (gbytes (dO a0')).2.2])) (ask1_ok fun a0' h => SaidOk.fn (Fun.weak (.cons (isO.weak h.1) .nil) (getBytes_spec _ h.2)))
theorem r192_c : r192.c = 192 := rfl
open Classical in
theorem r192_ask (a0' : AV) : r192.ask [a0'] = if isO a0' ∧ Oct (dO a0') then some (Said.fn (.tup [octs (gbytes (dO a0')).1, octs (gbytes (dO a0')).2.1, .int .i64 (gbytes (dO a0')).2.2])) else none := by unfold r192 Reg.of ask1; exact ite_cl
theorem refGetBytes_spec (b : List Int) (hb : Oct b) : Fun seat 194 [octs b] (.tup [octs (gbytes b).1, octs (gbytes b).2.1, .int .i64 (gbytes b).2.2]) := by
  have h0 := vget_nat (bytes_of hb)
  have hlb := hb.1
  have hr := (vget_rest (b := b)).1
  simp only [Small] at hlb
  unfold gbytes
  rcases hv : vget b with ⟨n, r, e⟩
  rw [hv] at h0 hr
  simp only at h0 hr ⊢
  by_cases he : e = 0
  rotate_left
  · rw [if_pos he]
    refine Fun.of0R [r217] told194 (by simp [il194]) (by simp [idb_patchA]) (by simp [idb_patchA]) 4 ?_
    simp -implicitDefEqProofs only [il194, List.zipIdx_cons, List.zipIdx_nil, leafA, innerA, nodeA, patchA, Leaf.cells, Inner.cells, Node.cells, r217_c, r217_ask, decide_true, decide_false, hb, hv, he, go_sem, Nat.reduceEqDiff, reduceIte, Nat.reduceAdd, Nat.reduceLeDiff, Nat.reduceLT, Nat.reduceSub]
    try rfl
  rw [if_neg (not_not_intro he)]
  by_cases h1 : n > 1048576
  · rw [if_pos h1]
    refine Fun.of0R [r217] told194 (by simp [il194]) (by simp [idb_patchA]) (by simp [idb_patchA]) 4 ?_
    simp -implicitDefEqProofs only [il194, List.zipIdx_cons, List.zipIdx_nil, leafA, innerA, nodeA, patchA, Leaf.cells, Inner.cells, Node.cells, r217_c, r217_ask, decide_true, decide_false, hb, hv, he, h1, go_sem, Nat.reduceEqDiff, reduceIte, Nat.reduceAdd, Nat.reduceLeDiff, Nat.reduceLT, Nat.reduceSub]
    try rfl
  rw [if_neg h1]
  by_cases h2 : n > (r.length : Int)
  · rw [if_pos h2]
    have h2' : (r.length : Int) < n := h2
    refine Fun.of0R [r217] told194 (by simp [il194]) (by simp [idb_patchA]) (by simp [idb_patchA]) 4 ?_
    simp -implicitDefEqProofs only [il194, List.zipIdx_cons, List.zipIdx_nil, leafA, innerA, nodeA, patchA, Leaf.cells, Inner.cells, Node.cells, r217_c, r217_ask, decide_true, decide_false, hb, hv, he, h1, h2', go_sem, Nat.reduceEqDiff, reduceIte, Nat.reduceAdd, Nat.reduceLeDiff, Nat.reduceLT, Nat.reduceSub]
    try rfl
  rw [if_neg h2]
  have h2' : ¬ (r.length : Int) < n := h2
  have s1 := fun H => sliceT_octs H r n h0 (by omega)
  have s2 := fun H => sliceF_octs H r n h0 (by omega)
  refine Fun.of0R [r217] told194 (by simp [il194]) (by simp [idb_patchA]) (by simp [idb_patchA]) 4 ?_
  simp -implicitDefEqProofs only [il194, List.zipIdx_cons, List.zipIdx_nil, leafA, innerA, nodeA, patchA, Leaf.cells, Inner.cells, Node.cells, r217_c, r217_ask, decide_true, decide_false, hb, hv, he, h1, h2', go_sem, Nat.reduceEqDiff, reduceIte, Nat.reduceAdd, Nat.reduceLeDiff, Nat.reduceLT, Nat.reduceSub]
  refine WP.drawQ [] [.l, .l, .l, .l, .l, .l, .l, .l, .l] mixed (by decide) ?_
  simp -implicitDefEqProofs only [leafA, innerA, nodeA, patchA, Leaf.cells, Inner.cells, Node.cells, decide_true, decide_false, s1, s2, go_sem, Nat.reduceEqDiff, reduceIte, Nat.reduceAdd, Nat.reduceLeDiff, Nat.reduceLT, Nat.reduceSub]
  try rfl
noncomputable def r194 : Reg seat := .of told194 (ask1 (fun a0' => isO a0' ∧ Oct (dO a0')) fun a0' => .fn (.tup [octs (gbytes (dO a0')).1, octs (gbytes (dO a0')).2.1, .int .i64 (gbytes (dO a0')).2.2])) (ask1_ok fun a0' h => SaidOk.fn (Fun.weak (.cons (isO.weak h.1) .nil) (refGetBytes_spec _ h.2)))
theorem r194_c : r194.c = 194 := rfl
open Classical in
theorem r194_ask (a0' : AV) : r194.ask [a0'] = if isO a0' ∧ Oct (dO a0') then some (Said.fn (.tup [octs (gbytes (dO a0')).1, octs (gbytes (dO a0')).2.1, .int .i64 (gbytes (dO a0')).2.2])) else none := by unfold r194 Reg.of ask1; exact ite_cl

theorem weak_nilO : Weak (.list true []) (octs []) = True := eq_true (.list true [])
theorem clamp4 : (clampK 4).toNat = 4 := rfl
theorem putNumF_spec (b : List Int) (n k : Int) (hl : b.length ≤ 4294960000) : Fun seat 214 [octs b, .int .i64 n, .int .i64 k] (octs (b ++ beK (clampK k).toNat n)) := (putNum_spec b n k hl).val (encU8.xs_idb _)
noncomputable def r214f : Reg seat := .of told214 (ask3 (fun a0' a1' a2' => isO a0' ∧ isI a1' ∧ isI a2' ∧ (dO a0').length ≤ 4294960000) fun a0' a1' a2' => .fn (octs ((dO a0') ++ beK (clampK (dI a2')).toNat (dI a1')))) (ask3_ok fun a0' a1' a2' h => SaidOk.fn (Fun.weak (.cons (isO.weak h.1) (.cons (isI.weak h.2.1) (.cons (isI.weak h.2.2.1) .nil))) (putNumF_spec _ _ _ h.2.2.2)))
theorem r214f_c : r214f.c = 214 := rfl
open Classical in
theorem r214f_ask (a0' a1' a2' : AV) : r214f.ask [a0', a1', a2'] = if isO a0' ∧ isI a1' ∧ isI a2' ∧ (dO a0').length ≤ 4294960000 then some (Said.fn (octs ((dO a0') ++ beK (clampK (dI a2')).toNat (dI a1')))) else none := by unfold r214f Reg.of ask3; exact ite_cl
theorem refPutNumF_spec (b : List Int) (n k : Int) (hl : b.length ≤ 4294960000) : Fun seat 221 [octs b, .int .i64 n, .int .i64 k] (octs (b ++ beK (clampK k).toNat n)) := (refPutNum_spec b n k hl).val (encU8.xs_idb _)
noncomputable def r221f : Reg seat := .of told221 (ask3 (fun a0' a1' a2' => isO a0' ∧ isI a1' ∧ isI a2' ∧ (dO a0').length ≤ 4294960000) fun a0' a1' a2' => .fn (octs ((dO a0') ++ beK (clampK (dI a2')).toNat (dI a1')))) (ask3_ok fun a0' a1' a2' h => SaidOk.fn (Fun.weak (.cons (isO.weak h.1) (.cons (isI.weak h.2.1) (.cons (isI.weak h.2.2.1) .nil))) (refPutNumF_spec _ _ _ h.2.2.2)))
theorem r221f_c : r221f.c = 221 := rfl
open Classical in
theorem r221f_ask (a0' a1' a2' : AV) : r221f.ask [a0', a1', a2'] = if isO a0' ∧ isI a1' ∧ isI a2' ∧ (dO a0').length ≤ 4294960000 then some (Said.fn (octs ((dO a0') ++ beK (clampK (dI a2')).toNat (dI a1')))) else none := by unfold r221f Reg.of ask3; exact ite_cl

set_option maxHeartbeats 1000000 in
theorem putNums_spec (b l : List Int) (hl : b.length ≤ 4290000000) (hl2 : l.length ≤ 1000000000) : FunOwn seat 197 [octs b, ints l] 1 ((pnums b l).map (AV.int .u8)) := by
  unfold pnums
  refine FunOwn.of0R [r198] told197 (by simp [il197]) (by simp [idb_patchA]) (by first | exact encI64.xs_idb _ | exact encU8.xs_idb _ | exact encNode.xs_idb _) ?_
  simp -implicitDefEqProofs only [il197, List.zipIdx_cons, List.zipIdx_nil, leafA, innerA, nodeA, patchA, Leaf.cells, Inner.cells, Node.cells, r198_c, r198_ask, decide_true, decide_false, hl, go_sem, Nat.reduceEqDiff, reduceIte, Nat.reduceAdd, Nat.reduceLeDiff, Nat.reduceLT, Nat.reduceSub]
  refine WP.weakL [(0, octs b), (5, octs []), (8, ints l), (9, .int .i64 l.length), (10, .int .i64 0)] ?_ ?_
  · simp only [upd_envL, envL_cons, Nat.reduceEqDiff, reduceIte, List.mem_cons, List.not_mem_nil, or_false, forall_eq_or_imp, forall_eq, weak_refl, weak_nilO, and_self]
  refine WP.loop0 (fun k => k ≤ l.length) (fun k => [(0, octs b), (5, octs ((l.take k).flatMap be4)), (8, ints l), (9, .int .i64 l.length), (10, .int .i64 (k : Nat))]) (fun k => l.length - k) 0 (Nat.zero_le _) (fun i _ => by simp ) (by simp ) ?_
  intro k hk
  refine wpc_soundR [r214f] ?_
  by_cases hlt : (k : Int) < (l.length : Nat)
  · have hk' : k < l.length := by omega
    have hb4 : ((l.take k).flatMap be4).length ≤ 4294960000 := by rw [be4_len, List.length_take]; omega
    have ft := flat_take hk'
    rw [← beK_4] at ft
    simp -implicitDefEqProofs only [leafA, innerA, nodeA, patchA, Leaf.cells, Inner.cells, Node.cells, r214f_c, r214f_ask, decide_true, decide_false, hlt, hb4, clamp4, fun H => index_ints H l k hk', go_sem, Nat.reduceEqDiff, reduceIte, Nat.reduceAdd, Nat.reduceLeDiff, Nat.reduceLT, Nat.reduceSub]
    exact ⟨k + 1, by omega, by omega, by simp [wrapS (show k < 9223372036854775807 by omega), ft]⟩
  · have e : k = l.length := by omega
    subst e
    rw [List.take_length]
    simp -implicitDefEqProofs only [leafA, innerA, nodeA, patchA, Leaf.cells, Inner.cells, Node.cells, r198_c, r198_ask, decide_true, decide_false, hlt, hl, go_sem, Nat.reduceEqDiff, reduceIte, Nat.reduceAdd, Nat.reduceLeDiff, Nat.reduceLT, Nat.reduceSub]
    exact ⟨0, _, rfl, rfl⟩
set_option maxHeartbeats 1000000 in
theorem refPutNums_spec (b l : List Int) (hl : b.length ≤ 4290000000) (hl2 : l.length ≤ 1000000000) : FunOwn seat 200 [octs b, ints l] 1 ((pnums b l).map (AV.int .u8)) := by
  unfold pnums
  refine FunOwn.of0R [r199] told200 (by simp [il200]) (by simp [idb_patchA]) (by first | exact encI64.xs_idb _ | exact encU8.xs_idb _ | exact encNode.xs_idb _) ?_
  simp -implicitDefEqProofs only [il200, List.zipIdx_cons, List.zipIdx_nil, leafA, innerA, nodeA, patchA, Leaf.cells, Inner.cells, Node.cells, r199_c, r199_ask, decide_true, decide_false, hl, go_sem, Nat.reduceEqDiff, reduceIte, Nat.reduceAdd, Nat.reduceLeDiff, Nat.reduceLT, Nat.reduceSub]
  refine WP.weakL [(0, octs b), (1, ints l), (5, octs []), (6, .int .i64 0)] ?_ ?_
  · simp only [upd_envL, envL_cons, Nat.reduceEqDiff, reduceIte, List.mem_cons, List.not_mem_nil, or_false, forall_eq_or_imp, forall_eq, weak_refl, weak_nilO, and_self]
  refine WP.loop0 (fun k => k ≤ l.length) (fun k => [(0, octs b), (1, ints l), (5, octs ((l.take k).flatMap be4)), (6, .int .i64 (k : Nat))]) (fun k => l.length - k) 0 (Nat.zero_le _) (fun i _ => by simp ) (by simp ) ?_
  intro k hk
  refine wpc_soundR [r221f] ?_
  by_cases hlt : (k : Int) < (l.length : Nat)
  · have hk' : k < l.length := by omega
    have hb4 : ((l.take k).flatMap be4).length ≤ 4294960000 := by rw [be4_len, List.length_take]; omega
    have ft := flat_take hk'
    rw [← beK_4] at ft
    simp -implicitDefEqProofs only [leafA, innerA, nodeA, patchA, Leaf.cells, Inner.cells, Node.cells, r221f_c, r221f_ask, decide_true, decide_false, hlt, hb4, clamp4, fun H => index_ints H l k hk', go_sem, Nat.reduceEqDiff, reduceIte, Nat.reduceAdd, Nat.reduceLeDiff, Nat.reduceLT, Nat.reduceSub]
    exact ⟨k + 1, by omega, by omega, by simp [wrapS (show k < 9223372036854775807 by omega), ft]⟩
  · have e : k = l.length := by omega
    subst e
    rw [List.take_length]
    simp -implicitDefEqProofs only [leafA, innerA, nodeA, patchA, Leaf.cells, Inner.cells, Node.cells, r199_c, r199_ask, decide_true, decide_false, hlt, hl, go_sem, Nat.reduceEqDiff, reduceIte, Nat.reduceAdd, Nat.reduceLeDiff, Nat.reduceLT, Nat.reduceSub]
    exact ⟨0, _, rfl, rfl⟩
noncomputable def r200 : Reg seat := .of told200 (ask2 (fun a0' a1' => isO a0' ∧ isS a1' ∧ (dO a0').length ≤ 4290000000 ∧ (dO a1').length ≤ 1000000000) fun a0' a1' => .own 1 ((pnums (dO a0') (dO a1')).map (AV.int .u8))) (ask2_ok fun a0' a1' h => SaidOk.own (FunOwn.weak (.cons (isO.weak h.1) (.cons (isS.weak h.2.1) .nil)) (refPutNums_spec _ _ h.2.2.1 h.2.2.2)) (by first | exact encU8.xs_idb _ | exact encI64.xs_idb _ | exact encNode.xs_idb _))
theorem r200_c : r200.c = 200 := rfl
open Classical in
theorem r200_ask (a0' a1' : AV) : r200.ask [a0', a1'] = if isO a0' ∧ isS a1' ∧ (dO a0').length ≤ 4290000000 ∧ (dO a1').length ≤ 1000000000 then some (Said.own 1 ((pnums (dO a0') (dO a1')).map (AV.int .u8))) else none := by unfold r200 Reg.of ask2; exact ite_cl
theorem chunk_spec (v : List Int) (n : Int) (hn : n = 4) : Fun seat 216 [octs v, .int .i64 n] (.func (.f 233) [] [.iptr [octs v] 0, .iptr [.int .i64 n] 0]) := by
  subst hn
  refine Fun.of0W told216 (by simp [il216]) (by simp ) (by simp ) 0 ?_
  simp only [il216, List.zipIdx_cons, List.zipIdx_nil, Nat.zero_add, List.map_cons, List.map_nil]
  refine WP.seqR [] fun K hK => ?_
  simp -implicitDefEqProofs only [leafA, innerA, nodeA, patchA, Leaf.cells, Inner.cells, Node.cells, decide_true, decide_false, go_sem, Nat.reduceEqDiff, reduceIte, Nat.reduceAdd, Nat.reduceLeDiff, Nat.reduceLT, Nat.reduceSub]
  refine hK _ (WP.sealB 2 0 rfl rfl (WP.sealB 3 1 rfl rfl ?_))
  clear hK K
  refine wpc_soundR [] ?_
  simp -implicitDefEqProofs only [leafA, innerA, nodeA, patchA, Leaf.cells, Inner.cells, Node.cells, decide_true, decide_false, Int.reduceLT, go_sem, Nat.reduceEqDiff, reduceIte, Nat.reduceAdd, Nat.reduceLeDiff, Nat.reduceLT, Nat.reduceSub]
  rfl
noncomputable def r216 : Reg seat := .of told216 (ask2 (fun a0' a1' => isO a0' ∧ isI a1' ∧ (dI a1') = 4) fun a0' a1' => .fn (.func (.f 233) [] [.iptr [octs (dO a0')] 0, .iptr [.int .i64 (dI a1')] 0])) (ask2_ok fun a0' a1' h => SaidOk.fn (Fun.weak (.cons (isO.weak h.1) (.cons (isI.weak h.2.1) .nil)) (chunk_spec _ _ h.2.2)))
theorem r216_c : r216.c = 216 := rfl
open Classical in
theorem r216_ask (a0' a1' : AV) : r216.ask [a0', a1'] = if isO a0' ∧ isI a1' ∧ (dI a1') = 4 then some (Said.fn (.func (.f 233) [] [.iptr [octs (dO a0')] 0, .iptr [.int .i64 (dI a1')] 0])) else none := by unfold r216 Reg.of ask2; exact ite_cl

theorem Enc.sliceFTT {α : Type} (E : Enc α) (H : List Entry) (l : List α) (a b : Int) (h0 : 0 ≤ a) (h1 : a ≤ b) (h : b.toNat ≤ l.length) : evSlice H E.sz (E.row l) (some (.int .i64 a)) (some (.int .i64 b)) (some (.int .i64 b)) = some (.list true (((l.take b.toNat).drop a.toNat).map E.f)) := by
  have hb : 0 ≤ b := by omega
  have hab : a.toNat ≤ b.toNat := by omega
  simp [Enc.row, evSlice, evBound, h0, h, hb, hab, E.lenOk, List.map_take, List.map_drop]
def fours (v : List Int) (k : Nat) : List Int := (v.drop (4 * k)).take 4
theorem fours_len {v : List Int} {k : Nat} (h : 4 * (k + 1) ≤ v.length) : (fours v k).length = 4 := by unfold fours; rw [List.length_take, List.length_drop]; omega
def chunks (v : List Int) : List AV := (List.range (v.length / 4)).map fun k => .list true ((fours v k).map (AV.int .u8))
theorem chunks_len (v : List Int) : (chunks v).length = v.length / 4 := by simp [chunks]
theorem chunks_at (v : List Int) (k : Nat) (h : k < (chunks v).length) : (chunks v)[k] = .list true ((fours v k).map (AV.int .u8)) := by simp [chunks]

theorem chunkIter (v : List Int) (hl : v.length ≤ 140737488355328) (h4 : v.length % 4 = 0) : Gives seat 233 [.iptr [octs v] 0, .iptr [.int .i64 4] 0] (chunks v) := by
  intro id H0 J Jx h0 hround
  rw [chunks_len] at *
  refine ACall.of_wp told233 (by simp [il233]) (wpc_sound ?_)
  rw [start_env]
  simp only [il233, List.zipIdx_cons, List.zipIdx_nil, Nat.zero_add, List.cons_append, List.nil_append, go_sem, Nat.reduceEqDiff, reduceIte, Nat.reduceAdd, Nat.reduceLeDiff, Nat.reduceLT, Nat.reduceSub]
  refine WP.loopJ (fun k : Nat => [(0, .func (.y id) [] []), (1, .iptr [octs v] 0), (2, .iptr [.int .i64 4] 0), (4, .int .i64 ((4 * k : Nat) : Int))]) (fun k H => k ≤ v.length / 4 ∧ J k H) (fun k => v.length / 4 - k) 0 (by simp ) ⟨Nat.zero_le _, h0⟩ ?_
  rintro k H ⟨hk, hj⟩
  refine wpc_soundR [] ?_
  by_cases hlt : ((4 * k : Nat) : Int) < (v.length : Nat)
  · have hk' : k < v.length / 4 := by omega
    have hr := hround k (by rw [chunks_len]; exact hk') H hj
    rw [chunks_at _ _ (by rw [chunks_len]; exact hk')] at hr
    have s1 : ∀ H, evSlice H 1 (octs v) (some (.int .i64 ((4 * k : Nat) : Int))) none none = some (octs (v.drop (4 * k))) := fun H => by
      have := sliceF_octs H v ((4 * k : Nat) : Int) (by omega) (by simp; omega)
      rwa [Int.toNat_natCast] at this
    have l1 : ((v.drop (4 * k)).length : Int) ≥ 4 := by rw [List.length_drop]; omega
    have l2 : ¬ ((v.drop (4 * k)).length : Int) < 4 := by omega
    have w1 : IntKind.i64.wrap (((4 * k : Nat) : Int) + 4) = ((4 * (k + 1) : Nat) : Int) := by rw [wrap64 _ (by omega) (by omega)]; omega
    have s2 : ∀ H, evSlice H 1 (octs v) (some (.int .i64 ((4 * k : Nat) : Int))) (some (.int .i64 ((4 * (k + 1) : Nat) : Int))) (some (.int .i64 ((4 * (k + 1) : Nat) : Int))) = some (.list true ((fours v k).map (AV.int .u8))) := fun H => by
      have := encU8.sliceFTT H v ((4 * k : Nat) : Int) ((4 * (k + 1) : Nat) : Int) (by omega) (by omega) (by omega)
      rw [Int.toNat_natCast, Int.toNat_natCast, List.drop_take, show 4 * (k + 1) - 4 * k = 4 by omega] at this
      exact this
    simp -implicitDefEqProofs only [leafA, innerA, nodeA, patchA, Leaf.cells, Inner.cells, Node.cells, decide_true, decide_false, hlt, go_sem, Nat.reduceEqDiff, reduceIte, Nat.reduceAdd, Nat.reduceLeDiff, Nat.reduceLT, Nat.reduceSub]
    refine WP.drawQ [] [.l, .l, .l, .l, .l, .l, .l] mixed (by decide) ?_
    simp -implicitDefEqProofs only [leafA, innerA, nodeA, patchA, Leaf.cells, Inner.cells, Node.cells, decide_true, decide_false, s1, l2, w1, s2, go_sem, Nat.reduceEqDiff, reduceIte, Nat.reduceAdd, Nat.reduceLeDiff, Nat.reduceLT, Nat.reduceSub]
    refine Callee.yld hr ?_
    rintro r H' (⟨rfl, hj'⟩ | ⟨rfl, hx⟩)
    · simp -implicitDefEqProofs only [leafA, innerA, nodeA, patchA, Leaf.cells, Inner.cells, Node.cells, decide_true, decide_false, w1, go_sem, Nat.reduceEqDiff, reduceIte, Nat.reduceAdd, Nat.reduceLeDiff, Nat.reduceLT, Nat.reduceSub]
      exact ⟨k + 1, ⟨by omega, hj'⟩, by omega, by simp ⟩
    · simp -implicitDefEqProofs only [leafA, innerA, nodeA, patchA, Leaf.cells, Inner.cells, Node.cells, decide_true, decide_false, w1, go_sem, Nat.reduceEqDiff, reduceIte, Nat.reduceAdd, Nat.reduceLeDiff, Nat.reduceLT, Nat.reduceSub]
      exact .inr hx
  · have e : k = v.length / 4 := by omega
    subst e
    simp -implicitDefEqProofs only [leafA, innerA, nodeA, patchA, Leaf.cells, Inner.cells, Node.cells, decide_true, decide_false, hlt, go_sem, Nat.reduceEqDiff, reduceIte, Nat.reduceAdd, Nat.reduceLeDiff, Nat.reduceLT, Nat.reduceSub]
    exact .inl hj

theorem chunkIterL (v : List Int) (hl : v.length ≤ 140737488355328) (h4 : v.length % 4 = 0) : GivesL seat 233 [.iptr [octs v] 0, .iptr [.int .i64 4] 0] ((chunks v).map fun x => [x]) := .of (chunkIter v hl h4)
theorem gnum_fours {v : List Int} {k : Nat} (h : 4 * (k + 1) ≤ v.length) : gnum 4 (fours v k) = (num (fours v k), [], 0) := by
  have := fours_len h
  unfold gnum
  rw [if_neg (by omega), List.take_of_length_le (by omega), List.drop_eq_nil_of_le (by omega)]
theorem fours_oct {v : List Int} (h : Oct v) (k : Nat) : Oct (fours v k) := by
  have := h.1
  simp only [Small] at this
  refine ⟨?_, fun x hx => h.2 x (List.mem_of_mem_drop (List.mem_of_mem_take hx))⟩
  simp only [Small, fours, List.length_take, List.length_drop]; omega
theorem seen_end (e1 e2 : Entry) (T : List Entry) (x : AV) : seen (e1 :: e2 :: (T ++ [.arr 1 0 [x]])) (.own (T.length + 1 + 1) 0 0 1) = some [x] := by simp [seen]

set_option maxHeartbeats 2000000 in
theorem getNums_spec (b : List Int) (hb : Oct b) (hl : b.length ≤ 4294967295) : Fun seat 193 [octs b] (.tup [ints (gnums b).1, octs (gnums b).2.1, .int .i64 (gnums b).2.2]) := by
  have ho := gbytes_oct hb
  have hsub := (gbytes_sub b).1.1
  unfold gnums
  rcases hv : gbytes b with ⟨v, r, e⟩
  rw [hv] at ho hsub
  simp only at ho hsub ⊢
  by_cases he : e = 0
  rotate_left
  · rw [if_pos he]
    refine Fun.of0R [r192, r216] told193 (by simp [il193]) (by simp [idb_patchA]) (by simp [idb_patchA]) 4 ?_
    simp -implicitDefEqProofs only [il193, List.zipIdx_cons, List.zipIdx_nil, leafA, innerA, nodeA, patchA, Leaf.cells, Inner.cells, Node.cells, r192_c, r192_ask, r216_c, r216_ask, decide_true, decide_false, hb, hv, he, go_sem, Nat.reduceEqDiff, reduceIte, Nat.reduceAdd, Nat.reduceLeDiff, Nat.reduceLT, Nat.reduceSub]
    try rfl
  rw [if_neg (not_not_intro he)]
  have rm : ((v.length : Int)).tmod 4 = ((v.length % 4 : Nat) : Int) := by rw [Int.tmod_eq_emod_of_nonneg (by omega)]; omega
  by_cases h4 : v.length % 4 = 0
  rotate_left
  · rw [if_pos h4]
    have h4' : ¬ ((v.length % 4 : Nat) : Int) = 0 := by omega
    refine Fun.of0R [r192, r216] told193 (by simp [il193]) (by simp [idb_patchA]) (by simp [idb_patchA]) 4 ?_
    simp -implicitDefEqProofs only [il193, List.zipIdx_cons, List.zipIdx_nil, leafA, innerA, nodeA, patchA, Leaf.cells, Inner.cells, Node.cells, r192_c, r192_ask, r216_c, r216_ask, decide_true, decide_false, hb, hv, he, rm, h4', Int.reduceEq, go_sem, Nat.reduceEqDiff, reduceIte, Nat.reduceAdd, Nat.reduceLeDiff, Nat.reduceLT, Nat.reduceSub]
    try rfl
  rw [if_neg (not_not_intro h4)]
  have h4' : ((v.length % 4 : Nat) : Int) = 0 := by omega
  refine Fun.of0R [r192, r216] told193 (by simp [il193]) (by simp [idb_patchA]) (by simp [idb_patchA]) 4 ?_
  simp -implicitDefEqProofs only [il193, List.zipIdx_cons, List.zipIdx_nil, leafA, innerA, nodeA, patchA, Leaf.cells, Inner.cells, Node.cells, r192_c, r192_ask, r216_c, r216_ask, decide_true, decide_false, hb, hv, he, rm, h4', Int.reduceEq, go_sem, Nat.reduceEqDiff, reduceIte, Nat.reduceAdd, Nat.reduceLeDiff, Nat.reduceLT, Nat.reduceSub]
  refine WP.adoptB 0 0 1 rfl rfl ?_
  have nl := fun k => num4_len (v.take (4 * k)) (by rw [List.length_take]; omega)
  refine WP.rangeL (c := 233) (cap := [.iptr [octs v] 0, .iptr [.int .i64 4] 0]) ((chunks v).map fun x => [x]) (by simp only [go_sem, Nat.reduceEqDiff, reduceIte, Nat.reduceAdd, Nat.reduceLeDiff, Nat.reduceLT, Nat.reduceSub]) (Callable.of told233) (chunkIterL v (by omega) h4) (fun x hx => by obtain ⟨k, _, rfl⟩ := List.mem_map.1 hx; rfl)
    (fun k => [.box [.own 1 k 0 (num4 (v.take (4 * k))).length], .arr 1 k ((num4 (v.take (4 * k))).map (AV.int .i64))]) (fun _ => True) (fun _ => rfl) trivial rfl ?_ ?_
  · intro k hk hp l T b' hb'
    have hk' : k < v.length / 4 := by simpa [chunks] using hk
    have h4k : 4 * (k + 1) ≤ v.length := by omega
    rw [List.getElem_map, chunks_at]
    have gn := gnum_fours h4k
    have fo := fours_oct ho.1 k
    have n4 := num4_step h4k
    rw [show (v.drop (4 * k)).take 4 = fours v k from rfl] at n4
    have hbd : (num4 (v.take (4 * k))).length + 1 ≤ maxRow := by rw [nl, List.length_take]; unfold maxRow; omega
    refine wpc_sound ?_
    simp only [setPs, go_sem, Nat.reduceEqDiff, reduceIte, Nat.reduceAdd, Nat.reduceLeDiff, Nat.reduceLT, Nat.reduceSub]
    refine ⟨[], (List.append_nil _).symm, fun T' hT' => wpc_soundR [r212] ?_⟩
    simp -implicitDefEqProofs only [leafA, innerA, nodeA, patchA, Leaf.cells, Inner.cells, Node.cells, r212_c, r212_ask, decide_true, decide_false, fo, clamp4, gn, List.append_nil, List.cons_append, List.nil_append, seen_end, hbd, go_sem, Nat.reduceEqDiff, reduceIte, Nat.reduceAdd, Nat.reduceLeDiff, Nat.reduceLT, Nat.reduceSub]
    refine ⟨[_, _], _, rfl, rfl, fun i hi => List.getElem?_append_left hi, trivial, ?_⟩
    simp only [n4]
  · intro hp T
    rw [List.length_map, chunks_len, show 4 * (v.length / 4) = v.length by omega, List.take_length]
    simp only [go_sem, Nat.reduceEqDiff, reduceIte, Nat.reduceAdd, Nat.reduceLeDiff, Nat.reduceLT, Nat.reduceSub]
noncomputable def r193 : Reg seat := .of told193 (ask1 (fun a0' => isO a0' ∧ Oct (dO a0') ∧ (dO a0').length ≤ 4294967295) fun a0' => .fn (.tup [ints (gnums (dO a0')).1, octs (gnums (dO a0')).2.1, .int .i64 (gnums (dO a0')).2.2])) (ask1_ok fun a0' h => SaidOk.fn (Fun.weak (.cons (isO.weak h.1) .nil) (getNums_spec _ h.2.1 h.2.2)))
theorem r193_c : r193.c = 193 := rfl
open Classical in
theorem r193_ask (a0' : AV) : r193.ask [a0'] = if isO a0' ∧ Oct (dO a0') ∧ (dO a0').length ≤ 4294967295 then some (Said.fn (.tup [ints (gnums (dO a0')).1, octs (gnums (dO a0')).2.1, .int .i64 (gnums (dO a0')).2.2])) else none := by unfold r193 Reg.of ask1; exact ite_cl

set_option maxHeartbeats 2000000 in
theorem refGetNums_spec (b : List Int) (hb : Oct b) (hl : b.length ≤ 4294967295) : Fun seat 195 [octs b] (.tup [ints (gnums b).1, octs (gnums b).2.1, .int .i64 (gnums b).2.2]) := by
  have ho := gbytes_oct hb
  have hsub := (gbytes_sub b).1.1
  unfold gnums
  rcases hv : gbytes b with ⟨v, r, e⟩
  rw [hv] at ho hsub
  simp only at ho hsub ⊢
  by_cases he : e = 0
  rotate_left
  · rw [if_pos he]
    refine Fun.of0R [r194] told195 (by simp [il195]) (by simp [idb_patchA]) (by simp [idb_patchA]) 4 ?_
    simp -implicitDefEqProofs only [il195, List.zipIdx_cons, List.zipIdx_nil, leafA, innerA, nodeA, patchA, Leaf.cells, Inner.cells, Node.cells, r194_c, r194_ask, decide_true, decide_false, hb, hv, he, go_sem, Nat.reduceEqDiff, reduceIte, Nat.reduceAdd, Nat.reduceLeDiff, Nat.reduceLT, Nat.reduceSub]
    try rfl
  rw [if_neg (not_not_intro he)]
  have rm : ((v.length : Int)).tmod 4 = ((v.length % 4 : Nat) : Int) := by rw [Int.tmod_eq_emod_of_nonneg (by omega)]; omega
  by_cases h4 : v.length % 4 = 0
  rotate_left
  · rw [if_pos h4]
    have h4' : ¬ ((v.length % 4 : Nat) : Int) = 0 := by omega
    refine Fun.of0R [r194] told195 (by simp [il195]) (by simp [idb_patchA]) (by simp [idb_patchA]) 4 ?_
    simp -implicitDefEqProofs only [il195, List.zipIdx_cons, List.zipIdx_nil, leafA, innerA, nodeA, patchA, Leaf.cells, Inner.cells, Node.cells, r194_c, r194_ask, decide_true, decide_false, hb, hv, he, rm, h4', Int.reduceEq, go_sem, Nat.reduceEqDiff, reduceIte, Nat.reduceAdd, Nat.reduceLeDiff, Nat.reduceLT, Nat.reduceSub]
    try rfl
  rw [if_neg (not_not_intro h4)]
  have h4' : ((v.length % 4 : Nat) : Int) = 0 := by omega
  refine Fun.of0R [r194] told195 (by simp [il195]) (by simp [idb_patchA]) (by simp [idb_patchA]) 4 ?_
  simp -implicitDefEqProofs only [il195, List.zipIdx_cons, List.zipIdx_nil, leafA, innerA, nodeA, patchA, Leaf.cells, Inner.cells, Node.cells, r194_c, r194_ask, decide_true, decide_false, hb, hv, he, rm, h4', Int.reduceEq, go_sem, Nat.reduceEqDiff, reduceIte, Nat.reduceAdd, Nat.reduceLeDiff, Nat.reduceLT, Nat.reduceSub]
  refine WP.adopt 8 1 (by simp ) ?_
  rw [upd_envL]
  have nl := fun k => num4_len (v.take (4 * k)) (by rw [List.length_take]; omega)
  refine WP.loopG (fun k : Nat => 4 * k ≤ v.length) (fun k => [(5, octs (v.drop (4 * k))), (6, octs r), (8, .own 0 k 0 (num4 (v.take (4 * k))).length)]) (fun k => [.arr 1 k ((num4 (v.take (4 * k))).map (AV.int .i64))]) (fun k => v.length - 4 * k) 0 (Nat.zero_le _)
    (fun k _ => ⟨by simp, by simp [idb_patchA], fun e he => by (simp only [List.mem_cons, List.not_mem_nil, or_false] at he); (rcases he with rfl | rfl | rfl | rfl | rfl | rfl) <;> first | exact encNode.entB _ _ _ _ | exact encI64.entB _ _ _ _ | exact encU8.entB _ _ _ _ | simp ⟩) (by simp [num4]) ?_
  intro k hk
  refine wpc_soundR [r218] ?_
  by_cases hlt : ((v.drop (4 * k)).length : Int) > 0
  · have h4k : 4 * (k + 1) ≤ v.length := by rw [List.length_drop] at hlt; omega
    have gn : gnum 4 (v.drop (4 * k)) = (num (fours v k), v.drop (4 * (k + 1)), 0) := by
      unfold gnum
      rw [if_neg (by rw [List.length_drop]; omega), List.drop_drop, show 4 * k + 4 = 4 * (k + 1) by omega]
      rfl
    have fo : Oct (v.drop (4 * k)) := by
      have := ho.1.1
      simp only [Small] at this
      exact ⟨by simp only [Small, List.length_drop]; omega, fun x hx => ho.1.2 x (List.mem_of_mem_drop hx)⟩
    have n4 := num4_step h4k
    rw [show (v.drop (4 * k)).take 4 = fours v k from rfl] at n4
    have hbd : (num4 (v.take (4 * k))).length + 1 ≤ maxRow := by rw [nl, List.length_take]; unfold maxRow; omega
    simp -implicitDefEqProofs only [leafA, innerA, nodeA, patchA, Leaf.cells, Inner.cells, Node.cells, r218_c, r218_ask, decide_true, decide_false, hlt, fo, clamp4, gn, hbd, go_sem, Nat.reduceEqDiff, reduceIte, Nat.reduceAdd, Nat.reduceLeDiff, Nat.reduceLT, Nat.reduceSub]
    exact ⟨k + 1, h4k, by omega, by simp [n4], by simp [n4]⟩
  · have e : 4 * k = v.length := by rw [List.length_drop] at hlt; omega
    rw [e] at hlt
    simp -implicitDefEqProofs only [leafA, innerA, nodeA, patchA, Leaf.cells, Inner.cells, Node.cells, r194_c, r194_ask, decide_true, decide_false, hlt, e, List.take_length, go_sem, Nat.reduceEqDiff, reduceIte, Nat.reduceAdd, Nat.reduceLeDiff, Nat.reduceLT, Nat.reduceSub]
noncomputable def r195 : Reg seat := .of told195 (ask1 (fun a0' => isO a0' ∧ Oct (dO a0') ∧ (dO a0').length ≤ 4294967295) fun a0' => .fn (.tup [ints (gnums (dO a0')).1, octs (gnums (dO a0')).2.1, .int .i64 (gnums (dO a0')).2.2])) (ask1_ok fun a0' h => SaidOk.fn (Fun.weak (.cons (isO.weak h.1) .nil) (refGetNums_spec _ h.2.1 h.2.2)))
theorem r195_c : r195.c = 195 := rfl
open Classical in
theorem r195_ask (a0' : AV) : r195.ask [a0'] = if isO a0' ∧ Oct (dO a0') ∧ (dO a0').length ≤ 4294967295 then some (Said.fn (.tup [ints (gnums (dO a0')).1, octs (gnums (dO a0')).2.1, .int .i64 (gnums (dO a0')).2.2])) else none := by unfold r195 Reg.of ask1; exact ite_cl
theorem inner3 (l : List Int) : (∃ i ∈ l, i < 0 ∨ i > 63) = ∃ j, ∃ h : j < l.length, l[j] < 0 ∨ l[j] > 63 := by
  apply propext
  constructor
  · rintro ⟨i, hi, h⟩
    obtain ⟨j, hj, rfl⟩ := List.getElem_of_mem hi
    exact ⟨j, hj, h⟩
  · rintro ⟨j, hj, h⟩
    exact ⟨_, List.getElem_mem hj, h⟩
theorem inner8 (l : List Int) : (rise l ≠ l) = ∃ j, ∃ h : j + 1 < l.length, l[j] ≥ l[j + 1] := by
  apply propext
  rw [ne_eq, rise_eq_iff, rises_iff_step]
  simp only [Classical.not_forall, Int.not_lt, ge_iff_le]

theorem innerCheck5 (l : Inner) (h : l.enc.length = 0) : innerCheck l = 5 := by rw [innerCheck, if_pos h]
theorem innerCheck4 (l : Inner) (h : ¬ l.enc.length = 0) (h1 : l.enc.length > 200 ∨ l.hash.length > 200 ∨ l.unmerged.length > 64) : innerCheck l = 4 := by rw [innerCheck, if_neg h, if_pos h1]
theorem innerCheck3 (l : Inner) (h : ¬ l.enc.length = 0) (h1 : ¬ (l.enc.length > 200 ∨ l.hash.length > 200 ∨ l.unmerged.length > 64)) (k : Nat) (hk : k < l.unmerged.length) (h2 : l.unmerged[k] < 0 ∨ l.unmerged[k] > 63) : innerCheck l = 3 := by
  rw [innerCheck, if_neg h, if_neg h1, if_pos]
  exact ⟨_, List.getElem_mem hk, h2⟩
theorem innerCheck8 (l : Inner) (h : ¬ l.enc.length = 0) (h1 : ¬ (l.enc.length > 200 ∨ l.hash.length > 200 ∨ l.unmerged.length > 64)) (h2 : ∀ j (h : j < l.unmerged.length), ¬ (l.unmerged[j] < 0 ∨ l.unmerged[j] > 63)) (k : Nat) (hk : k + 1 < l.unmerged.length) (h3 : l.unmerged[k] ≥ l.unmerged[k + 1]) : innerCheck l = 8 := by
  rw [innerCheck, if_neg h, if_neg h1, if_neg, if_pos]
  · rw [inner8]; exact ⟨k, hk, h3⟩
  · rw [inner3]; rintro ⟨j, hj, hh⟩; exact h2 j hj hh
theorem innerCheck0 (l : Inner) (h : ¬ l.enc.length = 0) (h1 : ¬ (l.enc.length > 200 ∨ l.hash.length > 200 ∨ l.unmerged.length > 64)) (h2 : ∀ j (h : j < l.unmerged.length), ¬ (l.unmerged[j] < 0 ∨ l.unmerged[j] > 63)) (h3 : ∀ j (h : j + 1 < l.unmerged.length), l.unmerged[j] < l.unmerged[j + 1]) : innerCheck l = 0 := by
  rw [innerCheck, if_neg h, if_neg h1, if_neg, if_neg]
  · rw [inner8]; rintro ⟨j, hj, hh⟩; have := h3 j hj; omega
  · rw [inner3]; rintro ⟨j, hj, hh⟩; exact h2 j hj hh

theorem refInnerCheck_spec (l : Inner) (hl : l.Ok) : Fun seat 165 [innerA l] (.int .i64 (innerCheck l)) := by
  have hu := hl.unmerged.len
  have c5 := innerCheck5 l
  have c4 := innerCheck4 l
  have c3 := innerCheck3 l
  have c8 := innerCheck8 l
  have c0 := innerCheck0 l
  generalize innerCheck l = r at *
  refine Fun.of0R [] told165 (by simp [il165]) (by simp [idb_patchA]) (by simp [idb_patchA]) 4 ?_
  simp only [il165, List.zipIdx_cons, List.zipIdx_nil, leafA, innerA, nodeA, patchA, Leaf.cells, Inner.cells, Node.cells, go_sem, Nat.reduceEqDiff, reduceIte, Nat.reduceAdd, Nat.reduceLeDiff, Nat.reduceLT, Nat.reduceSub]
  iterate 12 ((all_goals intros); (all_goals try refine And.intro ?_ ?_))
  all_goals first | (show WP _ _ _ _ _ _ _) | grind
  have h0 : ¬ l.enc.length = 0 := by omega
  have h1 : ¬ (l.enc.length > 200 ∨ l.hash.length > 200 ∨ l.unmerged.length > 64) := by omega
  replace c3 := c3 h0 h1
  replace c8 := c8 h0 h1
  replace c0 := c0 h0 h1
  refine WP.loopG (fun k => k ≤ l.unmerged.length ∧ ∀ j (h : j < l.unmerged.length), j < k → ¬ (l.unmerged[j] < 0 ∨ l.unmerged[j] > 63)) (fun k => [(1, .ptr 0 0), (3, .int .i64 k)]) (fun k => [.box [octs l.enc, octs l.hash, ints l.unmerged]]) (fun k => l.unmerged.length - k) 0 ⟨Nat.zero_le _, fun j _ h => absurd h (Nat.not_lt_zero j)⟩ (fun k _ => by simp [idb_patchA]) (by simp ) ?_
  rintro k ⟨hk, hno⟩
  refine wpc_soundR [] ?_
  simp only [leafA, innerA, nodeA, patchA, Leaf.cells, Inner.cells, Node.cells, go_sem, Nat.reduceEqDiff, reduceIte, Nat.reduceAdd, Nat.reduceLeDiff, Nat.reduceLT, Nat.reduceSub]
  refine ⟨fun hlt => ?_, fun hge => ?_⟩
  · have hk' : k < l.unmerged.length := by omega
    simp only [leafA, innerA, nodeA, patchA, Leaf.cells, Inner.cells, Node.cells, fun H => index_ints H l.unmerged k hk', go_sem, Nat.reduceEqDiff, reduceIte, Nat.reduceAdd, Nat.reduceLeDiff, Nat.reduceLT, Nat.reduceSub]
    replace c3 := c3 k hk'
    clear c8 c0
    iterate 12 ((all_goals intros); (all_goals try refine And.intro ?_ ?_))
    all_goals first | (show WP _ _ _ _ _ _ _) | exact ⟨k + 1, ⟨hk', scanS hno fun _ => by grind⟩, by omega, by simp [wrapS (show k < 9223372036854775807 by omega)]⟩ | grind
  · have hno1 := scanE hno hge
    clear hno hge hk c3
    replace c8 := c8 hno1
    replace c0 := c0 hno1
    refine WP.loopG (fun k => k ≤ l.unmerged.length ∧ ∀ j (h : j < l.unmerged.length - 1), j < k → l.unmerged[j] < l.unmerged[j + 1]) (fun k => [(1, .ptr 0 0), (4, .int .i64 (k + 1 : Nat))]) (fun _ => [.box [octs l.enc, octs l.hash, ints l.unmerged]]) (fun k => l.unmerged.length - k) 0 ⟨Nat.zero_le _, fun j _ h => by omega⟩
      (fun k _ => by simp ) (by simp ) ?_
    rintro k ⟨hk, hno⟩
    refine wpc_soundR [] ?_
    simp only [leafA, innerA, nodeA, patchA, Leaf.cells, Inner.cells, Node.cells, go_sem, Nat.reduceEqDiff, reduceIte, Nat.reduceAdd, Nat.reduceLeDiff, Nat.reduceLT, Nat.reduceSub]
    refine ⟨fun hlt => ?_, fun hge => ?_⟩
    · have hk' : k + 1 < l.unmerged.length := by omega
      refine WP.drawR [] mixed (by decide) ?_
      simp only [leafA, innerA, nodeA, patchA, Leaf.cells, Inner.cells, Node.cells, fun H => index_ints H l.unmerged k (by omega), fun H => index_ints H l.unmerged (k + 1) hk', show IntKind.i64.wrap (((k + 1 : Nat) : Int) - 1) = (k : Int) by rw [wrap64 _ (by omega) (by omega)]; omega, go_sem, Nat.reduceEqDiff, reduceIte, Nat.reduceAdd, Nat.reduceLeDiff, Nat.reduceLT, Nat.reduceSub]
      replace c8 := c8 k hk'
      clear c0
      iterate 12 ((all_goals intros); (all_goals try refine And.intro ?_ ?_))
      all_goals first | exact ⟨k + 1, ⟨by omega, scanS hno fun _ => by omega⟩, by omega, by simp [wrap64s ((k : Int) + 1 + 1) (by omega)]⟩ | grind
    · exact (c0 fun j hj => hno j (by omega) (by omega)).symm
noncomputable def r165 : Reg seat := .of told165 (ask1 (fun a0' => isIn a0' ∧ (dIn a0').Ok) fun a0' => .fn (.int .i64 (innerCheck (dIn a0')))) (ask1_ok fun a0' h => SaidOk.fn (Fun.weak (.cons (isIn.weak h.1) .nil) (refInnerCheck_spec _ h.2)))
theorem r165_c : r165.c = 165 := rfl
open Classical in
theorem r165_ask (a0' : AV) : r165.ask [a0'] = if isIn a0' ∧ (dIn a0').Ok then some (Said.fn (.int .i64 (innerCheck (dIn a0')))) else none := by unfold r165 Reg.of ask1; exact ite_cl
theorem pbytes_len (b v : List Int) : (pbytes b v).length ≤ b.length + 1048580 := by
  unfold pbytes
  split
  · omega
  · have hp := vput_len (n := (v.length : Int)) (by omega) (by omega)
    have hs := vsize_le (v.length : Int)
    simp only [List.length_append]; omega
theorem innerCheck_64 {n : Inner} (h : innerCheck n = 0) : n.unmerged.length ≤ 1000000000 := by have := (innerCheck_zero h).2.2.1; omega
theorem putBytesF_spec (b v : List Int) (hl : b.length ≤ 4290000000) : Fun seat 198 [octs b, octs v] (octs (pbytes b v)) := (putBytes_spec b v hl).val (encU8.xs_idb _)
noncomputable def r198f : Reg seat := .of told198 (ask2 (fun a0' a1' => isO a0' ∧ isO a1' ∧ (dO a0').length ≤ 4290000000) fun a0' a1' => .fn (octs (pbytes (dO a0') (dO a1')))) (ask2_ok fun a0' a1' h => SaidOk.fn (Fun.weak (.cons (isO.weak h.1) (.cons (isO.weak h.2.1) .nil)) (putBytesF_spec _ _ h.2.2)))
theorem r198f_c : r198f.c = 198 := rfl
open Classical in
theorem r198f_ask (a0' a1' : AV) : r198f.ask [a0', a1'] = if isO a0' ∧ isO a1' ∧ (dO a0').length ≤ 4290000000 then some (Said.fn (octs (pbytes (dO a0') (dO a1')))) else none := by unfold r198f Reg.of ask2; exact ite_cl
theorem putNumsF_spec (b l : List Int) (hl : b.length ≤ 4290000000) (hl2 : l.length ≤ 1000000000) : Fun seat 197 [octs b, ints l] (octs (pnums b l)) := (putNums_spec b l hl hl2).val (encU8.xs_idb _)
noncomputable def r197f : Reg seat := .of told197 (ask2 (fun a0' a1' => isO a0' ∧ isS a1' ∧ (dO a0').length ≤ 4290000000 ∧ (dO a1').length ≤ 1000000000) fun a0' a1' => .fn (octs (pnums (dO a0') (dO a1')))) (ask2_ok fun a0' a1' h => SaidOk.fn (Fun.weak (.cons (isO.weak h.1) (.cons (isS.weak h.2.1) .nil)) (putNumsF_spec _ _ h.2.2.1 h.2.2.2)))
theorem r197f_c : r197f.c = 197 := rfl
open Classical in
theorem r197f_ask (a0' a1' : AV) : r197f.ask [a0', a1'] = if isO a0' ∧ isS a1' ∧ (dO a0').length ≤ 4290000000 ∧ (dO a1').length ≤ 1000000000 then some (Said.fn (octs (pnums (dO a0') (dO a1')))) else none := by unfold r197f Reg.of ask2; exact ite_cl
theorem cloneOF_spec (b : List Int) (hl : b.length ≤ 4294967295) : Fun seat 196 [octs b] (octs b) := (cloneO_spec b hl).val (encU8.xs_idb _)
noncomputable def r196f : Reg seat := .of told196 (ask1 (fun a0' => isO a0' ∧ (dO a0').length ≤ 4294967295) fun a0' => .fn (octs (dO a0'))) (ask1_ok fun a0' h => SaidOk.fn (Fun.weak (.cons (isO.weak h.1) .nil) (cloneOF_spec _ h.2)))
theorem r196f_c : r196f.c = 196 := rfl
open Classical in
theorem r196f_ask (a0' : AV) : r196f.ask [a0'] = if isO a0' ∧ (dO a0').length ≤ 4294967295 then some (Said.fn (octs (dO a0'))) else none := by unfold r196f Reg.of ask1; exact ite_cl

set_option maxHeartbeats 1000000 in
theorem iput_spec (b : List Int) (n : Inner) (hb : b.length ≤ 4280000000) (hn : n.Ok) : Fun seat 183 [octs b, innerA n] (octs (iput b n)) := by
  have b0 : b.length ≤ 4294967295 := by omega
  by_cases hc : innerCheck n = 0
  rotate_left
  · have e : iput b n = b := if_pos hc
    rw [e]
    refine Fun.of0R [r147, r196f] told183 (by simp [il183]) (by simp [idb_patchA]) (by simp [idb_patchA]) 4 ?_
    simp -implicitDefEqProofs only [il183, List.zipIdx_cons, List.zipIdx_nil, leafA, innerA, nodeA, patchA, Leaf.cells, Inner.cells, Node.cells, r147_c, r147_ask, r196f_c, r196f_ask, decide_true, decide_false, hn, hc, b0, go_sem, Nat.reduceEqDiff, reduceIte, Nat.reduceAdd, Nat.reduceLeDiff, Nat.reduceLT, Nat.reduceSub]
  have e : iput b n = pnums (pbytes (pbytes b n.enc) n.hash) n.unmerged := if_neg (not_not_intro hc)
  rw [e]
  have l1 := pbytes_len b n.enc
  have l2 := pbytes_len (pbytes b n.enc) n.hash
  have b1 : b.length ≤ 4290000000 := by omega
  have b2 : (pbytes b n.enc).length ≤ 4290000000 := by omega
  have b3 : (pbytes (pbytes b n.enc) n.hash).length ≤ 4290000000 := by omega
  have b4 := innerCheck_64 hc
  refine Fun.of0R [r147] told183 (by simp [il183]) (by simp [idb_patchA]) (by simp [idb_patchA]) 4 ?_
  simp -implicitDefEqProofs only [il183, List.zipIdx_cons, List.zipIdx_nil, leafA, innerA, nodeA, patchA, Leaf.cells, Inner.cells, Node.cells, r147_c, r147_ask, decide_true, decide_false, hn, hc, go_sem, Nat.reduceEqDiff, reduceIte, Nat.reduceAdd, Nat.reduceLeDiff, Nat.reduceLT, Nat.reduceSub]
  refine WP.drawQ [r198f, r197f] [.l, .g 0 0, .g 0 0, .l, .g 0 0, .g 0 0, .l, .g 0 0, .g 0 0, .l, .l] mixed (by decide) ?_
  simp -implicitDefEqProofs only [leafA, innerA, nodeA, patchA, Leaf.cells, Inner.cells, Node.cells, r198f_c, r198f_ask, r197f_c, r197f_ask, decide_true, decide_false, b1, b2, b3, b4, go_sem, Nat.reduceEqDiff, reduceIte, Nat.reduceAdd, Nat.reduceLeDiff, Nat.reduceLT, Nat.reduceSub]
noncomputable def r183 : Reg seat := .of told183 (ask2 (fun a0' a1' => isO a0' ∧ isIn a1' ∧ (dO a0').length ≤ 4280000000 ∧ (dIn a1').Ok) fun a0' a1' => .fn (octs (iput (dO a0') (dIn a1')))) (ask2_ok fun a0' a1' h => SaidOk.fn (Fun.weak (.cons (isO.weak h.1) (.cons (isIn.weak h.2.1) .nil)) (iput_spec _ _ h.2.2.1 h.2.2.2)))
theorem r183_c : r183.c = 183 := rfl
open Classical in
theorem r183_ask (a0' a1' : AV) : r183.ask [a0', a1'] = if isO a0' ∧ isIn a1' ∧ (dO a0').length ≤ 4280000000 ∧ (dIn a1').Ok then some (Said.fn (octs (iput (dO a0') (dIn a1')))) else none := by unfold r183 Reg.of ask2; exact ite_cl
set_option maxHeartbeats 1000000 in
theorem refIput_spec (b : List Int) (n : Inner) (hb : b.length ≤ 4280000000) (hn : n.Ok) : Fun seat 184 [octs b, innerA n] (octs (iput b n)) := by
  have b0 : b.length ≤ 4294967295 := by omega
  have cl : ∃ v, evAppend [.box [octs n.enc, octs n.hash, ints n.unmerged], Entry.arr 1 0 []] 1 1 (.own 1 0 0 0) (b.map (AV.int .u8)) = some (.own 1 v 0 b.length, [.box [octs n.enc, octs n.hash, ints n.unmerged], .arr 1 v (b.map (AV.int .u8))]) := by
    obtain ⟨v, hv⟩ := encU8.app_any (H := [.box [octs n.enc, octs n.hash, ints n.unmerged], Entry.arr 1 0 (([] : List Int).map (AV.int .u8))]) (id := 1) (ver := 0) (l := []) (ys := b) (bytes := 1) rfl (by unfold maxRow; simp; omega) (by decide)
    exact ⟨v, by simpa [encU8] using hv⟩
  obtain ⟨v0, cl⟩ := cl
  have hb0 : ∀ e : Entry, evBslice [e] 1 0 (.int .u8 0) [] = some (.own 1 0 0 0, [e, .arr 1 0 []]) := fun _ => rfl
  by_cases hc : innerCheck n = 0
  rotate_left
  · have e : iput b n = b := if_pos hc
    rw [e]
    refine Fun.of0R [r165] told184 (by simp [il184]) (by simp [idb_patchA]) (by simp [idb_patchA]) 4 ?_
    simp -implicitDefEqProofs only [il184, List.zipIdx_cons, List.zipIdx_nil, leafA, innerA, nodeA, patchA, Leaf.cells, Inner.cells, Node.cells, r165_c, r165_ask, decide_true, decide_false, hn, hc, cl, hb0, go_sem, Nat.reduceEqDiff, reduceIte, Nat.reduceAdd, Nat.reduceLeDiff, Nat.reduceLT, Nat.reduceSub]
  have e : iput b n = pnums (pbytes (pbytes b n.enc) n.hash) n.unmerged := if_neg (not_not_intro hc)
  rw [e]
  have l1 := pbytes_len b n.enc
  have l2 := pbytes_len (pbytes b n.enc) n.hash
  have b1 : b.length ≤ 4290000000 := by omega
  have b2 : (pbytes b n.enc).length ≤ 4290000000 := by omega
  have b3 : (pbytes (pbytes b n.enc) n.hash).length ≤ 4290000000 := by omega
  have b4 := innerCheck_64 hc
  refine Fun.of0R [r165, r199, r200] told184 (by simp [il184]) (by simp [idb_patchA]) (by simp [idb_patchA]) 4 ?_
  simp -implicitDefEqProofs only [il184, List.zipIdx_cons, List.zipIdx_nil, leafA, innerA, nodeA, patchA, Leaf.cells, Inner.cells, Node.cells, r165_c, r165_ask, r199_c, r199_ask, r200_c, r200_ask, decide_true, decide_false, hn, hc, cl, hb0, b1, b2, b3, b4, plainI, true_and, go_sem, Nat.reduceEqDiff, reduceIte, Nat.reduceAdd, Nat.reduceLeDiff, Nat.reduceLT, Nat.reduceSub]
noncomputable def r184 : Reg seat := .of told184 (ask2 (fun a0' a1' => isO a0' ∧ isIn a1' ∧ (dO a0').length ≤ 4280000000 ∧ (dIn a1').Ok) fun a0' a1' => .fn (octs (iput (dO a0') (dIn a1')))) (ask2_ok fun a0' a1' h => SaidOk.fn (Fun.weak (.cons (isO.weak h.1) (.cons (isIn.weak h.2.1) .nil)) (refIput_spec _ _ h.2.2.1 h.2.2.2)))
theorem r184_c : r184.c = 184 := rfl
open Classical in
theorem r184_ask (a0' a1' : AV) : r184.ask [a0', a1'] = if isO a0' ∧ isIn a1' ∧ (dO a0').length ≤ 4280000000 ∧ (dIn a1').Ok then some (Said.fn (octs (iput (dO a0') (dIn a1')))) else none := by unfold r184 Reg.of ask2; exact ite_cl

theorem num4_bd : ∀ {v : List Int}, Bytes v → ∀ x ∈ num4 v, 0 ≤ x ∧ x ≤ 4294967295
  | [], _, x, hx => by cases hx
  | [_], _, x, hx => by cases hx
  | [_, _], _, x, hx => by cases hx
  | [_, _, _], _, x, hx => by cases hx
  | a :: b :: c :: d :: r, hb, x, hx => by
    simp only [num4, List.mem_cons] at hx
    rcases hx with rfl | hx
    · have := num_bd4 (l := [a, b, c, d]) (fun y hy => hb y (by simp at hy ⊢; rcases hy with h | h | h | h <;> simp [h])) (by simp)
      omega
    · exact num4_bd (v := r) (fun y hy => hb y (by simp [hy])) x hx
theorem gnums_nums {b : List Int} (h : Oct b) : Nums (gnums b).1 := by
  have ho := (gbytes_oct h).1
  unfold gnums
  split
  · exact .nil
  · split
    · exact .nil
    · rename_i h4
      refine ⟨?_, fun x hx => ?_⟩
      · have := ho.1
        simp only [Small] at this ⊢
        rw [num4_len _ (by omega)]; omega
      · have := num4_bd (bytes_of ho) x hx
        have e1 : IntKind.i64.min = -9223372036854775808 := rfl
        have e2 : IntKind.i64.max = 9223372036854775807 := rfl
        omega

set_option maxHeartbeats 2000000 in
theorem iget_spec (b : List Int) (hb : Oct b) (hl : b.length ≤ 4294967295) : Fun seat 181 [octs b] (.tup [innerA (iget b).1, octs (iget b).2.1, .int .i64 (iget b).2.2]) := by
  have ho := gbytes_oct hb
  have hs1 := (gbytes_sub b).2.1
  rcases h1 : gbytes b with ⟨x, r, e⟩
  rw [h1] at ho hs1
  have ho2 := gbytes_oct ho.2
  have hs2 := (gbytes_sub r).2.1
  simp only at ho hs1
  rcases h2 : gbytes r with ⟨y, s, f⟩
  rw [h2] at ho2 hs2
  have ho3 := gnums_nums ho2.2
  simp only at ho2 hs2
  rcases h3 : gnums s with ⟨l, t, g⟩
  rw [h3] at ho3
  simp only at ho3
  have o1 := ho.2
  have o2 := ho2.2
  have ok : Inner.Ok ⟨x, y, l⟩ := ⟨ho.1, ho2.1, ho3⟩
  have m1 : s.length ≤ 4294967295 := by omega
  rw [iget_eq h1 h2 h3]
  by_cases he : e = 0
  rotate_left
  · rw [if_pos he]
    refine Fun.of0R [r192, r193, r147] told181 (by simp [il181]) (by simp [idb_patchA]) (by simp [idb_patchA]) 4 ?_
    simp -implicitDefEqProofs only [il181, List.zipIdx_cons, List.zipIdx_nil, leafA, innerA, nodeA, patchA, Leaf.cells, Inner.cells, Node.cells, r192_c, r192_ask, r193_c, r193_ask, r147_c, r147_ask, decide_true, decide_false, hb, h1, he, go_sem, Nat.reduceEqDiff, reduceIte, Nat.reduceAdd, Nat.reduceLeDiff, Nat.reduceLT, Nat.reduceSub]
    exact ⟨rfl, rfl, rfl⟩
  rw [if_neg (not_not_intro he)]
  by_cases hf : f = 0
  rotate_left
  · rw [if_pos hf]
    refine Fun.of0R [r192, r193, r147] told181 (by simp [il181]) (by simp [idb_patchA]) (by simp [idb_patchA]) 4 ?_
    simp -implicitDefEqProofs only [il181, List.zipIdx_cons, List.zipIdx_nil, leafA, innerA, nodeA, patchA, Leaf.cells, Inner.cells, Node.cells, r192_c, r192_ask, r193_c, r193_ask, r147_c, r147_ask, decide_true, decide_false, hb, h1, he, o1, h2, hf, go_sem, Nat.reduceEqDiff, reduceIte, Nat.reduceAdd, Nat.reduceLeDiff, Nat.reduceLT, Nat.reduceSub]
    exact ⟨rfl, rfl, rfl⟩
  rw [if_neg (not_not_intro hf)]
  by_cases hg : g = 0
  rotate_left
  · rw [if_pos hg]
    refine Fun.of0R [r192, r193, r147] told181 (by simp [il181]) (by simp [idb_patchA]) (by simp [idb_patchA]) 4 ?_
    simp -implicitDefEqProofs only [il181, List.zipIdx_cons, List.zipIdx_nil, leafA, innerA, nodeA, patchA, Leaf.cells, Inner.cells, Node.cells, r192_c, r192_ask, r193_c, r193_ask, r147_c, r147_ask, decide_true, decide_false, hb, h1, he, o1, h2, hf, o2, h3, hg, m1, go_sem, Nat.reduceEqDiff, reduceIte, Nat.reduceAdd, Nat.reduceLeDiff, Nat.reduceLT, Nat.reduceSub]
    exact ⟨rfl, rfl, rfl⟩
  rw [if_neg (not_not_intro hg)]
  by_cases hc : innerCheck ⟨x, y, l⟩ = 0
  rotate_left
  · rw [if_pos hc]
    refine Fun.of0R [r192, r193, r147] told181 (by simp [il181]) (by simp [idb_patchA]) (by simp [idb_patchA]) 4 ?_
    simp -implicitDefEqProofs only [il181, List.zipIdx_cons, List.zipIdx_nil, leafA, innerA, nodeA, patchA, Leaf.cells, Inner.cells, Node.cells, r192_c, r192_ask, r193_c, r193_ask, r147_c, r147_ask, decide_true, decide_false, hb, h1, he, o1, h2, hf, o2, h3, hg, m1, ok, hc, go_sem, Nat.reduceEqDiff, reduceIte, Nat.reduceAdd, Nat.reduceLeDiff, Nat.reduceLT, Nat.reduceSub]
    exact ⟨rfl, rfl, rfl⟩
  rw [if_neg (not_not_intro hc)]
  refine Fun.of0R [r192, r193, r147] told181 (by simp [il181]) (by simp [idb_patchA]) (by simp [idb_patchA]) 4 ?_
  simp -implicitDefEqProofs only [il181, List.zipIdx_cons, List.zipIdx_nil, leafA, innerA, nodeA, patchA, Leaf.cells, Inner.cells, Node.cells, r192_c, r192_ask, r193_c, r193_ask, r147_c, r147_ask, decide_true, decide_false, hb, h1, he, o1, h2, hf, o2, h3, hg, m1, ok, hc, go_sem, Nat.reduceEqDiff, reduceIte, Nat.reduceAdd, Nat.reduceLeDiff, Nat.reduceLT, Nat.reduceSub]
noncomputable def r181 : Reg seat := .of told181 (ask1 (fun a0' => isO a0' ∧ Oct (dO a0') ∧ (dO a0').length ≤ 4294967295) fun a0' => .fn (.tup [innerA (iget (dO a0')).1, octs (iget (dO a0')).2.1, .int .i64 (iget (dO a0')).2.2])) (ask1_ok fun a0' h => SaidOk.fn (Fun.weak (.cons (isO.weak h.1) .nil) (iget_spec _ h.2.1 h.2.2)))
theorem r181_c : r181.c = 181 := rfl
open Classical in
theorem r181_ask (a0' : AV) : r181.ask [a0'] = if isO a0' ∧ Oct (dO a0') ∧ (dO a0').length ≤ 4294967295 then some (Said.fn (.tup [innerA (iget (dO a0')).1, octs (iget (dO a0')).2.1, .int .i64 (iget (dO a0')).2.2])) else none := by unfold r181 Reg.of ask1; exact ite_cl
set_option maxHeartbeats 2000000 in
theorem refIget_spec (b : List Int) (hb : Oct b) (hl : b.length ≤ 4294967295) : Fun seat 182 [octs b] (.tup [innerA (iget b).1, octs (iget b).2.1, .int .i64 (iget b).2.2]) := by
  have ho := gbytes_oct hb
  have hs1 := (gbytes_sub b).2.1
  rcases h1 : gbytes b with ⟨x, r, e⟩
  rw [h1] at ho hs1
  have ho2 := gbytes_oct ho.2
  have hs2 := (gbytes_sub r).2.1
  simp only at ho hs1
  rcases h2 : gbytes r with ⟨y, s, f⟩
  rw [h2] at ho2 hs2
  have ho3 := gnums_nums ho2.2
  simp only at ho2 hs2
  rcases h3 : gnums s with ⟨l, t, g⟩
  rw [h3] at ho3
  simp only at ho3
  have o1 := ho.2
  have o2 := ho2.2
  have ok : Inner.Ok ⟨x, y, l⟩ := ⟨ho.1, ho2.1, ho3⟩
  have m1 : s.length ≤ 4294967295 := by omega
  rw [iget_eq h1 h2 h3]
  by_cases he : e = 0
  rotate_left
  · rw [if_pos he]
    refine Fun.of0R [r194, r195, r165] told182 (by simp [il182]) (by simp [idb_patchA]) (by simp [idb_patchA]) 4 ?_
    simp -implicitDefEqProofs only [il182, List.zipIdx_cons, List.zipIdx_nil, leafA, innerA, nodeA, patchA, Leaf.cells, Inner.cells, Node.cells, r194_c, r194_ask, r195_c, r195_ask, r165_c, r165_ask, decide_true, decide_false, hb, h1, he, go_sem, Nat.reduceEqDiff, reduceIte, Nat.reduceAdd, Nat.reduceLeDiff, Nat.reduceLT, Nat.reduceSub]
    exact ⟨rfl, rfl, rfl⟩
  rw [if_neg (not_not_intro he)]
  by_cases hf : f = 0
  rotate_left
  · rw [if_pos hf]
    refine Fun.of0R [r194, r195, r165] told182 (by simp [il182]) (by simp [idb_patchA]) (by simp [idb_patchA]) 4 ?_
    simp -implicitDefEqProofs only [il182, List.zipIdx_cons, List.zipIdx_nil, leafA, innerA, nodeA, patchA, Leaf.cells, Inner.cells, Node.cells, r194_c, r194_ask, r195_c, r195_ask, r165_c, r165_ask, decide_true, decide_false, hb, h1, he, o1, h2, hf, go_sem, Nat.reduceEqDiff, reduceIte, Nat.reduceAdd, Nat.reduceLeDiff, Nat.reduceLT, Nat.reduceSub]
    exact ⟨rfl, rfl, rfl⟩
  rw [if_neg (not_not_intro hf)]
  by_cases hg : g = 0
  rotate_left
  · rw [if_pos hg]
    refine Fun.of0R [r194, r195, r165] told182 (by simp [il182]) (by simp [idb_patchA]) (by simp [idb_patchA]) 4 ?_
    simp -implicitDefEqProofs only [il182, List.zipIdx_cons, List.zipIdx_nil, leafA, innerA, nodeA, patchA, Leaf.cells, Inner.cells, Node.cells, r194_c, r194_ask, r195_c, r195_ask, r165_c, r165_ask, decide_true, decide_false, hb, h1, he, o1, h2, hf, o2, h3, hg, m1, go_sem, Nat.reduceEqDiff, reduceIte, Nat.reduceAdd, Nat.reduceLeDiff, Nat.reduceLT, Nat.reduceSub]
    exact ⟨rfl, rfl, rfl⟩
  rw [if_neg (not_not_intro hg)]
  by_cases hc : innerCheck ⟨x, y, l⟩ = 0
  rotate_left
  · rw [if_pos hc]
    refine Fun.of0R [r194, r195, r165] told182 (by simp [il182]) (by simp [idb_patchA]) (by simp [idb_patchA]) 4 ?_
    simp -implicitDefEqProofs only [il182, List.zipIdx_cons, List.zipIdx_nil, leafA, innerA, nodeA, patchA, Leaf.cells, Inner.cells, Node.cells, r194_c, r194_ask, r195_c, r195_ask, r165_c, r165_ask, decide_true, decide_false, hb, h1, he, o1, h2, hf, o2, h3, hg, m1, ok, hc, go_sem, Nat.reduceEqDiff, reduceIte, Nat.reduceAdd, Nat.reduceLeDiff, Nat.reduceLT, Nat.reduceSub]
    refine WP.drawQ [r165] [.g 0 0, .g 0 0, .l, .h 0, .l, .l] mixed (by decide) ?_
    simp -implicitDefEqProofs only [leafA, innerA, nodeA, patchA, Leaf.cells, Inner.cells, Node.cells, r165_c, r165_ask, decide_true, decide_false, ok, go_sem, Nat.reduceEqDiff, reduceIte, Nat.reduceAdd, Nat.reduceLeDiff, Nat.reduceLT, Nat.reduceSub]
    exact ⟨rfl, rfl, rfl⟩
  rw [if_neg (not_not_intro hc)]
  refine Fun.of0R [r194, r195, r165] told182 (by simp [il182]) (by simp [idb_patchA]) (by simp [idb_patchA]) 4 ?_
  simp -implicitDefEqProofs only [il182, List.zipIdx_cons, List.zipIdx_nil, leafA, innerA, nodeA, patchA, Leaf.cells, Inner.cells, Node.cells, r194_c, r194_ask, r195_c, r195_ask, r165_c, r165_ask, decide_true, decide_false, hb, h1, he, o1, h2, hf, o2, h3, hg, m1, ok, hc, go_sem, Nat.reduceEqDiff, reduceIte, Nat.reduceAdd, Nat.reduceLeDiff, Nat.reduceLT, Nat.reduceSub]
noncomputable def r182 : Reg seat := .of told182 (ask1 (fun a0' => isO a0' ∧ Oct (dO a0') ∧ (dO a0').length ≤ 4294967295) fun a0' => .fn (.tup [innerA (iget (dO a0')).1, octs (iget (dO a0')).2.1, .int .i64 (iget (dO a0')).2.2])) (ask1_ok fun a0' h => SaidOk.fn (Fun.weak (.cons (isO.weak h.1) .nil) (refIget_spec _ h.2.1 h.2.2)))
theorem r182_c : r182.c = 182 := rfl
open Classical in
theorem r182_ask (a0' : AV) : r182.ask [a0'] = if isO a0' ∧ Oct (dO a0') ∧ (dO a0').length ≤ 4294967295 then some (Said.fn (.tup [innerA (iget (dO a0')).1, octs (iget (dO a0')).2.1, .int .i64 (iget (dO a0')).2.2])) else none := by unfold r182 Reg.of ask1; exact ite_cl
end Go.Proofs.YtihhinbjhiankaaGreatDoor.Al

set_option linter.unusedSimpArgs false
set_option linter.unusedVariables false
namespace Go.Proofs.YtihhinbjhiankaaGreatDoor.Al
open Go

section
variable {S : Seat} {T : List (Reg S)} {env : Env} {d : Option Nat} {op : IOp} {l : List IOper} {Q : St → Prop} {labs : List Lab} {k : Nat} {Ps : List (List Entry)} {rs : List Pend} {H : List Entry} {g : Nat} {b : Lab}
theorem qgrdW_tt : qgrdW S T (.bool true) true d op g l b labs k Ps rs Q env H = drawW S T (⟨d, op, none, []⟩ :: l) (b :: labs) k Ps rs Q ⟨env, H⟩ := by rw [qgrdW_b]; simp
end
end Go.Proofs.YtihhinbjhiankaaGreatDoor.Al

set_option linter.unusedSimpArgs false
set_option linter.unusedVariables false
namespace Go.Proofs.YtihhinbjhiankaaGreatDoor.Al
open Go

theorem iget_ok {b : List Int} (hb : Oct b) : (iget b).1.Ok := by
  have ho := gbytes_oct hb
  rcases h1 : gbytes b with ⟨x, r, e⟩
  rw [h1] at ho
  have ho2 := gbytes_oct ho.2
  simp only at ho
  rcases h2 : gbytes r with ⟨y, s, f⟩
  rw [h2] at ho2
  have ho3 := gnums_nums ho2.2
  simp only at ho2
  rcases h3 : gnums s with ⟨l, t, g⟩
  rw [h3] at ho3
  simp only at ho3
  rw [iget_eq h1 h2 h3]
  split
  · exact .zero
  · split
    · exact .zero
    · split
      · exact .zero
      · split
        · exact .zero
        · exact ⟨ho.1, ho2.1, ho3⟩
end Go.Proofs.YtihhinbjhiankaaGreatDoor.Al

set_option linter.unusedSimpArgs false
set_option linter.unusedVariables false
namespace Go.Proofs.YtihhinbjhiankaaGreatDoor.Al
open Go
attribute [local go_sem] W_mv W_pick W_alloc W_box W_build W_bslice W_load W_store W_bin W_isnil W_un W_convI W_convS W_mkiface W_mkfunc W_slice W_faddr W_iaddr W_idxA W_extract W_len W_min W_max W_append thenQ_normal thenQ_exit thenQ_ret blockQ_normal blockQ_ret blockQ_exit wpc_skip wpc_region wpc_draw wpc_seq wpc_cond wpc_block wpc_exit wpc_ret wpc_loop wpc_range condW_true condW_false condW_dec condW_any W_nil W_call resW_some evalOp Opd.ev updo_envL updo_none setL_cons setL_nil envL_cons Option.map_some Option.bind_some evBin evInt List.map_cons List.map_nil Option.pure_def Option.bind_eq_bind W_grd' grdW_tt grdW_ff grdW_tf grdW_ft grdW_tup grdW_dt grdW_df L_mv L_load L_bin L_un L_faddr L_iaddr L_nil L_call lresW_some upd_envL evUn beq_dec bne_dec leaves_ret1 leaves_ret0 leaves_end0 rowLen_ints load_iptr0 not_dec heap_get0 heap_get1 heap_set0 heap_set1 heap_len1 heap_app bslice1_int seen_one0 Nat.sub_zero Bool.not_true Bool.not_false List.length_nil List.length_cons List.nil_append List.cons_append Nat.zero_add canon_ptrI canon_bool canon_tup canon_agg canon_ints' canon_ints0 rowLen_octs seen_octs canon_octs' rowLen_nodes canon_nodes' rowLen_nodes0 rowLen_nodes3 seen_list cells_int oneIn_int cells_bool oneIn_bool cells_list oneIn_list cells_func oneIn_func cells_own cells_ptr cells_agg oneIn_own0 oneIn_own1 seenL1 seenM1 oneIn_ptr2 seenL2 oneIn_own3 seenL3 cells_ints oneIn_ints cells_octs oneIn_octs cells_nodes oneIn_nodes ldB0 ldA0 adB0 stB0 ldB1 ldA1 adB1 stB1 ldB2 ldA2 adB2 stB2 ldB3 stB3 List.getElem?_cons_zero List.getElem?_cons_succ beq_self_eq_true splice List.take_zero List.take_succ_cons List.drop_zero List.drop_succ_cons List.append_nil List.set_cons_zero List.set_cons_succ List.all_cons List.all_nil Bool.and_self and_self and_true true_and Nat.lt_irrefl Nat.zero_lt_one Nat.le_refl fillA evNil notA Bool.false_eq_true evMin_int evMax_int Option.map_none freezeP_all_nil freezeP_all_cons frzE_box frzE_arr foldA List.foldlM_cons List.foldlM_nil callW_f lcallW_f ansW_fn ansW_own lansW_fn ansW_none tab_cons tab_nil dI_int dB_bool dO_octs dO_ints dO_list dO_nil dN_nodeA dLf_agg dIn_agg dN_agg dNs_nodes dNs_nil isI_int isB_bool isO_octs isO_nil isO_list isS_ints isS_nil isNs_nodes isNs_nil isN_nodeA isLf_agg isIn_agg isN_agg leaf_eta inner_eta node_eta leaf_zero inner_zero decide_eq_true_eq decide_eq_false_iff_not eq_self forall_const true_implies false_implies Bool.not_eq_true' Bool.not_eq_false' Bool.true_eq_false implies_true ne_eq ldI ldIA adI AV.tup.injEq AV.agg.injEq List.cons.injEq AV.int.injEq AV.bool.injEq nodes_inj octs_inj ints_inj nil_nodes nil_octs nil_ints canon_nilL decide_eq_decide two_ne four_ne b256_ne lendA_own lendA_none isO_own false_and and_false Q_nil Q_l Q_g Q_h Q_grd qgrdW_b lightD_some heavyD_some readD_some fnD_some callL_f Q_call pendOk_nil pendOk_cons pastOk_nil Q_mv Q_pick Q_bin Q_extract Q_min Q_load Q_slice Q_len H_store free_mv free_pick free_bin free_extract free_min free_load free_slice free_len callW_y List.length_map List.length_set leaves_r evR_some evRess1 evRess2 evRess3 evRes_t evRes_c nz_kind nz_enc nz_cred nz_source nz_parent nz_ienc nz_hash nz_un true_or or_true bsl_node appI appO canon_rowI canon_rowO not_false_eq_true not_true_eq_false ldE_a ldE_c adE_b stE_b onP_b
attribute [local go_sem low] condW_b ldP adP stP onO
attribute [local simp] envL_cons envL_nil idb_int idb_bool idb_ints idb_nil idb_own idb_ptr idb_octs idb_nodes idb_leafA idb_innerA idb_nodeA idb_agg idb_tup idb_iptr idb_fn entB_dead entB_box
def lput (b : List Int) (l : Leaf) : List Int := if leafCheck l ≠ 0 then b else if l.source = 3 then pbytes (pbytes (pbytes b l.enc) l.cred ++ beK 1 l.source) l.parent else pbytes (pbytes b l.enc) l.cred ++ beK 1 l.source
def fput (b : List Int) (f : Bool) : List Int := b ++ beK 1 (if f then 1 else 0)
def knownN (n : Node) : Node := if nodeCheck n ≠ 0 then .zero else n
def laidI (k : Int) (n : Node) (b : List Int) : List Int := if n.kind = k then iput (fput b true) n.inner else fput b false
def laidNL (k : Int) (n : Node) (b : List Int) : List Int := if n.kind = k then lput (fput b true) n.leaf else fput b false
def nput (b : List Int) (n : Node) : List Int :=
  if (knownN n).kind = 2 then iput (fput b true ++ beK 1 2) (knownN n).inner else if (knownN n).kind = 1 then lput (fput b true ++ beK 1 1) (knownN n).leaf else fput b false
theorem clamp1 : (clampK 1).toNat = 1 := rfl
theorem beK1_len (n : Int) : (beK 1 n).length = 1 := beK_len 1 n
theorem fput_len (b : List Int) (f : Bool) : (fput b f).length = b.length + 1 := by unfold fput; rw [List.length_append, beK1_len]

set_option maxHeartbeats 1000000 in
theorem lput_spec (b : List Int) (l : Leaf) (hb : b.length ≤ 4270000000) (hl : l.Ok) : Fun seat 225 [octs b, leafA l] (octs (lput b l)) := by
  have b0 : b.length ≤ 4294967295 := by omega
  by_cases hc : leafCheck l = 0
  rotate_left
  · have e : lput b l = b := if_pos hc
    rw [e]
    refine Fun.of0R [r146, r196f] told225 (by simp [il225]) (by simp [idb_patchA]) (by simp [idb_patchA]) 4 ?_
    simp -implicitDefEqProofs only [il225, List.zipIdx_cons, List.zipIdx_nil, leafA, innerA, nodeA, patchA, Leaf.cells, Inner.cells, Node.cells, r146_c, r146_ask, r196f_c, r196f_ask, decide_true, decide_false, hl, hc, b0, go_sem, Nat.reduceEqDiff, reduceIte, Nat.reduceAdd, Nat.reduceLeDiff, Nat.reduceLT, Nat.reduceSub]
  have l1 := pbytes_len b l.enc
  have l2 := pbytes_len (pbytes b l.enc) l.cred
  have b1 : b.length ≤ 4290000000 := by omega
  have b2 : (pbytes b l.enc).length ≤ 4290000000 := by omega
  have b3 : (pbytes (pbytes b l.enc) l.cred).length ≤ 4294960000 := by omega
  have b4 : (pbytes (pbytes b l.enc) l.cred ++ beK 1 l.source).length ≤ 4290000000 := by rw [List.length_append, beK1_len]; omega
  have e : lput b l = if l.source = 3 then pbytes (pbytes (pbytes b l.enc) l.cred ++ beK 1 l.source) l.parent else pbytes (pbytes b l.enc) l.cred ++ beK 1 l.source := if_neg (not_not_intro hc)
  rw [e]
  by_cases hs : l.source = 3
  · rw [if_pos hs]
    refine Fun.of0R [r146, r198f] told225 (by simp [il225]) (by simp [idb_patchA]) (by simp [idb_patchA]) 4 ?_
    simp -implicitDefEqProofs only [il225, List.zipIdx_cons, List.zipIdx_nil, leafA, innerA, nodeA, patchA, Leaf.cells, Inner.cells, Node.cells, r146_c, r146_ask, r198f_c, r198f_ask, decide_true, decide_false, hl, hc, go_sem, Nat.reduceEqDiff, reduceIte, Nat.reduceAdd, Nat.reduceLeDiff, Nat.reduceLT, Nat.reduceSub]
    refine WP.drawQ [r198f, r214f] [.l, .g 0 0, .g 0 0, .l, .g 0 0, .g 0 0, .l, .g 0 0, .g 0 0, .l, .l] mixed (by decide) ?_
    rw [hs] at b4
    simp -implicitDefEqProofs only [leafA, innerA, nodeA, patchA, Leaf.cells, Inner.cells, Node.cells, r198f_c, r198f_ask, r214f_c, r214f_ask, r146_c, r146_ask, decide_true, decide_false, b1, b2, b3, b4, clamp1, hs, go_sem, Nat.reduceEqDiff, reduceIte, Nat.reduceAdd, Nat.reduceLeDiff, Nat.reduceLT, Nat.reduceSub]
  · rw [if_neg hs]
    refine Fun.of0R [r146, r198f] told225 (by simp [il225]) (by simp [idb_patchA]) (by simp [idb_patchA]) 4 ?_
    simp -implicitDefEqProofs only [il225, List.zipIdx_cons, List.zipIdx_nil, leafA, innerA, nodeA, patchA, Leaf.cells, Inner.cells, Node.cells, r146_c, r146_ask, r198f_c, r198f_ask, decide_true, decide_false, hl, hc, go_sem, Nat.reduceEqDiff, reduceIte, Nat.reduceAdd, Nat.reduceLeDiff, Nat.reduceLT, Nat.reduceSub]
    refine WP.drawQ [r198f, r214f] [.l, .g 0 0, .g 0 0, .l, .g 0 0, .g 0 0, .l, .g 0 0, .g 0 0, .l, .l] mixed (by decide) ?_
    simp -implicitDefEqProofs only [leafA, innerA, nodeA, patchA, Leaf.cells, Inner.cells, Node.cells, r198f_c, r198f_ask, r214f_c, r214f_ask, r146_c, r146_ask, decide_true, decide_false, b1, b2, b3, b4, clamp1, hs, go_sem, Nat.reduceEqDiff, reduceIte, Nat.reduceAdd, Nat.reduceLeDiff, Nat.reduceLT, Nat.reduceSub]
noncomputable def r225 : Reg seat := .of told225 (ask2 (fun a0' a1' => isO a0' ∧ isLf a1' ∧ (dO a0').length ≤ 4270000000 ∧ (dLf a1').Ok) fun a0' a1' => .fn (octs (lput (dO a0') (dLf a1')))) (ask2_ok fun a0' a1' h => SaidOk.fn (Fun.weak (.cons (isO.weak h.1) (.cons (isLf.weak h.2.1) .nil)) (lput_spec _ _ h.2.2.1 h.2.2.2)))
theorem r225_c : r225.c = 225 := rfl
open Classical in
theorem r225_ask (a0' a1' : AV) : r225.ask [a0', a1'] = if isO a0' ∧ isLf a1' ∧ (dO a0').length ≤ 4270000000 ∧ (dLf a1').Ok then some (Said.fn (octs (lput (dO a0') (dLf a1')))) else none := by unfold r225 Reg.of ask2; exact ite_cl
theorem fput_spec (b : List Int) (f : Bool) (hb : b.length ≤ 4294960000) : Fun seat 223 [octs b, .bool f] (octs (fput b f)) := by
  unfold fput
  cases f with
  | true =>
    refine Fun.of0R [r214f] told223 (by simp [il223]) (by simp [idb_patchA]) (by simp [idb_patchA]) 4 ?_
    simp -implicitDefEqProofs only [il223, List.zipIdx_cons, List.zipIdx_nil, leafA, innerA, nodeA, patchA, Leaf.cells, Inner.cells, Node.cells, r214f_c, r214f_ask, decide_true, decide_false, hb, clamp1, go_sem, Nat.reduceEqDiff, reduceIte, Nat.reduceAdd, Nat.reduceLeDiff, Nat.reduceLT, Nat.reduceSub]
  | false =>
    refine Fun.of0R [r214f] told223 (by simp [il223]) (by simp [idb_patchA]) (by simp [idb_patchA]) 4 ?_
    simp -implicitDefEqProofs only [il223, List.zipIdx_cons, List.zipIdx_nil, leafA, innerA, nodeA, patchA, Leaf.cells, Inner.cells, Node.cells, r214f_c, r214f_ask, decide_true, decide_false, hb, clamp1, go_sem, Nat.reduceEqDiff, reduceIte, Nat.reduceAdd, Nat.reduceLeDiff, Nat.reduceLT, Nat.reduceSub]
noncomputable def r223 : Reg seat := .of told223 (ask2 (fun a0' a1' => isO a0' ∧ isB a1' ∧ (dO a0').length ≤ 4294960000) fun a0' a1' => .fn (octs (fput (dO a0') (dB a1')))) (ask2_ok fun a0' a1' h => SaidOk.fn (Fun.weak (.cons (isO.weak h.1) (.cons (isB.weak h.2.1) .nil)) (fput_spec _ _ h.2.2)))
theorem r223_c : r223.c = 223 := rfl
open Classical in
theorem r223_ask (a0' a1' : AV) : r223.ask [a0', a1'] = if isO a0' ∧ isB a1' ∧ (dO a0').length ≤ 4294960000 then some (Said.fn (octs (fput (dO a0') (dB a1')))) else none := by unfold r223 Reg.of ask2; exact ite_cl
theorem knownN_spec (n : Node) (hn : n.Ok) : Fun seat 206 [nodeA n] (nodeA (knownN n)) := by
  unfold knownN
  by_cases hc : nodeCheck n = 0
  · rw [if_neg (not_not_intro hc)]
    refine Fun.of0R [r124] told206 (by simp [il206]) (by simp [idb_patchA]) (by simp [idb_patchA]) 4 ?_
    simp -implicitDefEqProofs only [il206, List.zipIdx_cons, List.zipIdx_nil, leafA, innerA, nodeA, patchA, Leaf.cells, Inner.cells, Node.cells, r124_c, r124_ask, decide_true, decide_false, hn, hc, go_sem, Nat.reduceEqDiff, reduceIte, Nat.reduceAdd, Nat.reduceLeDiff, Nat.reduceLT, Nat.reduceSub]
  · rw [if_pos hc]
    refine Fun.of0R [r124] told206 (by simp [il206]) (by simp [idb_patchA]) (by simp [idb_patchA]) 4 ?_
    simp -implicitDefEqProofs only [il206, List.zipIdx_cons, List.zipIdx_nil, leafA, innerA, nodeA, patchA, Leaf.cells, Inner.cells, Node.cells, r124_c, r124_ask, decide_true, decide_false, hn, hc, go_sem, Nat.reduceEqDiff, reduceIte, Nat.reduceAdd, Nat.reduceLeDiff, Nat.reduceLT, Nat.reduceSub]
noncomputable def r206 : Reg seat := .of told206 (ask1 (fun a0' => isN a0' ∧ (dN a0').Ok) fun a0' => .fn (nodeA (knownN (dN a0')))) (ask1_ok fun a0' h => SaidOk.fn (Fun.weak (.cons (isN.weak h.1) .nil) (knownN_spec _ h.2)))
theorem r206_c : r206.c = 206 := rfl
open Classical in
theorem r206_ask (a0' : AV) : r206.ask [a0'] = if isN a0' ∧ (dN a0').Ok then some (Said.fn (nodeA (knownN (dN a0')))) else none := by unfold r206 Reg.of ask1; exact ite_cl
theorem knownN_ok {n : Node} (h : n.Ok) : (knownN n).Ok := by
  unfold knownN
  split
  · exact .zero
  · exact h
theorem itemInner_spec (n : Node) (b : List Int) (hb : b.length ≤ 4280000000) (hn : n.Ok) : Fun seat 209 [nodeA n, octs b] (octs (iput b n.inner)) := by
  have hi := hn.inner
  refine Fun.of0R [r183] told209 (by simp [il209]) (by simp [idb_patchA]) (by simp [idb_patchA]) 4 ?_
  simp -implicitDefEqProofs only [il209, List.zipIdx_cons, List.zipIdx_nil, leafA, innerA, nodeA, patchA, Leaf.cells, Inner.cells, Node.cells, r183_c, r183_ask, decide_true, decide_false, hb, hi, go_sem, Nat.reduceEqDiff, reduceIte, Nat.reduceAdd, Nat.reduceLeDiff, Nat.reduceLT, Nat.reduceSub]
noncomputable def r209 : Reg seat := .of told209 (ask2 (fun a0' a1' => isN a0' ∧ isO a1' ∧ (dO a1').length ≤ 4280000000 ∧ (dN a0').Ok) fun a0' a1' => .fn (octs (iput (dO a1') (dN a0').inner))) (ask2_ok fun a0' a1' h => SaidOk.fn (Fun.weak (.cons (isN.weak h.1) (.cons (isO.weak h.2.1) .nil)) (itemInner_spec _ _ h.2.2.1 h.2.2.2)))
theorem r209_c : r209.c = 209 := rfl
open Classical in
theorem r209_ask (a0' a1' : AV) : r209.ask [a0', a1'] = if isN a0' ∧ isO a1' ∧ (dO a1').length ≤ 4280000000 ∧ (dN a0').Ok then some (Said.fn (octs (iput (dO a1') (dN a0').inner))) else none := by unfold r209 Reg.of ask2; exact ite_cl
theorem itemLeaf_spec (n : Node) (b : List Int) (hb : b.length ≤ 4270000000) (hn : n.Ok) : Fun seat 210 [nodeA n, octs b] (octs (lput b n.leaf)) := by
  have hi := hn.leaf
  refine Fun.of0R [r225] told210 (by simp [il210]) (by simp [idb_patchA]) (by simp [idb_patchA]) 4 ?_
  simp -implicitDefEqProofs only [il210, List.zipIdx_cons, List.zipIdx_nil, leafA, innerA, nodeA, patchA, Leaf.cells, Inner.cells, Node.cells, r225_c, r225_ask, decide_true, decide_false, hb, hi, go_sem, Nat.reduceEqDiff, reduceIte, Nat.reduceAdd, Nat.reduceLeDiff, Nat.reduceLT, Nat.reduceSub]
noncomputable def r210 : Reg seat := .of told210 (ask2 (fun a0' a1' => isN a0' ∧ isO a1' ∧ (dO a1').length ≤ 4270000000 ∧ (dN a0').Ok) fun a0' a1' => .fn (octs (lput (dO a1') (dN a0').leaf))) (ask2_ok fun a0' a1' h => SaidOk.fn (Fun.weak (.cons (isN.weak h.1) (.cons (isO.weak h.2.1) .nil)) (itemLeaf_spec _ _ h.2.2.1 h.2.2.2)))
theorem r210_c : r210.c = 210 := rfl
open Classical in
theorem r210_ask (a0' a1' : AV) : r210.ask [a0', a1'] = if isN a0' ∧ isO a1' ∧ (dO a1').length ≤ 4270000000 ∧ (dN a0').Ok then some (Said.fn (octs (lput (dO a1') (dN a0').leaf))) else none := by unfold r210 Reg.of ask2; exact ite_cl
theorem kindInner_spec (n : Node) (b : List Int) (hb : b.length ≤ 4270000000) (hn : n.Ok) : Fun seat 224 [nodeA n, octs b, .iptr [.func (.f 209) [] []] 0] (octs (iput (b ++ beK 1 n.kind) n.inner)) := by
  have b1 : b.length ≤ 4294960000 := by omega
  have b2 : (b ++ beK 1 n.kind).length ≤ 4280000000 := by rw [List.length_append, beK1_len]; omega
  refine Fun.of0R [r214f] told224 (by simp [il224]) (by simp [idb_patchA]) (by simp [idb_patchA]) 4 ?_
  simp -implicitDefEqProofs only [il224, List.zipIdx_cons, List.zipIdx_nil, leafA, innerA, nodeA, patchA, Leaf.cells, Inner.cells, Node.cells, r214f_c, r214f_ask, decide_true, decide_false, hn, go_sem, Nat.reduceEqDiff, reduceIte, Nat.reduceAdd, Nat.reduceLeDiff, Nat.reduceLT, Nat.reduceSub]
  refine WP.drawQ [r214f, r209] [.g 0 0, .g 0 0, .l, .g 0 0, .g 0 0, .l, .l, .l] mixed (by decide) ?_
  simp -implicitDefEqProofs only [leafA, innerA, nodeA, patchA, Leaf.cells, Inner.cells, Node.cells, r214f_c, r214f_ask, r209_c, r209_ask, decide_true, decide_false, b1, b2, hn, clamp1, go_sem, Nat.reduceEqDiff, reduceIte, Nat.reduceAdd, Nat.reduceLeDiff, Nat.reduceLT, Nat.reduceSub]
noncomputable def r224 : Reg seat := .of told224 (ask3 (fun a0' a1' a2' => isN a0' ∧ isO a1' ∧ a2' = .iptr [.func (.f 209) [] []] 0 ∧ (dO a1').length ≤ 4270000000 ∧ (dN a0').Ok) fun a0' a1' a2' => .fn (octs (iput ((dO a1') ++ beK 1 (dN a0').kind) (dN a0').inner))) (ask3_ok fun a0' a1' a2' h => SaidOk.fn (Fun.weak (.cons (isN.weak h.1) (.cons (isO.weak h.2.1) (.cons (Weak.of_eq h.2.2.1) .nil))) (kindInner_spec _ _ h.2.2.2.1 h.2.2.2.2)))
theorem r224_c : r224.c = 224 := rfl
open Classical in
theorem r224_ask (a0' a1' a2' : AV) : r224.ask [a0', a1', a2'] = if isN a0' ∧ isO a1' ∧ a2' = .iptr [.func (.f 209) [] []] 0 ∧ (dO a1').length ≤ 4270000000 ∧ (dN a0').Ok then some (Said.fn (octs (iput ((dO a1') ++ beK 1 (dN a0').kind) (dN a0').inner))) else none := by unfold r224 Reg.of ask3; exact ite_cl
theorem kindLeaf_spec (n : Node) (b : List Int) (hb : b.length ≤ 4260000000) (hn : n.Ok) : Fun seat 224 [nodeA n, octs b, .iptr [.func (.f 210) [] []] 0] (octs (lput (b ++ beK 1 n.kind) n.leaf)) := by
  have b1 : b.length ≤ 4294960000 := by omega
  have b2 : (b ++ beK 1 n.kind).length ≤ 4270000000 := by rw [List.length_append, beK1_len]; omega
  refine Fun.of0R [r214f] told224 (by simp [il224]) (by simp [idb_patchA]) (by simp [idb_patchA]) 4 ?_
  simp -implicitDefEqProofs only [il224, List.zipIdx_cons, List.zipIdx_nil, leafA, innerA, nodeA, patchA, Leaf.cells, Inner.cells, Node.cells, r214f_c, r214f_ask, decide_true, decide_false, hn, go_sem, Nat.reduceEqDiff, reduceIte, Nat.reduceAdd, Nat.reduceLeDiff, Nat.reduceLT, Nat.reduceSub]
  refine WP.drawQ [r214f, r210] [.g 0 0, .g 0 0, .l, .g 0 0, .g 0 0, .l, .l, .l] mixed (by decide) ?_
  simp -implicitDefEqProofs only [leafA, innerA, nodeA, patchA, Leaf.cells, Inner.cells, Node.cells, r214f_c, r214f_ask, r210_c, r210_ask, decide_true, decide_false, b1, b2, hn, clamp1, go_sem, Nat.reduceEqDiff, reduceIte, Nat.reduceAdd, Nat.reduceLeDiff, Nat.reduceLT, Nat.reduceSub]
noncomputable def r224l : Reg seat := .of told224 (ask3 (fun a0' a1' a2' => isN a0' ∧ isO a1' ∧ a2' = .iptr [.func (.f 210) [] []] 0 ∧ (dO a1').length ≤ 4260000000 ∧ (dN a0').Ok) fun a0' a1' a2' => .fn (octs (lput ((dO a1') ++ beK 1 (dN a0').kind) (dN a0').leaf))) (ask3_ok fun a0' a1' a2' h => SaidOk.fn (Fun.weak (.cons (isN.weak h.1) (.cons (isO.weak h.2.1) (.cons (Weak.of_eq h.2.2.1) .nil))) (kindLeaf_spec _ _ h.2.2.2.1 h.2.2.2.2)))
theorem r224l_c : r224l.c = 224 := rfl
open Classical in
theorem r224l_ask (a0' a1' a2' : AV) : r224l.ask [a0', a1', a2'] = if isN a0' ∧ isO a1' ∧ a2' = .iptr [.func (.f 210) [] []] 0 ∧ (dO a1').length ≤ 4260000000 ∧ (dN a0').Ok then some (Said.fn (octs (lput ((dO a1') ++ beK 1 (dN a0').kind) (dN a0').leaf))) else none := by unfold r224l Reg.of ask3; exact ite_cl
theorem kindOfI_spec : Fun seat 208 [.func (.f 209) [] []] (.func (.f 224) [] [.iptr [.func (.f 209) [] []] 0]) := by
  refine Fun.of0W told208 (by simp [il208]) (by simp ) (by simp ) 0 ?_
  simp only [il208, List.zipIdx_cons, List.zipIdx_nil, Nat.zero_add, List.map_cons, List.map_nil]
  refine WP.seqR [] fun K hK => ?_
  simp -implicitDefEqProofs only [leafA, innerA, nodeA, patchA, Leaf.cells, Inner.cells, Node.cells, decide_true, decide_false, go_sem, Nat.reduceEqDiff, reduceIte, Nat.reduceAdd, Nat.reduceLeDiff, Nat.reduceLT, Nat.reduceSub]
  refine hK _ (WP.sealB 1 0 rfl rfl ?_)
  clear hK K
  refine wpc_soundR [] ?_
  simp -implicitDefEqProofs only [leafA, innerA, nodeA, patchA, Leaf.cells, Inner.cells, Node.cells, decide_true, decide_false, go_sem, Nat.reduceEqDiff, reduceIte, Nat.reduceAdd, Nat.reduceLeDiff, Nat.reduceLT, Nat.reduceSub]
  rfl
noncomputable def r208i : Reg seat := .of told208 (ask1 (fun a0' => a0' = .func (.f 209) [] []) fun a0' => .fn (.func (.f 224) [] [.iptr [.func (.f 209) [] []] 0])) (ask1_ok fun a0' h => SaidOk.fn (Fun.weak (.cons (Weak.of_eq h) .nil) (kindOfI_spec)))
theorem r208i_c : r208i.c = 208 := rfl
open Classical in
theorem r208i_ask (a0' : AV) : r208i.ask [a0'] = if a0' = .func (.f 209) [] [] then some (Said.fn (.func (.f 224) [] [.iptr [.func (.f 209) [] []] 0])) else none := by unfold r208i Reg.of ask1; exact ite_cl
theorem kindOfL_spec : Fun seat 208 [.func (.f 210) [] []] (.func (.f 224) [] [.iptr [.func (.f 210) [] []] 0]) := by
  refine Fun.of0W told208 (by simp [il208]) (by simp ) (by simp ) 0 ?_
  simp only [il208, List.zipIdx_cons, List.zipIdx_nil, Nat.zero_add, List.map_cons, List.map_nil]
  refine WP.seqR [] fun K hK => ?_
  simp -implicitDefEqProofs only [leafA, innerA, nodeA, patchA, Leaf.cells, Inner.cells, Node.cells, decide_true, decide_false, go_sem, Nat.reduceEqDiff, reduceIte, Nat.reduceAdd, Nat.reduceLeDiff, Nat.reduceLT, Nat.reduceSub]
  refine hK _ (WP.sealB 1 0 rfl rfl ?_)
  clear hK K
  refine wpc_soundR [] ?_
  simp -implicitDefEqProofs only [leafA, innerA, nodeA, patchA, Leaf.cells, Inner.cells, Node.cells, decide_true, decide_false, go_sem, Nat.reduceEqDiff, reduceIte, Nat.reduceAdd, Nat.reduceLeDiff, Nat.reduceLT, Nat.reduceSub]
  rfl

noncomputable def r208l : Reg seat := .of told208 (ask1 (fun a0' => a0' = .func (.f 210) [] []) fun a0' => .fn (.func (.f 224) [] [.iptr [.func (.f 210) [] []] 0])) (ask1_ok fun a0' h => SaidOk.fn (Fun.weak (.cons (Weak.of_eq h) .nil) (kindOfL_spec)))
theorem r208l_c : r208l.c = 208 := rfl
open Classical in
theorem r208l_ask (a0' : AV) : r208l.ask [a0'] = if a0' = .func (.f 210) [] [] then some (Said.fn (.func (.f 224) [] [.iptr [.func (.f 210) [] []] 0])) else none := by unfold r208l Reg.of ask1; exact ite_cl
def kputI (k : Int) (n : Node) (b : List Int) : List Int := if n.kind = k then iput (fput b true ++ beK 1 n.kind) n.inner else fput b false
def kputL (k : Int) (n : Node) (b : List Int) : List Int := if n.kind = k then lput (fput b true ++ beK 1 n.kind) n.leaf else fput b false
theorem laidI_spec (n : Node) (b : List Int) (k : Int) (hb : b.length ≤ 4200000000) (hn : n.Ok) : Fun seat 207 [nodeA n, octs b, .int .i64 k, .func (.f 209) [] []] (octs (laidI k n b)) := by
  have b1 : b.length ≤ 4294960000 := by omega
  have b2 : (fput b true).length ≤ 4280000000 := by rw [fput_len]; omega
  unfold laidI
  by_cases hk : n.kind = k
  · subst hk
    rw [if_pos rfl]
    refine Fun.of0R [r223, r209] told207 (by simp [il207]) (by simp [idb_patchA]) (by simp [idb_patchA]) 4 ?_
    simp -implicitDefEqProofs only [il207, List.zipIdx_cons, List.zipIdx_nil, leafA, innerA, nodeA, patchA, Leaf.cells, Inner.cells, Node.cells, r223_c, r223_ask, r209_c, r209_ask, decide_true, decide_false, hn, b1, b2, go_sem, Nat.reduceEqDiff, reduceIte, Nat.reduceAdd, Nat.reduceLeDiff, Nat.reduceLT, Nat.reduceSub]
  · rw [if_neg hk]
    refine Fun.of0R [r223, r209] told207 (by simp [il207]) (by simp [idb_patchA]) (by simp [idb_patchA]) 4 ?_
    simp -implicitDefEqProofs only [il207, List.zipIdx_cons, List.zipIdx_nil, leafA, innerA, nodeA, patchA, Leaf.cells, Inner.cells, Node.cells, r223_c, r223_ask, r209_c, r209_ask, decide_true, decide_false, hn, hk, b1, b2, go_sem, Nat.reduceEqDiff, reduceIte, Nat.reduceAdd, Nat.reduceLeDiff, Nat.reduceLT, Nat.reduceSub]
theorem laidL_spec (n : Node) (b : List Int) (k : Int) (hb : b.length ≤ 4200000000) (hn : n.Ok) : Fun seat 207 [nodeA n, octs b, .int .i64 k, .func (.f 210) [] []] (octs (laidNL k n b)) := by
  have b1 : b.length ≤ 4294960000 := by omega
  have b2 : (fput b true).length ≤ 4270000000 := by rw [fput_len]; omega
  unfold laidNL
  by_cases hk : n.kind = k
  · subst hk
    rw [if_pos rfl]
    refine Fun.of0R [r223, r210] told207 (by simp [il207]) (by simp [idb_patchA]) (by simp [idb_patchA]) 4 ?_
    simp -implicitDefEqProofs only [il207, List.zipIdx_cons, List.zipIdx_nil, leafA, innerA, nodeA, patchA, Leaf.cells, Inner.cells, Node.cells, r223_c, r223_ask, r210_c, r210_ask, decide_true, decide_false, hn, b1, b2, go_sem, Nat.reduceEqDiff, reduceIte, Nat.reduceAdd, Nat.reduceLeDiff, Nat.reduceLT, Nat.reduceSub]
  · rw [if_neg hk]
    refine Fun.of0R [r223, r210] told207 (by simp [il207]) (by simp [idb_patchA]) (by simp [idb_patchA]) 4 ?_
    simp -implicitDefEqProofs only [il207, List.zipIdx_cons, List.zipIdx_nil, leafA, innerA, nodeA, patchA, Leaf.cells, Inner.cells, Node.cells, r223_c, r223_ask, r210_c, r210_ask, decide_true, decide_false, hn, hk, b1, b2, go_sem, Nat.reduceEqDiff, reduceIte, Nat.reduceAdd, Nat.reduceLeDiff, Nat.reduceLT, Nat.reduceSub]
theorem kputI_spec (n : Node) (b : List Int) (k : Int) (hb : b.length ≤ 4200000000) (hn : n.Ok) : Fun seat 207 [nodeA n, octs b, .int .i64 k, .func (.f 224) [] [.iptr [.func (.f 209) [] []] 0]] (octs (kputI k n b)) := by
  have b1 : b.length ≤ 4294960000 := by omega
  have b2 : (fput b true).length ≤ 4270000000 := by rw [fput_len]; omega
  unfold kputI
  by_cases hk : n.kind = k
  · subst hk
    rw [if_pos rfl]
    refine Fun.of0R [r223, r224] told207 (by simp [il207]) (by simp [idb_patchA]) (by simp [idb_patchA]) 4 ?_
    simp -implicitDefEqProofs only [il207, List.zipIdx_cons, List.zipIdx_nil, leafA, innerA, nodeA, patchA, Leaf.cells, Inner.cells, Node.cells, r223_c, r223_ask, r224_c, r224_ask, decide_true, decide_false, hn, b1, b2, go_sem, Nat.reduceEqDiff, reduceIte, Nat.reduceAdd, Nat.reduceLeDiff, Nat.reduceLT, Nat.reduceSub]
  · rw [if_neg hk]
    refine Fun.of0R [r223, r224] told207 (by simp [il207]) (by simp [idb_patchA]) (by simp [idb_patchA]) 4 ?_
    simp -implicitDefEqProofs only [il207, List.zipIdx_cons, List.zipIdx_nil, leafA, innerA, nodeA, patchA, Leaf.cells, Inner.cells, Node.cells, r223_c, r223_ask, r224_c, r224_ask, decide_true, decide_false, hn, hk, b1, b2, go_sem, Nat.reduceEqDiff, reduceIte, Nat.reduceAdd, Nat.reduceLeDiff, Nat.reduceLT, Nat.reduceSub]
noncomputable def r207ki : Reg seat := .of told207 (ask4 (fun a0' a1' a2' a3' => isN a0' ∧ isO a1' ∧ isI a2' ∧ a3' = .func (.f 224) [] [.iptr [.func (.f 209) [] []] 0] ∧ (dO a1').length ≤ 4200000000 ∧ (dN a0').Ok) fun a0' a1' a2' a3' => .fn (octs (kputI (dI a2') (dN a0') (dO a1')))) (ask4_ok fun a0' a1' a2' a3' h => SaidOk.fn (Fun.weak (.cons (isN.weak h.1) (.cons (isO.weak h.2.1) (.cons (isI.weak h.2.2.1) (.cons (Weak.of_eq h.2.2.2.1) .nil)))) (kputI_spec _ _ _ h.2.2.2.2.1 h.2.2.2.2.2)))
theorem r207ki_c : r207ki.c = 207 := rfl
open Classical in
theorem r207ki_ask (a0' a1' a2' a3' : AV) : r207ki.ask [a0', a1', a2', a3'] = if isN a0' ∧ isO a1' ∧ isI a2' ∧ a3' = .func (.f 224) [] [.iptr [.func (.f 209) [] []] 0] ∧ (dO a1').length ≤ 4200000000 ∧ (dN a0').Ok then some (Said.fn (octs (kputI (dI a2') (dN a0') (dO a1')))) else none := by unfold r207ki Reg.of ask4; exact ite_cl
theorem kputL_spec (n : Node) (b : List Int) (k : Int) (hb : b.length ≤ 4200000000) (hn : n.Ok) : Fun seat 207 [nodeA n, octs b, .int .i64 k, .func (.f 224) [] [.iptr [.func (.f 210) [] []] 0]] (octs (kputL k n b)) := by
  have b1 : b.length ≤ 4294960000 := by omega
  have b2 : (fput b true).length ≤ 4260000000 := by rw [fput_len]; omega
  unfold kputL
  by_cases hk : n.kind = k
  · subst hk
    rw [if_pos rfl]
    refine Fun.of0R [r223, r224l] told207 (by simp [il207]) (by simp [idb_patchA]) (by simp [idb_patchA]) 4 ?_
    simp -implicitDefEqProofs only [il207, List.zipIdx_cons, List.zipIdx_nil, leafA, innerA, nodeA, patchA, Leaf.cells, Inner.cells, Node.cells, r223_c, r223_ask, r224l_c, r224l_ask, decide_true, decide_false, hn, b1, b2, go_sem, Nat.reduceEqDiff, reduceIte, Nat.reduceAdd, Nat.reduceLeDiff, Nat.reduceLT, Nat.reduceSub]
  · rw [if_neg hk]
    refine Fun.of0R [r223, r224l] told207 (by simp [il207]) (by simp [idb_patchA]) (by simp [idb_patchA]) 4 ?_
    simp -implicitDefEqProofs only [il207, List.zipIdx_cons, List.zipIdx_nil, leafA, innerA, nodeA, patchA, Leaf.cells, Inner.cells, Node.cells, r223_c, r223_ask, r224l_c, r224l_ask, decide_true, decide_false, hn, hk, b1, b2, go_sem, Nat.reduceEqDiff, reduceIte, Nat.reduceAdd, Nat.reduceLeDiff, Nat.reduceLT, Nat.reduceSub]
noncomputable def r207kl : Reg seat := .of told207 (ask4 (fun a0' a1' a2' a3' => isN a0' ∧ isO a1' ∧ isI a2' ∧ a3' = .func (.f 224) [] [.iptr [.func (.f 210) [] []] 0] ∧ (dO a1').length ≤ 4200000000 ∧ (dN a0').Ok) fun a0' a1' a2' a3' => .fn (octs (kputL (dI a2') (dN a0') (dO a1')))) (ask4_ok fun a0' a1' a2' a3' h => SaidOk.fn (Fun.weak (.cons (isN.weak h.1) (.cons (isO.weak h.2.1) (.cons (isI.weak h.2.2.1) (.cons (Weak.of_eq h.2.2.2.1) .nil)))) (kputL_spec _ _ _ h.2.2.2.2.1 h.2.2.2.2.2)))
theorem r207kl_c : r207kl.c = 207 := rfl
open Classical in
theorem r207kl_ask (a0' a1' a2' a3' : AV) : r207kl.ask [a0', a1', a2', a3'] = if isN a0' ∧ isO a1' ∧ isI a2' ∧ a3' = .func (.f 224) [] [.iptr [.func (.f 210) [] []] 0] ∧ (dO a1').length ≤ 4200000000 ∧ (dN a0').Ok then some (Said.fn (octs (kputL (dI a2') (dN a0') (dO a1')))) else none := by unfold r207kl Reg.of ask4; exact ite_cl

theorem nput_eq (b : List Int) (n : Node) : nput b n = if (knownN n).kind = 2 then kputI 2 (knownN n) b else kputL 1 (knownN n) b := by
  unfold nput kputI kputL
  by_cases h : (knownN n).kind = 2
  · rw [if_pos h, if_pos h, if_pos h, h]
  · rw [if_neg h, if_neg h]
    by_cases h1 : (knownN n).kind = 1
    · rw [if_pos h1, if_pos h1, h1]
    · rw [if_neg h1, if_neg h1]
theorem nput_spec (b : List Int) (n : Node) (hb : b.length ≤ 4200000000) (hn : n.Ok) : Fun seat 188 [octs b, nodeA n] (octs (nput b n)) := by
  have hk := knownN_ok hn
  rw [nput_eq]
  by_cases h : (knownN n).kind = 2
  · rw [if_pos h]
    have h' : ((knownN n).kind = 2) = True := eq_true h
    refine Fun.of0R [r206] told188 (by simp [il188]) (by simp [idb_patchA]) (by simp [idb_patchA]) 4 ?_
    simp -implicitDefEqProofs only [il188, List.zipIdx_cons, List.zipIdx_nil, leafA, innerA, nodeA, patchA, Leaf.cells, Inner.cells, Node.cells, r206_c, r206_ask, decide_true, decide_false, hn, h', go_sem, Nat.reduceEqDiff, reduceIte, Nat.reduceAdd, Nat.reduceLeDiff, Nat.reduceLT, Nat.reduceSub]
    refine WP.drawQ [r208i, r207ki] [.g 0 0, .l, .l, .l, .l] mixed (by decide) ?_
    simp -implicitDefEqProofs only [leafA, innerA, nodeA, patchA, Leaf.cells, Inner.cells, Node.cells, r208i_c, r208i_ask, r207ki_c, r207ki_ask, decide_true, decide_false, hb, hk, go_sem, Nat.reduceEqDiff, reduceIte, Nat.reduceAdd, Nat.reduceLeDiff, Nat.reduceLT, Nat.reduceSub]
  · rw [if_neg h]
    refine Fun.of0R [r206] told188 (by simp [il188]) (by simp [idb_patchA]) (by simp [idb_patchA]) 4 ?_
    simp -implicitDefEqProofs only [il188, List.zipIdx_cons, List.zipIdx_nil, leafA, innerA, nodeA, patchA, Leaf.cells, Inner.cells, Node.cells, r206_c, r206_ask, decide_true, decide_false, hn, h, go_sem, Nat.reduceEqDiff, reduceIte, Nat.reduceAdd, Nat.reduceLeDiff, Nat.reduceLT, Nat.reduceSub]
    refine WP.drawQ [r208l, r207kl] [.g 0 0, .l, .l, .l, .l] mixed (by decide) ?_
    simp -implicitDefEqProofs only [leafA, innerA, nodeA, patchA, Leaf.cells, Inner.cells, Node.cells, r208l_c, r208l_ask, r207kl_c, r207kl_ask, decide_true, decide_false, hb, hk, go_sem, Nat.reduceEqDiff, reduceIte, Nat.reduceAdd, Nat.reduceLeDiff, Nat.reduceLT, Nat.reduceSub]
noncomputable def r188 : Reg seat := .of told188 (ask2 (fun a0' a1' => isO a0' ∧ isN a1' ∧ (dO a0').length ≤ 4200000000 ∧ (dN a1').Ok) fun a0' a1' => .fn (octs (nput (dO a0') (dN a1')))) (ask2_ok fun a0' a1' h => SaidOk.fn (Fun.weak (.cons (isO.weak h.1) (.cons (isN.weak h.2.1) .nil)) (nput_spec _ _ h.2.2.1 h.2.2.2)))
theorem r188_c : r188.c = 188 := rfl
open Classical in
theorem r188_ask (a0' a1' : AV) : r188.ask [a0', a1'] = if isO a0' ∧ isN a1' ∧ (dO a0').length ≤ 4200000000 ∧ (dN a1').Ok then some (Said.fn (octs (nput (dO a0') (dN a1')))) else none := by unfold r188 Reg.of ask2; exact ite_cl

def gflag (b : List Int) : Bool × List Int × Int := if (gnum 1 b).2.2 ≠ 0 then (false, [], (gnum 1 b).2.2) else if (gnum 1 b).1 > 1 then (false, [], 2) else (decide ((gnum 1 b).1 = 1), (gnum 1 b).2.1, 0)
theorem gflag_spec (b : List Int) (hb : Oct b) : Fun seat 211 [octs b] (.tup [.bool (gflag b).1, octs (gflag b).2.1, .int .i64 (gflag b).2.2]) := by
  unfold gflag
  rcases hg : gnum 1 b with ⟨n, r, e⟩
  simp only
  by_cases he : e = 0
  rotate_left
  · rw [if_pos he]
    refine Fun.of0R [r212] told211 (by simp [il211]) (by simp [idb_patchA]) (by simp [idb_patchA]) 4 ?_
    simp -implicitDefEqProofs only [il211, List.zipIdx_cons, List.zipIdx_nil, leafA, innerA, nodeA, patchA, Leaf.cells, Inner.cells, Node.cells, r212_c, r212_ask, decide_true, decide_false, hb, clamp1, hg, he, go_sem, Nat.reduceEqDiff, reduceIte, Nat.reduceAdd, Nat.reduceLeDiff, Nat.reduceLT, Nat.reduceSub]
  rw [if_neg (not_not_intro he)]
  by_cases hn : n > 1
  · rw [if_pos hn]
    refine Fun.of0R [r212] told211 (by simp [il211]) (by simp [idb_patchA]) (by simp [idb_patchA]) 4 ?_
    simp -implicitDefEqProofs only [il211, List.zipIdx_cons, List.zipIdx_nil, leafA, innerA, nodeA, patchA, Leaf.cells, Inner.cells, Node.cells, r212_c, r212_ask, decide_true, decide_false, hb, clamp1, hg, he, hn, go_sem, Nat.reduceEqDiff, reduceIte, Nat.reduceAdd, Nat.reduceLeDiff, Nat.reduceLT, Nat.reduceSub]
  · rw [if_neg hn]
    refine Fun.of0R [r212] told211 (by simp [il211]) (by simp [idb_patchA]) (by simp [idb_patchA]) 4 ?_
    simp -implicitDefEqProofs only [il211, List.zipIdx_cons, List.zipIdx_nil, leafA, innerA, nodeA, patchA, Leaf.cells, Inner.cells, Node.cells, r212_c, r212_ask, decide_true, decide_false, hb, clamp1, hg, he, hn, go_sem, Nat.reduceEqDiff, reduceIte, Nat.reduceAdd, Nat.reduceLeDiff, Nat.reduceLT, Nat.reduceSub]
noncomputable def r211 : Reg seat := .of told211 (ask1 (fun a0' => isO a0' ∧ Oct (dO a0')) fun a0' => .fn (.tup [.bool (gflag (dO a0')).1, octs (gflag (dO a0')).2.1, .int .i64 (gflag (dO a0')).2.2])) (ask1_ok fun a0' h => SaidOk.fn (Fun.weak (.cons (isO.weak h.1) .nil) (gflag_spec _ h.2)))
theorem r211_c : r211.c = 211 := rfl
open Classical in
theorem r211_ask (a0' : AV) : r211.ask [a0'] = if isO a0' ∧ Oct (dO a0') then some (Said.fn (.tup [.bool (gflag (dO a0')).1, octs (gflag (dO a0')).2.1, .int .i64 (gflag (dO a0')).2.2])) else none := by unfold r211 Reg.of ask1; exact ite_cl
section
attribute [local go_sem high] qgrdW_tt
theorem DR.heavyC {S : Seat} {Hs : Nat → List Entry} {K : Nat} {d : Option Nat} {f : Opd} {xs : List Opd} {g : Option (Nat × Bool)} {aft : List Nat} {l : List IOper} {labs : List Lab} {env E : Env} {k c : Nat} {v : AV} {first captured : List AV} (hg : gdec env g = some true)
    (hf : f.ev env = .func (.f c) first captured) (hcb : Callable S c) (h : ACall S c (first ++ xs.map (Opd.ev env) ++ captured) (Hs k) fun v' H'' => v' = v ∧ H'' = Hs (k + 1)) (rest : DR S Hs K l labs (updo env d v) (k + 1) E) :
    DR S Hs K (⟨d, .call f xs, g, aft⟩ :: l) (.h k :: labs) env k E :=
  let ⟨_, r⟩ := rest; ⟨_, .heavy (o := ⟨d, .call f xs, g, aft⟩) hg (.call hf hcb h) r⟩

noncomputable def r160 : Reg seat := .of told160 (ask1 (fun a0' => isI a0') fun a0' => .fn (.bool (decide ((dI a0') ≥ 1 ∧ (dI a0') ≤ 3)))) (ask1_ok fun a0' h => SaidOk.fn (Fun.weak (.cons (isI.weak h) .nil) (source_spec _)))
theorem r160_c : r160.c = 160 := rfl
open Classical in
theorem r160_ask (a0' : AV) : r160.ask [a0'] = if isI a0' then some (Said.fn (.bool (decide ((dI a0') ≥ 1 ∧ (dI a0') ≤ 3)))) else none := by unfold r160 Reg.of ask1; exact ite_cl
theorem octets_spec (c0 c2 : List AV) (e1 e3 : Entry) (j : Nat) (T : List Entry) : ACall seat 227 [.ptr 2 j, .ptr 0 0] (.box c0 :: e1 :: .box c2 :: e3 :: T) (fun r H' => r = .func (.f 228) [] [.ptr 0 0, .ptr (T.length + 1 + 3) 0] ∧ H' = .box c0 :: e1 :: .box c2 :: e3 :: (T ++ [.box [.ptr 2 j]])) := by
  refine ACall.of_wp told227 (by simp [il227]) (wpc_soundR [] ?_)
  rw [start_env]
  simp -implicitDefEqProofs only [leafA, innerA, nodeA, patchA, Leaf.cells, Inner.cells, Node.cells, decide_true, decide_false, il227, List.zipIdx_cons, List.zipIdx_nil, Nat.zero_add, onP_b, Bool.and_self, go_sem, Nat.reduceEqDiff, reduceIte, Nat.reduceAdd, Nat.reduceLeDiff, Nat.reduceLT, Nat.reduceSub]
theorem read228_0 (c : List Int) (e1 : Entry) (a0 a1 a2 a3 : AV) (T : List Entry) (q : Nat) (hc : Oct c) (hq : T[q]? = some (.box [.ptr 2 0])) : ACall seat 228 [.ptr 0 0, .ptr (q + 3) 0] (.box [octs c] :: e1 :: .box [a0, a1, a2, a3] :: T) (fun r H' => r = .int .i64 (gbytes c).2.2 ∧ H' = .box [octs (gbytes c).2.1] :: e1 :: .box [octs (gbytes c).1, a1, a2, a3] :: T) := by
  refine ACall.of_wp told228 (by simp [il228]) ?_
  rw [start_env]
  refine wpc_soundR [] ?_
  simp -implicitDefEqProofs only [leafA, innerA, nodeA, patchA, Leaf.cells, Inner.cells, Node.cells, decide_true, decide_false, il228, List.zipIdx_cons, List.zipIdx_nil, Nat.zero_add, go_sem, Nat.reduceEqDiff, reduceIte, Nat.reduceAdd, Nat.reduceLeDiff, Nat.reduceLT, Nat.reduceSub]
  refine WP.drawQ [r192] [.g 0 0, .g 0 0, .l, .l, .l, .l, .l, .g 0 0, .h 0, .h 1, .l] mixed (by decide) ?_
  simp -implicitDefEqProofs only [leafA, innerA, nodeA, patchA, Leaf.cells, Inner.cells, Node.cells, r192_c, r192_ask, decide_true, decide_false, hc, hq, go_sem, Nat.reduceEqDiff, reduceIte, Nat.reduceAdd, Nat.reduceLeDiff, Nat.reduceLT, Nat.reduceSub]
theorem read228_1 (c : List Int) (e1 : Entry) (a0 a1 a2 a3 : AV) (T : List Entry) (q : Nat) (hc : Oct c) (hq : T[q]? = some (.box [.ptr 2 1])) : ACall seat 228 [.ptr 0 0, .ptr (q + 3) 0] (.box [octs c] :: e1 :: .box [a0, a1, a2, a3] :: T) (fun r H' => r = .int .i64 (gbytes c).2.2 ∧ H' = .box [octs (gbytes c).2.1] :: e1 :: .box [a0, octs (gbytes c).1, a2, a3] :: T) := by
  refine ACall.of_wp told228 (by simp [il228]) ?_
  rw [start_env]
  refine wpc_soundR [] ?_
  simp -implicitDefEqProofs only [leafA, innerA, nodeA, patchA, Leaf.cells, Inner.cells, Node.cells, decide_true, decide_false, il228, List.zipIdx_cons, List.zipIdx_nil, Nat.zero_add, go_sem, Nat.reduceEqDiff, reduceIte, Nat.reduceAdd, Nat.reduceLeDiff, Nat.reduceLT, Nat.reduceSub]
  refine WP.drawQ [r192] [.g 0 0, .g 0 0, .l, .l, .l, .l, .l, .g 0 0, .h 0, .h 1, .l] mixed (by decide) ?_
  simp -implicitDefEqProofs only [leafA, innerA, nodeA, patchA, Leaf.cells, Inner.cells, Node.cells, r192_c, r192_ask, decide_true, decide_false, hc, hq, go_sem, Nat.reduceEqDiff, reduceIte, Nat.reduceAdd, Nat.reduceLeDiff, Nat.reduceLT, Nat.reduceSub]
theorem read228_3 (c : List Int) (e1 : Entry) (a0 a1 a2 a3 : AV) (T : List Entry) (q : Nat) (hc : Oct c) (hq : T[q]? = some (.box [.ptr 2 3])) : ACall seat 228 [.ptr 0 0, .ptr (q + 3) 0] (.box [octs c] :: e1 :: .box [a0, a1, a2, a3] :: T) (fun r H' => r = .int .i64 (gbytes c).2.2 ∧ H' = .box [octs (gbytes c).2.1] :: e1 :: .box [a0, a1, a2, octs (gbytes c).1] :: T) := by
  refine ACall.of_wp told228 (by simp [il228]) ?_
  rw [start_env]
  refine wpc_soundR [] ?_
  simp -implicitDefEqProofs only [leafA, innerA, nodeA, patchA, Leaf.cells, Inner.cells, Node.cells, decide_true, decide_false, il228, List.zipIdx_cons, List.zipIdx_nil, Nat.zero_add, go_sem, Nat.reduceEqDiff, reduceIte, Nat.reduceAdd, Nat.reduceLeDiff, Nat.reduceLT, Nat.reduceSub]
  refine WP.drawQ [r192] [.g 0 0, .g 0 0, .l, .l, .l, .l, .l, .g 0 0, .h 0, .h 1, .l] mixed (by decide) ?_
  simp -implicitDefEqProofs only [leafA, innerA, nodeA, patchA, Leaf.cells, Inner.cells, Node.cells, r192_c, r192_ask, decide_true, decide_false, hc, hq, go_sem, Nat.reduceEqDiff, reduceIte, Nat.reduceAdd, Nat.reduceLeDiff, Nat.reduceLT, Nat.reduceSub]
def srcE (s e : Int) : Int := if e = 0 ∧ ¬ (s ≥ 1 ∧ s ≤ 3) then 7 else e
theorem from_spec (c : List Int) (e1 : Entry) (a0 a1 a2 a3 : AV) (T : List Entry) (hc : Oct c) : ACall seat 229 [.ptr 0 0, .ptr 2 0] (.box [octs c] :: e1 :: .box [a0, a1, a2, a3] :: T) (fun r H' => r = .int .i64 (srcE (gnum 1 c).1 (gnum 1 c).2.2) ∧ H' = .box [octs (gnum 1 c).2.1] :: e1 :: .box [a0, a1, .int .i64 (gnum 1 c).1, a3] :: T) := by
  rcases hg : gnum 1 c with ⟨s, r, e⟩
  simp only
  refine ACall.of_wp told229 (by simp [il229]) ?_
  rw [start_env]
  refine wpc_soundR [r212, r160] ?_
  unfold srcE
  by_cases he : e = 0
  · by_cases hs : s ≥ 1 ∧ s ≤ 3
    · rw [if_neg (fun h => h.2 hs)]
      simp -implicitDefEqProofs only [leafA, innerA, nodeA, patchA, Leaf.cells, Inner.cells, Node.cells, r212_c, r212_ask, r160_c, r160_ask, decide_true, decide_false, il229, List.zipIdx_cons, List.zipIdx_nil, Nat.zero_add, hc, clamp1, hg, he, hs, go_sem, Nat.reduceEqDiff, reduceIte, Nat.reduceAdd, Nat.reduceLeDiff, Nat.reduceLT, Nat.reduceSub]
    · rw [if_pos ⟨he, hs⟩]
      simp -implicitDefEqProofs only [leafA, innerA, nodeA, patchA, Leaf.cells, Inner.cells, Node.cells, r212_c, r212_ask, r160_c, r160_ask, decide_true, decide_false, il229, List.zipIdx_cons, List.zipIdx_nil, Nat.zero_add, hc, clamp1, hg, he, hs, go_sem, Nat.reduceEqDiff, reduceIte, Nat.reduceAdd, Nat.reduceLeDiff, Nat.reduceLT, Nat.reduceSub]
  · rw [if_neg (fun h => he h.1)]
    simp -implicitDefEqProofs only [leafA, innerA, nodeA, patchA, Leaf.cells, Inner.cells, Node.cells, r212_c, r212_ask, r160_c, r160_ask, decide_true, decide_false, il229, List.zipIdx_cons, List.zipIdx_nil, Nat.zero_add, hc, clamp1, hg, he, go_sem, Nat.reduceEqDiff, reduceIte, Nat.reduceAdd, Nat.reduceLeDiff, Nat.reduceLT, Nat.reduceSub]
theorem check_spec (l : Leaf) (e0 e1 : Entry) (T : List Entry) (hl : l.Ok) : ACall seat 231 [.ptr 2 0] (e0 :: e1 :: .box [octs l.enc, octs l.cred, .int .i64 l.source, octs l.parent] :: T) (fun r H' => r = .int .i64 (leafCheck l) ∧ H' = e0 :: e1 :: .box [octs l.enc, octs l.cred, .int .i64 l.source, octs l.parent] :: T) := by
  refine ACall.of_wp told231 (by simp [il231]) ?_
  rw [start_env]
  refine wpc_soundR [r146] ?_
  simp -implicitDefEqProofs only [leafA, innerA, nodeA, patchA, Leaf.cells, Inner.cells, Node.cells, r146_c, r146_ask, decide_true, decide_false, il231, List.zipIdx_cons, List.zipIdx_nil, Nat.zero_add, hl, go_sem, Nat.reduceEqDiff, reduceIte, Nat.reduceAdd, Nat.reduceLeDiff, Nat.reduceLT, Nat.reduceSub]
def gpar (s : Int) (c : List Int) : List Int × List Int × Int := if s = 3 then gbytes c else ([], c, 0)
theorem par_spec (c : List Int) (s : Int) (e1 : Entry) (a0 a1 : AV) (T : List Entry) (hc : Oct c) : ACall seat 230 [.ptr 2 0, .ptr 3 0] (.box [octs c] :: e1 :: .box [a0, a1, .int .i64 s, octs []] :: .box [.func (.f 227) [] [.ptr 0 0]] :: T) (fun r H' => r = .int .i64 (gpar s c).2.2 ∧ ∃ X, H' = .box [octs (gpar s c).2.1] :: e1 :: .box [a0, a1, .int .i64 s, octs (gpar s c).1] :: .box [.func (.f 227) [] [.ptr 0 0]] :: (T ++ X)) := by
  unfold gpar
  refine ACall.of_wp told230 (by simp [il230]) ?_
  rw [start_env]
  refine wpc_soundR [] ?_
  by_cases hs : s = 3
  · rw [if_pos hs]
    subst hs
    simp -implicitDefEqProofs only [leafA, innerA, nodeA, patchA, Leaf.cells, Inner.cells, Node.cells, decide_true, decide_false, il230, List.zipIdx_cons, List.zipIdx_nil, Nat.zero_add, ne_eq, not_true_eq_false, go_sem, Nat.reduceEqDiff, reduceIte, Nat.reduceAdd, Nat.reduceLeDiff, Nat.reduceLT, Nat.reduceSub]
    refine Callee.fn (Callable.of told227) (octets_spec [octs c] [a0, a1, .int .i64 3, octs []] e1 (.box [.func (.f 227) [] [.ptr 0 0]]) 3 T) ?_
    rintro _ _ ⟨rfl, rfl⟩
    simp -implicitDefEqProofs only [leafA, innerA, nodeA, patchA, Leaf.cells, Inner.cells, Node.cells, decide_true, decide_false, go_sem, Nat.reduceEqDiff, reduceIte, Nat.reduceAdd, Nat.reduceLeDiff, Nat.reduceLT, Nat.reduceSub]
    refine Callee.fn (Callable.of told228) (read228_3 c e1 a0 a1 (.int .i64 3) (octs []) (.box [.func (.f 227) [] [.ptr 0 0]] :: (T ++ [Entry.box [.ptr 2 3]])) (T.length + 1) hc (by simp)) ?_
    rintro _ _ ⟨rfl, rfl⟩
    simp -implicitDefEqProofs only [leafA, innerA, nodeA, patchA, Leaf.cells, Inner.cells, Node.cells, decide_true, decide_false, go_sem, Nat.reduceEqDiff, reduceIte, Nat.reduceAdd, Nat.reduceLeDiff, Nat.reduceLT, Nat.reduceSub]
    exact ⟨[Entry.box [.ptr 2 3]], rfl⟩
  · rw [if_neg hs]
    simp -implicitDefEqProofs only [leafA, innerA, nodeA, patchA, Leaf.cells, Inner.cells, Node.cells, decide_true, decide_false, il230, List.zipIdx_cons, List.zipIdx_nil, Nat.zero_add, hs, ne_eq, not_false_eq_true, go_sem, Nat.reduceEqDiff, reduceIte, Nat.reduceAdd, Nat.reduceLeDiff, Nat.reduceLT, Nat.reduceSub]
    exact ⟨[], (List.append_nil T).symm⟩

def lgetS (x : List Int) (y : List Int) (s : Int) (p : List Int) (r : List Int) : Leaf × List Int × Int := if leafCheck ⟨x, y, s, p⟩ ≠ 0 then (.zero, [], leafCheck ⟨x, y, s, p⟩) else (⟨x, y, s, p⟩, r, 0)
def lget (b : List Int) : Leaf × List Int × Int :=
  if (gbytes b).2.2 ≠ 0 then (.zero, [], (gbytes b).2.2) else
  if (gbytes (gbytes b).2.1).2.2 ≠ 0 then (.zero, [], (gbytes (gbytes b).2.1).2.2) else
  if srcE (gnum 1 (gbytes (gbytes b).2.1).2.1).1 (gnum 1 (gbytes (gbytes b).2.1).2.1).2.2 ≠ 0 then (.zero, [], srcE (gnum 1 (gbytes (gbytes b).2.1).2.1).1 (gnum 1 (gbytes (gbytes b).2.1).2.1).2.2) else
  if (gpar (gnum 1 (gbytes (gbytes b).2.1).2.1).1 (gnum 1 (gbytes (gbytes b).2.1).2.1).2.1).2.2 ≠ 0 then (.zero, [], (gpar (gnum 1 (gbytes (gbytes b).2.1).2.1).1 (gnum 1 (gbytes (gbytes b).2.1).2.1).2.1).2.2) else
  lgetS (gbytes b).1 (gbytes (gbytes b).2.1).1 (gnum 1 (gbytes (gbytes b).2.1).2.1).1 (gpar (gnum 1 (gbytes (gbytes b).2.1).2.1).1 (gnum 1 (gbytes (gbytes b).2.1).2.1).2.1).1 (gpar (gnum 1 (gbytes (gbytes b).2.1).2.1).1 (gnum 1 (gbytes (gbytes b).2.1).2.1).2.1).2.1
theorem lget_eq {b x r1 y r2 r3 p r4 : List Int} {s e1 e2 e3 e4 : Int} (h1 : gbytes b = (x, r1, e1)) (h2 : gbytes r1 = (y, r2, e2)) (h3 : gnum 1 r2 = (s, r3, e3)) (h4 : gpar s r3 = (p, r4, e4)) :
    lget b = if e1 ≠ 0 then (.zero, [], e1) else if e2 ≠ 0 then (.zero, [], e2) else if srcE s e3 ≠ 0 then (.zero, [], srcE s e3) else if e4 ≠ 0 then (.zero, [], e4) else lgetS x y s p r4 := by
  unfold lget
  simp only [h1, h2, h3, h4]
def f227 : AV := .func (.f 227) [] [.ptr 0 0]
def rowF : List AV := [.func (.f 228) [] [.ptr 0 0, .ptr 4 0], .func (.f 228) [] [.ptr 0 0, .ptr 5 0], .func (.f 229) [] [.ptr 0 0, .ptr 2 0], .func (.f 230) [] [.ptr 2 0, .ptr 3 0], .func (.f 231) [] [.ptr 2 0]]
def zl : List AV := [.list true [], .list true [], .int .i64 0, .list true []]
def leafH (r : List Int) (l : Leaf) : List Entry := [.box [octs r], .box zl, .box [octs l.enc, octs l.cred, .int .i64 l.source, octs l.parent], .box [f227], .box [.ptr 2 0], .box [.ptr 2 1], .arr 1 0 rowF]
theorem leafH_len (r : List Int) (l : Leaf) : (leafH r l).length = 7 := rfl
theorem entB_rowF : EntB 7 (.arr 1 0 rowF) := by
  intro x hx y hy
  simp only [rowF, List.mem_cons, List.not_mem_nil, or_false] at hx
  rcases hx with rfl | rfl | rfl | rfl | rfl <;> (simp only [AV.cells, List.mem_singleton] at hy; subst hy; simp )
theorem weakz : Weaks zl [octs [], octs [], .int .i64 0, octs []] := .cons (.list true []) (.cons (.list true []) (.cons (.refl _) (.cons (.list true []) .nil)))
set_option maxHeartbeats 2000000 in
theorem lget_spec (b : List Int) (hb : Oct b) : Fun seat 213 [octs b] (.tup [leafA (lget b).1, octs (lget b).2.1, .int .i64 (lget b).2.2]) := by
  refine Fun.of0R [] told213 (by simp [il213]) (by simp [idb_patchA]) (by simp [idb_patchA]) 4 ?_
  simp -implicitDefEqProofs only [il213, List.zipIdx_cons, List.zipIdx_nil, leafA, innerA, nodeA, patchA, Leaf.cells, Inner.cells, Node.cells, decide_true, decide_false, go_sem, Nat.reduceEqDiff, reduceIte, Nat.reduceAdd, Nat.reduceLeDiff, Nat.reduceLT, Nat.reduceSub]
  refine WP.weakL [(1, .ptr 0 0), (2, .ptr 1 0), (5, .ptr 2 0), (6, .ptr 3 0), (7, rowF[2]), (8, rowF[3]), (9, rowF[4])] ?_ ?_
  · simp only [rowF, List.getElem_cons_zero, List.getElem_cons_succ, envL_cons, Nat.reduceEqDiff, reduceIte, List.mem_cons, List.not_mem_nil, or_false, forall_eq_or_imp, forall_eq, weak_refl, and_self]
  refine WP.weakB 2 [octs [], octs [], .int .i64 0, octs []] rfl weakz ?_
  simp only [List.set_cons_succ, List.set_cons_zero]
  refine WP.drawE mixed [.g 0 0, .g 0 0, .h 0, .g 0 1, .g 0 1, .h 1, .l, .l, .l, .h 2, .g 3 3, .l] (by decide) (fun k => if k = 0 then (leafH b .zero).take 4 else if k = 1 then (leafH b .zero).take 5 else if k = 2 then (leafH b .zero).take 6 else leafH b .zero) 3 (E := ?E) rfl ?hq ?hd
  case hd =>
    refine .fixed (v := f227) rfl (Nat.le_refl _) (Nat.le_refl _) (fun j a b => by have e : j = 0 := (by omega); subst e; rfl) ?_
    refine .fixed (v := .ptr 2 0) rfl (Nat.le_refl _) (Nat.le_refl _) (fun j a b => by have e : j = 0 := (by omega); subst e; rfl) ?_
    refine DR.heavyC (v := rowF[0]) rfl rfl (Callable.of told227) (octets_spec [octs b] [octs [], octs [], .int .i64 0, octs []] (.box zl) (.box [f227]) 0 []) ?_
    refine .fixed (v := f227) rfl (Nat.zero_le _) (Nat.le_refl _) (fun j a b => by rcases (by omega : j = 0 ∨ j = 1) with rfl | rfl <;> rfl) ?_
    refine .fixed (v := .ptr 2 1) rfl (Nat.zero_le _) (Nat.le_refl _) (fun j a b => by rcases (by omega : j = 0 ∨ j = 1) with rfl | rfl <;> rfl) ?_
    refine DR.heavyC (v := rowF[1]) rfl rfl (Callable.of told227) (octets_spec [octs b] [octs [], octs [], .int .i64 0, octs []] (.box zl) (.box [f227]) 1 [.box [.ptr 2 0]]) ?_
    refine .light (v := rowF[2]) rfl (fun j _ => rfl) ?_
    refine .light (v := rowF[3]) rfl (fun j _ => rfl) ?_
    refine .light (v := rowF[4]) rfl (fun j _ => rfl) ?_
    refine .heavy (v := .own 6 0 0 5) rfl rfl ?_
    refine .fixed (v := .int .i64 5) rfl (Nat.le_refl _) (Nat.le_refl _) (fun j a b => by have e : j = 3 := (by omega); subst e; rfl) ?_
    refine .light (v := .int .i64 0) rfl (fun j _ => rfl) ?_
    exact .nil
  simp only [updo_envL, setL_cons, setL_nil, Nat.reduceEqDiff, reduceIte]
  show thenQ _ _ .normal ⟨_, leafH b .zero⟩
  have ho := gbytes_oct hb
  rcases h1 : gbytes b with ⟨x, r1, e1⟩
  rw [h1] at ho
  have ho2 := gbytes_oct ho.2
  rcases h2 : gbytes r1 with ⟨y, r2, e2⟩
  simp only at ho
  rw [h2] at ho2
  simp only at ho2
  rcases h3 : gnum 1 r2 with ⟨s, r3, e3⟩
  have ho3 : Oct r3 := by
    have hl := ho2.2.1
    simp only [Small] at hl
    have : r3 = (gnum 1 r2).2.1 := by rw [h3]
    rw [this]
    unfold gnum
    split
    · exact .nil
    · exact ⟨by simp only [Small, List.length_drop]; omega, fun z hz => ho2.2.2 z (List.mem_of_mem_drop hz)⟩
  rcases h4 : gpar s r3 with ⟨p, r4, e4⟩
  have ho4 : Oct p := by
    have : p = (gpar s r3).1 := by rw [h4]
    rw [this]
    unfold gpar
    split
    · exact (gbytes_oct ho3).1
    · exact .nil
  have hs64 : In64 s := by
    have : s = (gnum 1 r2).1 := by rw [h3]
    rw [this]
    have e1 : IntKind.i64.min = -9223372036854775808 := rfl
    have e2 : IntKind.i64.max = 9223372036854775807 := rfl
    unfold gnum
    split
    · exact In64.zero
    · have := num_bd3 (l := r2.take 1) (bytes_take (bytes_of ho2.2) 1) (by rw [List.length_take]; omega)
      simp only [In64]; omega
  have ok : Leaf.Ok ⟨x, y, s, p⟩ := ⟨ho.1, ho2.1, ho4, hs64⟩
  rw [lget_eq h1 h2 h3 h4]
  have ld : ∀ (e0 e1 e2 e3 e4 e5 : Entry) (k : Nat) (hk : k < 5), evLoad [e0, e1, e2, e3, e4, e5, .arr 1 0 rowF] false 1 (.eptr 6 0 k 0) = rowF[k]? := fun e0 e1 e2 e3 e4 e5 k hk => by
    match k, hk with
    | 0, _ => rfl
    | 1, _ => rfl
    | 2, _ => rfl
    | 3, _ => rfl
    | 4, _ => rfl
  have ix : ∀ (e0 e1 e2 e3 e4 e5 : Entry) (k : Nat) (hk : k < 5), evIndex [e0, e1, e2, e3, e4, e5, .arr 1 0 rowF] 1 (.own 6 0 0 5) (.int .i64 (k : Int)) = some (.eptr 6 0 k 0) := fun e0 e1 e2 e3 e4 e5 k hk => by
    match k, hk with
    | 0, _ => rfl
    | 1, _ => rfl
    | 2, _ => rfl
    | 3, _ => rfl
    | 4, _ => rfl
  simp -implicitDefEqProofs only [leafA, innerA, nodeA, patchA, Leaf.cells, Inner.cells, Node.cells, decide_true, decide_false, go_sem, Nat.reduceEqDiff, reduceIte, Nat.reduceAdd, Nat.reduceLeDiff, Nat.reduceLT, Nat.reduceSub]
  refine WP.loopG (fun k => k ≤ 5 ∧ (1 ≤ k → e1 = 0) ∧ (2 ≤ k → e2 = 0) ∧ (3 ≤ k → srcE s e3 = 0) ∧ (4 ≤ k → e4 = 0) ∧ (5 ≤ k → leafCheck ⟨x, y, s, p⟩ = 0))
    (fun k => [(1, .ptr 0 0), (2, .ptr 1 0), (5, .ptr 2 0), (26, .own 6 0 0 5), (27, .int .i64 5), (28, .int .i64 (k : Nat))])
    (fun k => leafH (([b, r1, r2, r3, r4, r4][k]?).getD []) (([Leaf.zero, ⟨x, [], 0, []⟩, ⟨x, y, 0, []⟩, ⟨x, y, s, []⟩, ⟨x, y, s, p⟩, ⟨x, y, s, p⟩][k]?).getD .zero)) (fun k => 5 - k) 0 ⟨by omega, by omega, by omega, by omega, by omega, by omega⟩
    (fun k _ => ⟨by simp [leafH], by simp [leafH], fun e he => by
      rw [leafH_len]
      simp only [leafH, List.mem_cons, List.not_mem_nil, or_false] at he
      rcases he with rfl | rfl | rfl | rfl | rfl | rfl | rfl <;> first | exact entB_rowF | simp [f227, zl, entB_box]⟩) (by simp ) ?_
  rintro k ⟨hk, p1, p2, p3, p4, p5⟩
  have wk := wrapS (show k < 9223372036854775807 by omega)
  rcases (by omega : k = 0 ∨ k = 1 ∨ k = 2 ∨ k = 3 ∨ k = 4 ∨ k = 5) with hk0 | hk0 | hk0 | hk0 | hk0 | hk0
  · have hR : (([b, r1, r2, r3, r4, r4][k]?).getD []) = b := by rw [hk0]; rfl
    have hL : (([Leaf.zero, ⟨x, [], 0, []⟩, ⟨x, y, 0, []⟩, ⟨x, y, s, []⟩, ⟨x, y, s, p⟩, ⟨x, y, s, p⟩][k]?).getD .zero) = .zero := by rw [hk0]; rfl
    have ixk := fun e0 e1 e2 e3 e4 e5 => ix e0 e1 e2 e3 e4 e5 k (by omega)
    have ldk : ∀ e0 e1 e2 e3 e4 e5 : Entry, evLoad [e0, e1, e2, e3, e4, e5, .arr 1 0 rowF] false 1 (.eptr 6 0 k 0) = some (.func (.f 228) [] [.ptr 0 0, .ptr 4 0]) := fun e0 e1 e2 e3 e4 e5 => by rw [ld e0 e1 e2 e3 e4 e5 k (by omega), hk0]; rfl
    have hlt : (k : Int) < 5 := by omega
    rw [hR, hL]
    unfold leafH
    refine wpc_soundR [] ?_
    simp -implicitDefEqProofs only [leafA, innerA, nodeA, patchA, Leaf.cells, Inner.cells, Node.cells, decide_true, decide_false, hlt, ixk, ldk, go_sem, Nat.reduceEqDiff, reduceIte, Nat.reduceAdd, Nat.reduceLeDiff, Nat.reduceLT, Nat.reduceSub]
    refine Callee.fn (Callable.of told228) (read228_0 b (.box zl) (octs []) (octs []) (.int .i64 0) (octs []) [.box [f227], .box [.ptr 2 0], .box [.ptr 2 1], .arr 1 0 rowF] 1 hb rfl) ?_
    rintro _ _ ⟨rfl, rfl⟩
    by_cases he : e1 = 0
    · simp -implicitDefEqProofs only [leafA, innerA, nodeA, patchA, Leaf.cells, Inner.cells, Node.cells, decide_true, decide_false, h1, he, wk, go_sem, Nat.reduceEqDiff, reduceIte, Nat.reduceAdd, Nat.reduceLeDiff, Nat.reduceLT, Nat.reduceSub]
      exact ⟨k + 1, ⟨by omega, by omega, by omega, by omega, by omega⟩, by omega, by simp , by rw [hk0]; simp [Leaf.zero, f227]⟩
    · simp -implicitDefEqProofs only [leafA, innerA, nodeA, patchA, Leaf.cells, Inner.cells, Node.cells, decide_true, decide_false, h1, he, wk, ne_eq, not_false_eq_true, not_true_eq_false, zl, lgetS, go_sem, Nat.reduceEqDiff, reduceIte, Nat.reduceAdd, Nat.reduceLeDiff, Nat.reduceLT, Nat.reduceSub]
      exact ⟨rfl, rfl, rfl, rfl⟩
  · have hR : (([b, r1, r2, r3, r4, r4][k]?).getD []) = r1 := by rw [hk0]; rfl
    have hL : (([Leaf.zero, ⟨x, [], 0, []⟩, ⟨x, y, 0, []⟩, ⟨x, y, s, []⟩, ⟨x, y, s, p⟩, ⟨x, y, s, p⟩][k]?).getD .zero) = ⟨x, [], 0, []⟩ := by rw [hk0]; rfl
    have ixk := fun e0 e1 e2 e3 e4 e5 => ix e0 e1 e2 e3 e4 e5 k (by omega)
    have ldk : ∀ e0 e1 e2 e3 e4 e5 : Entry, evLoad [e0, e1, e2, e3, e4, e5, .arr 1 0 rowF] false 1 (.eptr 6 0 k 0) = some (.func (.f 228) [] [.ptr 0 0, .ptr 5 0]) := fun e0 e1 e2 e3 e4 e5 => by rw [ld e0 e1 e2 e3 e4 e5 k (by omega), hk0]; rfl
    have hlt : (k : Int) < 5 := by omega
    rw [hR, hL]
    unfold leafH
    refine wpc_soundR [] ?_
    simp -implicitDefEqProofs only [leafA, innerA, nodeA, patchA, Leaf.cells, Inner.cells, Node.cells, decide_true, decide_false, hlt, ixk, ldk, go_sem, Nat.reduceEqDiff, reduceIte, Nat.reduceAdd, Nat.reduceLeDiff, Nat.reduceLT, Nat.reduceSub]
    refine Callee.fn (Callable.of told228) (read228_1 r1 (.box zl) (octs x) (octs []) (.int .i64 0) (octs []) [.box [f227], .box [.ptr 2 0], .box [.ptr 2 1], .arr 1 0 rowF] 2 ho.2 rfl) ?_
    rintro _ _ ⟨rfl, rfl⟩
    by_cases he : e2 = 0
    · simp -implicitDefEqProofs only [leafA, innerA, nodeA, patchA, Leaf.cells, Inner.cells, Node.cells, decide_true, decide_false, h2, he, wk, go_sem, Nat.reduceEqDiff, reduceIte, Nat.reduceAdd, Nat.reduceLeDiff, Nat.reduceLT, Nat.reduceSub]
      exact ⟨k + 1, ⟨by omega, by omega, by omega, by omega, by omega⟩, by omega, by simp , by rw [hk0]; simp [Leaf.zero, f227]⟩
    · have q1 := p1 (by omega)
      simp -implicitDefEqProofs only [leafA, innerA, nodeA, patchA, Leaf.cells, Inner.cells, Node.cells, decide_true, decide_false, h2, he, wk, ne_eq, not_false_eq_true, not_true_eq_false, zl, lgetS, q1, go_sem, Nat.reduceEqDiff, reduceIte, Nat.reduceAdd, Nat.reduceLeDiff, Nat.reduceLT, Nat.reduceSub]
      exact ⟨rfl, rfl, rfl, rfl⟩
  · have hR : (([b, r1, r2, r3, r4, r4][k]?).getD []) = r2 := by rw [hk0]; rfl
    have hL : (([Leaf.zero, ⟨x, [], 0, []⟩, ⟨x, y, 0, []⟩, ⟨x, y, s, []⟩, ⟨x, y, s, p⟩, ⟨x, y, s, p⟩][k]?).getD .zero) = ⟨x, y, 0, []⟩ := by rw [hk0]; rfl
    have ixk := fun e0 e1 e2 e3 e4 e5 => ix e0 e1 e2 e3 e4 e5 k (by omega)
    have ldk : ∀ e0 e1 e2 e3 e4 e5 : Entry, evLoad [e0, e1, e2, e3, e4, e5, .arr 1 0 rowF] false 1 (.eptr 6 0 k 0) = some (.func (.f 229) [] [.ptr 0 0, .ptr 2 0]) := fun e0 e1 e2 e3 e4 e5 => by rw [ld e0 e1 e2 e3 e4 e5 k (by omega), hk0]; rfl
    have hlt : (k : Int) < 5 := by omega
    rw [hR, hL]
    unfold leafH
    refine wpc_soundR [] ?_
    simp -implicitDefEqProofs only [leafA, innerA, nodeA, patchA, Leaf.cells, Inner.cells, Node.cells, decide_true, decide_false, hlt, ixk, ldk, go_sem, Nat.reduceEqDiff, reduceIte, Nat.reduceAdd, Nat.reduceLeDiff, Nat.reduceLT, Nat.reduceSub]
    refine Callee.fn (Callable.of told229) (from_spec r2 (.box zl) (octs x) (octs y) (.int .i64 0) (octs []) [.box [f227], .box [.ptr 2 0], .box [.ptr 2 1], .arr 1 0 rowF] ho2.2) ?_
    rintro _ _ ⟨rfl, rfl⟩
    by_cases he : srcE s e3 = 0
    · simp -implicitDefEqProofs only [leafA, innerA, nodeA, patchA, Leaf.cells, Inner.cells, Node.cells, decide_true, decide_false, h3, he, wk, go_sem, Nat.reduceEqDiff, reduceIte, Nat.reduceAdd, Nat.reduceLeDiff, Nat.reduceLT, Nat.reduceSub]
      exact ⟨k + 1, ⟨by omega, by omega, by omega, by omega, by omega⟩, by omega, by simp , by rw [hk0]; simp [Leaf.zero, f227]⟩
    · have q1 := p1 (by omega)
      have q2 := p2 (by omega)
      simp -implicitDefEqProofs only [leafA, innerA, nodeA, patchA, Leaf.cells, Inner.cells, Node.cells, decide_true, decide_false, h3, he, wk, ne_eq, not_false_eq_true, not_true_eq_false, zl, lgetS, q1, q2, go_sem, Nat.reduceEqDiff, reduceIte, Nat.reduceAdd, Nat.reduceLeDiff, Nat.reduceLT, Nat.reduceSub]
      exact ⟨rfl, rfl, rfl, rfl⟩
  · have hR : (([b, r1, r2, r3, r4, r4][k]?).getD []) = r3 := by rw [hk0]; rfl
    have hL : (([Leaf.zero, ⟨x, [], 0, []⟩, ⟨x, y, 0, []⟩, ⟨x, y, s, []⟩, ⟨x, y, s, p⟩, ⟨x, y, s, p⟩][k]?).getD .zero) = ⟨x, y, s, []⟩ := by rw [hk0]; rfl
    have ixk := fun e0 e1 e2 e3 e4 e5 => ix e0 e1 e2 e3 e4 e5 k (by omega)
    have ldk : ∀ e0 e1 e2 e3 e4 e5 : Entry, evLoad [e0, e1, e2, e3, e4, e5, .arr 1 0 rowF] false 1 (.eptr 6 0 k 0) = some (.func (.f 230) [] [.ptr 2 0, .ptr 3 0]) := fun e0 e1 e2 e3 e4 e5 => by rw [ld e0 e1 e2 e3 e4 e5 k (by omega), hk0]; rfl
    have hlt : (k : Int) < 5 := by omega
    rw [hR, hL]
    unfold leafH
    refine wpc_soundR [] ?_
    simp -implicitDefEqProofs only [leafA, innerA, nodeA, patchA, Leaf.cells, Inner.cells, Node.cells, decide_true, decide_false, hlt, ixk, ldk, go_sem, Nat.reduceEqDiff, reduceIte, Nat.reduceAdd, Nat.reduceLeDiff, Nat.reduceLT, Nat.reduceSub]
    refine Callee.fn (Callable.of told230) (par_spec r3 s (.box zl) (octs x) (octs y) [.box [.ptr 2 0], .box [.ptr 2 1], .arr 1 0 rowF] ho3) ?_
    rintro _ _ ⟨rfl, X, rfl⟩
    by_cases he : e4 = 0
    · simp -implicitDefEqProofs only [leafA, innerA, nodeA, patchA, Leaf.cells, Inner.cells, Node.cells, decide_true, decide_false, h4, he, wk, go_sem, Nat.reduceEqDiff, reduceIte, Nat.reduceAdd, Nat.reduceLeDiff, Nat.reduceLT, Nat.reduceSub]
      exact ⟨k + 1, ⟨by omega, by omega, by omega, by omega, by omega⟩, by omega, by simp , by rw [hk0]; simp [Leaf.zero, f227]⟩
    · have q1 := p1 (by omega)
      have q2 := p2 (by omega)
      have q3 := p3 (by omega)
      simp -implicitDefEqProofs only [leafA, innerA, nodeA, patchA, Leaf.cells, Inner.cells, Node.cells, decide_true, decide_false, h4, he, wk, ne_eq, not_false_eq_true, not_true_eq_false, zl, lgetS, q1, q2, q3, go_sem, Nat.reduceEqDiff, reduceIte, Nat.reduceAdd, Nat.reduceLeDiff, Nat.reduceLT, Nat.reduceSub]
      exact ⟨rfl, rfl, rfl, rfl⟩
  · have hR : (([b, r1, r2, r3, r4, r4][k]?).getD []) = r4 := by rw [hk0]; rfl
    have hL : (([Leaf.zero, ⟨x, [], 0, []⟩, ⟨x, y, 0, []⟩, ⟨x, y, s, []⟩, ⟨x, y, s, p⟩, ⟨x, y, s, p⟩][k]?).getD .zero) = ⟨x, y, s, p⟩ := by rw [hk0]; rfl
    have ixk := fun e0 e1 e2 e3 e4 e5 => ix e0 e1 e2 e3 e4 e5 k (by omega)
    have ldk : ∀ e0 e1 e2 e3 e4 e5 : Entry, evLoad [e0, e1, e2, e3, e4, e5, .arr 1 0 rowF] false 1 (.eptr 6 0 k 0) = some (.func (.f 231) [] [.ptr 2 0]) := fun e0 e1 e2 e3 e4 e5 => by rw [ld e0 e1 e2 e3 e4 e5 k (by omega), hk0]; rfl
    have hlt : (k : Int) < 5 := by omega
    rw [hR, hL]
    unfold leafH
    refine wpc_soundR [] ?_
    simp -implicitDefEqProofs only [leafA, innerA, nodeA, patchA, Leaf.cells, Inner.cells, Node.cells, decide_true, decide_false, hlt, ixk, ldk, go_sem, Nat.reduceEqDiff, reduceIte, Nat.reduceAdd, Nat.reduceLeDiff, Nat.reduceLT, Nat.reduceSub]
    refine Callee.fn (Callable.of told231) (check_spec ⟨x, y, s, p⟩ (.box [octs r4]) (.box zl) [.box [f227], .box [.ptr 2 0], .box [.ptr 2 1], .arr 1 0 rowF] ok) ?_
    rintro _ _ ⟨rfl, rfl⟩
    by_cases he : leafCheck ⟨x, y, s, p⟩ = 0
    · simp -implicitDefEqProofs only [leafA, innerA, nodeA, patchA, Leaf.cells, Inner.cells, Node.cells, decide_true, decide_false, he, wk, go_sem, Nat.reduceEqDiff, reduceIte, Nat.reduceAdd, Nat.reduceLeDiff, Nat.reduceLT, Nat.reduceSub]
      exact ⟨k + 1, ⟨by omega, by omega, by omega, by omega, by omega⟩, by omega, by simp , by rw [hk0]; simp [Leaf.zero, f227]⟩
    · have q1 := p1 (by omega)
      have q2 := p2 (by omega)
      have q3 := p3 (by omega)
      have q4 := p4 (by omega)
      simp -implicitDefEqProofs only [leafA, innerA, nodeA, patchA, Leaf.cells, Inner.cells, Node.cells, decide_true, decide_false, he, wk, ne_eq, not_false_eq_true, not_true_eq_false, zl, lgetS, q1, q2, q3, q4, go_sem, Nat.reduceEqDiff, reduceIte, Nat.reduceAdd, Nat.reduceLeDiff, Nat.reduceLT, Nat.reduceSub]
      exact ⟨rfl, rfl, rfl, rfl⟩
  · have hR : (([b, r1, r2, r3, r4, r4][k]?).getD []) = r4 := by rw [hk0]; rfl
    have hL : (([Leaf.zero, ⟨x, [], 0, []⟩, ⟨x, y, 0, []⟩, ⟨x, y, s, []⟩, ⟨x, y, s, p⟩, ⟨x, y, s, p⟩][k]?).getD .zero) = ⟨x, y, s, p⟩ := by rw [hk0]; rfl
    have hlt : ¬ (k : Int) < 5 := by omega
    have q1 := p1 (by omega)
    have q2 := p2 (by omega)
    have q3 := p3 (by omega)
    have q4 := p4 (by omega)
    have q5 := p5 (by omega)
    rw [hR, hL]
    unfold leafH
    refine wpc_soundR [] ?_
    simp -implicitDefEqProofs only [leafA, innerA, nodeA, patchA, Leaf.cells, Inner.cells, Node.cells, decide_true, decide_false, hlt, go_sem, Nat.reduceEqDiff, reduceIte, Nat.reduceAdd, Nat.reduceLeDiff, Nat.reduceLT, Nat.reduceSub]
    refine WP.drawQ [] [.g 0 0, .g 0 1, .h 0, .l, .l] mixed (by decide) ?_
    simp -implicitDefEqProofs only [leafA, innerA, nodeA, patchA, Leaf.cells, Inner.cells, Node.cells, decide_true, decide_false, q1, q2, q3, q4, q5, ne_eq, not_true_eq_false, zl, lgetS, go_sem, Nat.reduceEqDiff, reduceIte, Nat.reduceAdd, Nat.reduceLeDiff, Nat.reduceLT, Nat.reduceSub]
noncomputable def r213 : Reg seat := .of told213 (ask1 (fun a0' => isO a0' ∧ Oct (dO a0')) fun a0' => .fn (.tup [leafA (lget (dO a0')).1, octs (lget (dO a0')).2.1, .int .i64 (lget (dO a0')).2.2])) (ask1_ok fun a0' h => SaidOk.fn (Fun.weak (.cons (isO.weak h.1) .nil) (lget_spec _ h.2)))
theorem r213_c : r213.c = 213 := rfl
open Classical in
theorem r213_ask (a0' : AV) : r213.ask [a0'] = if isO a0' ∧ Oct (dO a0') then some (Said.fn (.tup [leafA (lget (dO a0')).1, octs (lget (dO a0')).2.1, .int .i64 (lget (dO a0')).2.2])) else none := by unfold r213 Reg.of ask1; exact ite_cl
end

section
attribute [local go_sem high] qgrdW_tt
def ngetK (r : List Int) : Node × List Int × Int :=
  if (gnum 1 r).2.2 ≠ 0 then (.zero, [], (gnum 1 r).2.2) else
  if (gnum 1 r).1 = 1 then (if (lget (gnum 1 r).2.1).2.2 ≠ 0 then (.zero, [], (lget (gnum 1 r).2.1).2.2) else (⟨1, (lget (gnum 1 r).2.1).1, .zero⟩, (lget (gnum 1 r).2.1).2.1, 0)) else
  if (gnum 1 r).1 = 2 then (if (iget (gnum 1 r).2.1).2.2 ≠ 0 then (.zero, [], (iget (gnum 1 r).2.1).2.2) else (⟨2, .zero, (iget (gnum 1 r).2.1).1⟩, (iget (gnum 1 r).2.1).2.1, 0)) else (.zero, [], 7)
def nget (b : List Int) : Node × List Int × Int := if (gflag b).2.2 ≠ 0 ∨ (gflag b).1 = false then (.zero, (gflag b).2.1, (gflag b).2.2) else ngetK (gflag b).2.1
theorem gnum_sub (k : Nat) (b : List Int) : (gnum k b).2.1.length ≤ b.length ∧ ∀ x ∈ (gnum k b).2.1, x ∈ b := by
  unfold gnum
  split
  · simp
  · exact ⟨by simp, fun x hx => List.mem_of_mem_drop hx⟩
theorem gnum_oct {k : Nat} {b : List Int} (h : Oct b) : Oct (gnum k b).2.1 := by
  have hs := gnum_sub k b
  have hl := h.1
  simp only [Small] at hl
  exact ⟨by simp only [Small]; omega, fun x hx => h.2 x (hs.2 x hx)⟩
theorem gflag_sub (b : List Int) : (gflag b).2.1.length ≤ b.length ∧ ∀ x ∈ (gflag b).2.1, x ∈ b := by
  have := gnum_sub 1 b
  unfold gflag
  split
  · simp
  · split
    · simp
    · exact this
theorem gflag_oct {b : List Int} (h : Oct b) : Oct (gflag b).2.1 := by
  have hs := gflag_sub b
  have hl := h.1
  simp only [Small] at hl
  exact ⟨by simp only [Small]; omega, fun x hx => h.2 x (hs.2 x hx)⟩
set_option maxHeartbeats 2000000 in
theorem nget_spec (b : List Int) (hb : Oct b) (hl : b.length ≤ 4294967295) : Fun seat 189 [octs b] (.tup [nodeA (nget b).1, octs (nget b).2.1, .int .i64 (nget b).2.2]) := by
  have ho := gflag_oct hb
  have hs := (gflag_sub b).1
  unfold nget
  rcases hf : gflag b with ⟨t, r, e⟩
  rw [hf] at ho hs
  simp only at ho hs ⊢
  by_cases he : e = 0
  rotate_left
  · rw [if_pos (.inl he)]
    refine Fun.of0R [r211] told189 (by simp [il189]) (by simp [idb_patchA]) (by simp [idb_patchA]) 4 ?_
    simp -implicitDefEqProofs only [il189, List.zipIdx_cons, List.zipIdx_nil, leafA, innerA, nodeA, patchA, Leaf.cells, Inner.cells, Node.cells, r211_c, r211_ask, decide_true, decide_false, hb, hf, he, go_sem, Nat.reduceEqDiff, reduceIte, Nat.reduceAdd, Nat.reduceLeDiff, Nat.reduceLT, Nat.reduceSub]
  cases t with
  | false =>
    rw [if_pos (.inr rfl)]
    refine Fun.of0R [r211] told189 (by simp [il189]) (by simp [idb_patchA]) (by simp [idb_patchA]) 4 ?_
    simp -implicitDefEqProofs only [il189, List.zipIdx_cons, List.zipIdx_nil, leafA, innerA, nodeA, patchA, Leaf.cells, Inner.cells, Node.cells, r211_c, r211_ask, decide_true, decide_false, hb, hf, he, go_sem, Nat.reduceEqDiff, reduceIte, Nat.reduceAdd, Nat.reduceLeDiff, Nat.reduceLT, Nat.reduceSub]
  | true =>
    rw [if_neg (by rintro (h | h); exact h he; cases h)]
    have ho2 := gnum_oct (k := 1) ho
    have hs2 := (gnum_sub 1 r).1
    unfold ngetK
    rcases hg : gnum 1 r with ⟨k, r2, e2⟩
    rw [hg] at ho2 hs2
    simp only at ho2 hs2 ⊢
    have hl2 : r2.length ≤ 4294967295 := by omega
    by_cases h2 : e2 = 0
    rotate_left
    · rw [if_pos h2]
      refine Fun.of0R [r211, r212] told189 (by simp [il189]) (by simp [idb_patchA]) (by simp [idb_patchA]) 4 ?_
      simp -implicitDefEqProofs only [il189, List.zipIdx_cons, List.zipIdx_nil, leafA, innerA, nodeA, patchA, Leaf.cells, Inner.cells, Node.cells, r211_c, r211_ask, r212_c, r212_ask, decide_true, decide_false, hb, hf, he, ho, clamp1, hg, h2, go_sem, Nat.reduceEqDiff, reduceIte, Nat.reduceAdd, Nat.reduceLeDiff, Nat.reduceLT, Nat.reduceSub]
    rw [if_neg (not_not_intro h2)]
    by_cases k1 : k = 1
    · subst k1
      rw [if_pos rfl]
      rcases hlg : lget r2 with ⟨l, r3, e3⟩
      simp only
      by_cases h3 : e3 = 0
      · rw [if_neg (not_not_intro h3)]
        refine Fun.of0R [r211, r212, r213] told189 (by simp [il189]) (by simp [idb_patchA]) (by simp [idb_patchA]) 4 ?_
        simp -implicitDefEqProofs only [il189, List.zipIdx_cons, List.zipIdx_nil, leafA, innerA, nodeA, patchA, Leaf.cells, Inner.cells, Node.cells, r211_c, r211_ask, r212_c, r212_ask, r213_c, r213_ask, decide_true, decide_false, hb, hf, he, ho, clamp1, hg, h2, ho2, hlg, h3, Int.reduceEq, go_sem, Nat.reduceEqDiff, reduceIte, Nat.reduceAdd, Nat.reduceLeDiff, Nat.reduceLT, Nat.reduceSub]
        exact ⟨rfl, rfl, rfl⟩
      · rw [if_pos h3]
        refine Fun.of0R [r211, r212, r213] told189 (by simp [il189]) (by simp [idb_patchA]) (by simp [idb_patchA]) 4 ?_
        simp -implicitDefEqProofs only [il189, List.zipIdx_cons, List.zipIdx_nil, leafA, innerA, nodeA, patchA, Leaf.cells, Inner.cells, Node.cells, r211_c, r211_ask, r212_c, r212_ask, r213_c, r213_ask, decide_true, decide_false, hb, hf, he, ho, clamp1, hg, h2, ho2, hlg, h3, Int.reduceEq, go_sem, Nat.reduceEqDiff, reduceIte, Nat.reduceAdd, Nat.reduceLeDiff, Nat.reduceLT, Nat.reduceSub]
    rw [if_neg k1]
    by_cases k2 : k = 2
    · subst k2
      rw [if_pos rfl]
      rcases hlg : iget r2 with ⟨l, r3, e3⟩
      simp only
      by_cases h3 : e3 = 0
      · rw [if_neg (not_not_intro h3)]
        refine Fun.of0R [r211, r212, r181] told189 (by simp [il189]) (by simp [idb_patchA]) (by simp [idb_patchA]) 4 ?_
        simp -implicitDefEqProofs only [il189, List.zipIdx_cons, List.zipIdx_nil, leafA, innerA, nodeA, patchA, Leaf.cells, Inner.cells, Node.cells, r211_c, r211_ask, r212_c, r212_ask, r181_c, r181_ask, decide_true, decide_false, hb, hf, he, ho, clamp1, hg, h2, ho2, hl2, hlg, h3, Int.reduceEq, go_sem, Nat.reduceEqDiff, reduceIte, Nat.reduceAdd, Nat.reduceLeDiff, Nat.reduceLT, Nat.reduceSub]
        exact ⟨rfl, rfl, rfl, rfl⟩
      · rw [if_pos h3]
        refine Fun.of0R [r211, r212, r181] told189 (by simp [il189]) (by simp [idb_patchA]) (by simp [idb_patchA]) 4 ?_
        simp -implicitDefEqProofs only [il189, List.zipIdx_cons, List.zipIdx_nil, leafA, innerA, nodeA, patchA, Leaf.cells, Inner.cells, Node.cells, r211_c, r211_ask, r212_c, r212_ask, r181_c, r181_ask, decide_true, decide_false, hb, hf, he, ho, clamp1, hg, h2, ho2, hl2, hlg, h3, Int.reduceEq, go_sem, Nat.reduceEqDiff, reduceIte, Nat.reduceAdd, Nat.reduceLeDiff, Nat.reduceLT, Nat.reduceSub]
    · rw [if_neg k2]
      refine Fun.of0R [r211, r212] told189 (by simp [il189]) (by simp [idb_patchA]) (by simp [idb_patchA]) 4 ?_
      simp -implicitDefEqProofs only [il189, List.zipIdx_cons, List.zipIdx_nil, leafA, innerA, nodeA, patchA, Leaf.cells, Inner.cells, Node.cells, r211_c, r211_ask, r212_c, r212_ask, decide_true, decide_false, hb, hf, he, ho, clamp1, hg, h2, k1, k2, Int.reduceEq, go_sem, Nat.reduceEqDiff, reduceIte, Nat.reduceAdd, Nat.reduceLeDiff, Nat.reduceLT, Nat.reduceSub]
noncomputable def r189 : Reg seat := .of told189 (ask1 (fun a0' => isO a0' ∧ Oct (dO a0') ∧ (dO a0').length ≤ 4294967295) fun a0' => .fn (.tup [nodeA (nget (dO a0')).1, octs (nget (dO a0')).2.1, .int .i64 (nget (dO a0')).2.2])) (ask1_ok fun a0' h => SaidOk.fn (Fun.weak (.cons (isO.weak h.1) .nil) (nget_spec _ h.2.1 h.2.2)))
theorem r189_c : r189.c = 189 := rfl
open Classical in
theorem r189_ask (a0' : AV) : r189.ask [a0'] = if isO a0' ∧ Oct (dO a0') ∧ (dO a0').length ≤ 4294967295 then some (Said.fn (.tup [nodeA (nget (dO a0')).1, octs (nget (dO a0')).2.1, .int .i64 (nget (dO a0')).2.2])) else none := by unfold r189 Reg.of ask1; exact ite_cl

def n9 : Node := ⟨1, ⟨[7], [], 1, []⟩, .zero⟩
theorem n9_ok : n9.Ok := ⟨⟨⟨by simp [Small, n9], by simp [n9]; decide⟩, .nil, .nil, by simp [n9, In64]; decide⟩, .zero, by simp [n9, In64]; decide⟩
end

theorem gnum1_only {b r : List Int} {s : Int} (h : gnum 1 b = (s, r, 0)) : b = s :: r := by
  cases b with
  | nil => simp [gnum] at h
  | cons x t => simp [gnum, num] at h; obtain ⟨rfl, rfl⟩ := h; rfl
theorem beK1_byte {s : Int} (h : 0 ≤ s ∧ s ≤ 255) : beK 1 s = [s] := by
  simp [beK, List.range_succ]; omega
theorem pbytes_app (b v : List Int) : pbytes b v = b ++ pbytes [] v := by
  unfold pbytes
  split
  · simp
  · simp
theorem iput_app (b : List Int) (n : Inner) : iput b n = b ++ iput [] n := by
  unfold iput pnums
  split
  · simp
  · rw [pbytes_app (pbytes (pbytes b n.enc) n.hash), pbytes_app (pbytes b n.enc), pbytes_app b, pbytes_app (pbytes (pbytes [] n.enc) n.hash), pbytes_app (pbytes [] n.enc)]
    simp only [List.append_assoc]
theorem lput_app (b : List Int) (l : Leaf) : lput b l = b ++ lput [] l := by
  unfold lput
  split
  · simp
  · split
    · rw [pbytes_app (pbytes (pbytes b l.enc) l.cred ++ beK 1 l.source), pbytes_app (pbytes b l.enc), pbytes_app b, pbytes_app (pbytes (pbytes [] l.enc) l.cred ++ beK 1 l.source), pbytes_app (pbytes [] l.enc)]
      simp only [List.append_assoc]
    · rw [pbytes_app (pbytes b l.enc), pbytes_app b, pbytes_app (pbytes [] l.enc)]
      simp only [List.append_assoc]
theorem leafCheck_ok {l : Leaf} (h : leafCheck l = 0) : l.enc.length ≠ 0 ∧ l.enc.length ≤ 200 ∧ l.cred.length ≤ 200 ∧ l.parent.length ≤ 200 ∧ 1 ≤ l.source ∧ l.source ≤ 3 ∧ (l.source ≠ 3 → l.parent = []) := by
  unfold leafCheck at h
  by_cases h1 : l.enc.length = 0
  · rw [if_pos h1] at h; cases h
  rw [if_neg h1] at h
  by_cases h2 : l.enc.length > 200 ∨ l.cred.length > 200 ∨ l.parent.length > 200
  · rw [if_pos h2] at h; cases h
  rw [if_neg h2] at h
  by_cases h3 : l.source < 1 ∨ l.source > 3
  · rw [if_pos h3] at h; cases h
  rw [if_neg h3] at h
  by_cases h4 : l.source ≠ 3 ∧ l.parent.length > 0
  · rw [if_pos h4] at h; cases h
  refine ⟨h1, by omega, by omega, by omega, by omega, by omega, fun hs => ?_⟩
  have : ¬ l.parent.length > 0 := fun hp => h4 ⟨hs, hp⟩
  exact List.eq_nil_of_length_eq_zero (by omega)
theorem lput_eq {l : Leaf} (h : leafCheck l = 0) : lput [] l = f1 l.enc ++ (f1 l.cred ++ (l.source :: (if l.source = 3 then f1 l.parent else []))) := by
  obtain ⟨a, b, c, d, e, f, g⟩ := leafCheck_ok h
  unfold lput
  rw [if_neg (not_not_intro h), pbytes_eq (b := []) (by omega), pbytes_eq (v := l.cred) (by omega), beK1_byte ⟨by omega, by omega⟩]
  split
  · rw [pbytes_eq (by omega)]; simp only [f1, List.nil_append, List.append_assoc, List.cons_append]
  · simp only [f1, List.nil_append, List.append_assoc, List.cons_append]
theorem srcE_zero {s e : Int} (h : srcE s e = 0) : e = 0 ∧ 1 ≤ s ∧ s ≤ 3 := by
  unfold srcE at h
  by_cases hc : e = 0 ∧ ¬ (s ≥ 1 ∧ s ≤ 3)
  · rw [if_pos hc] at h; cases h
  · rw [if_neg hc] at h
    refine ⟨h, ?_⟩
    by_cases hs : s ≥ 1 ∧ s ≤ 3
    · exact hs
    · exact absurd ⟨h, hs⟩ hc
theorem lget_only {b r : List Int} {l : Leaf} (hb : Bytes b) (h : lget b = (l, r, 0)) : leafCheck l = 0 ∧ lput [] l ++ r = b := by
  rcases h1 : gbytes b with ⟨x, r1, e1⟩
  rcases h2 : gbytes r1 with ⟨y, r2, e2⟩
  rcases h3 : gnum 1 r2 with ⟨s, r3, e3⟩
  rcases h4 : gpar s r3 with ⟨p, r4, e4⟩
  rw [lget_eq h1 h2 h3 h4] at h
  by_cases q1 : e1 = 0
  rotate_left
  · rw [if_pos q1] at h; simp only [Prod.mk.injEq] at h; exact absurd h.2.2 q1
  rw [if_neg (not_not_intro q1)] at h
  by_cases q2 : e2 = 0
  rotate_left
  · rw [if_pos q2] at h; simp only [Prod.mk.injEq] at h; exact absurd h.2.2 q2
  rw [if_neg (not_not_intro q2)] at h
  by_cases q3 : srcE s e3 = 0
  rotate_left
  · rw [if_pos q3] at h; simp only [Prod.mk.injEq] at h; exact absurd h.2.2 q3
  rw [if_neg (not_not_intro q3)] at h
  by_cases q4 : e4 = 0
  rotate_left
  · rw [if_pos q4] at h; simp only [Prod.mk.injEq] at h; exact absurd h.2.2 q4
  rw [if_neg (not_not_intro q4)] at h
  unfold lgetS at h
  by_cases q5 : leafCheck ⟨x, y, s, p⟩ = 0
  rotate_left
  · rw [if_pos q5] at h; simp only [Prod.mk.injEq] at h; exact absurd h.2.2 q5
  rw [if_neg (not_not_intro q5)] at h
  simp only [Prod.mk.injEq, and_true] at h
  obtain ⟨rfl, rfl⟩ := h
  refine ⟨q5, ?_⟩
  subst q1; subst q2; subst q4
  obtain ⟨rfl, hs⟩ := srcE_zero q3
  have b1 := gbytes_rest hb h1
  have b2 := gbytes_rest b1.2 h2
  have o1 := (gbytes_only hb h1).2
  have o2 := (gbytes_only b1.2 h2).2
  have o3 := gnum1_only h3
  have b3 : Bytes r3 := fun z hz => b2.2 z (by rw [o3]; simp [hz])
  rw [lput_eq q5]
  simp only
  unfold gpar at h4
  by_cases h33 : s = 3
  · rw [if_pos h33] at h4 ⊢
    have o4 := (gbytes_only b3 h4).2
    simp only [f1, List.append_assoc, List.cons_append] at *
    rw [o4, ← o3, o2, o1]
  · rw [if_neg h33] at h4 ⊢
    simp only [Prod.mk.injEq] at h4
    obtain ⟨rfl, rfl, _⟩ := h4
    simp only [f1, List.append_assoc, List.cons_append, List.nil_append] at *
    rw [← o3, o2, o1]
theorem gflag_only {b r : List Int} {t : Bool} (hb : Bytes b) (h : gflag b = (t, r, 0)) : b = (if t then 1 else 0) :: r := by
  unfold gflag at h
  rcases hg : gnum 1 b with ⟨v, r1, e⟩
  rw [hg] at h
  simp only at h
  by_cases he : e = 0
  rotate_left
  · rw [if_pos he] at h; simp only [Prod.mk.injEq] at h; exact absurd h.2.2 he
  rw [if_neg (not_not_intro he)] at h
  by_cases hv : v > 1
  · rw [if_pos hv] at h; simp at h
  rw [if_neg hv] at h
  simp only [Prod.mk.injEq, and_true] at h
  obtain ⟨rfl, rfl⟩ := h
  subst he
  have o := gnum1_only hg
  have := hb v (by rw [o]; simp)
  rw [o]
  by_cases h1 : v = 1
  · subst h1; rfl
  · have : v = 0 := by omega
    subst this; rfl
theorem nodeCheck_leaf (l : Leaf) : nodeCheck ⟨1, l, .zero⟩ = leafCheck l := by simp [nodeCheck]
theorem nodeCheck_inner (n : Inner) : nodeCheck ⟨2, .zero, n⟩ = innerCheck n := by simp [nodeCheck]
theorem nput_leaf {l : Leaf} (h : leafCheck l = 0) : nput [] ⟨1, l, .zero⟩ = [1, 1] ++ lput [] l := by
  have k : knownN ⟨1, l, .zero⟩ = ⟨1, l, .zero⟩ := if_neg (by rw [nodeCheck_leaf]; exact not_not_intro h)
  unfold nput
  rw [k, if_neg (by simp), if_pos rfl, lput_app]; rfl
theorem nput_inner {n : Inner} (h : innerCheck n = 0) : nput [] ⟨2, .zero, n⟩ = [1, 2] ++ iput [] n := by
  have k : knownN ⟨2, .zero, n⟩ = ⟨2, .zero, n⟩ := if_neg (by rw [nodeCheck_inner]; exact not_not_intro h)
  unfold nput
  rw [k, if_pos rfl, iput_app]; rfl
theorem nput_zero : nput [] .zero = [0] := by decide +kernel
theorem nget_only {b r : List Int} {n : Node} (hb : Bytes b) (h : nget b = (n, r, 0)) : nodeCheck n = 0 ∧ nput [] n ++ r = b := by
  unfold nget at h
  rcases hf : gflag b with ⟨t, r1, e⟩
  rw [hf] at h
  simp only at h
  by_cases hc : e ≠ 0 ∨ t = false
  · rw [if_pos hc] at h
    simp only [Prod.mk.injEq] at h
    obtain ⟨rfl, rfl, rfl⟩ := h
    rcases hc with hc | rfl
    · exact absurd rfl hc
    · have o := gflag_only hb hf
      exact ⟨by decide, by rw [nput_zero, o]; rfl⟩
  · rw [if_neg hc] at h
    have he : e = 0 := by
      by_cases he : e = 0
      · exact he
      · exact absurd (.inl he) hc
    have ht : t = true := by
      cases t with
      | true => rfl
      | false => exact absurd (.inr rfl) hc
    subst he; subst ht
    have o := gflag_only hb hf
    have b1 : Bytes r1 := fun z hz => hb z (by rw [o]; simp [hz])
    unfold ngetK at h
    rcases hg : gnum 1 r1 with ⟨k, r2, e2⟩
    rw [hg] at h
    simp only at h
    by_cases he2 : e2 = 0
    rotate_left
    · rw [if_pos he2] at h; simp only [Prod.mk.injEq] at h; exact absurd h.2.2 he2
    rw [if_neg (not_not_intro he2)] at h
    subst he2
    have o2 := gnum1_only hg
    have b2 : Bytes r2 := fun z hz => b1 z (by rw [o2]; simp [hz])
    by_cases k1 : k = 1
    · rw [if_pos k1] at h
      rcases hl : lget r2 with ⟨l, r3, e3⟩
      rw [hl] at h
      simp only at h
      by_cases he3 : e3 = 0
      rotate_left
      · rw [if_pos he3] at h; simp only [Prod.mk.injEq] at h; exact absurd h.2.2 he3
      rw [if_neg (not_not_intro he3)] at h
      simp only [Prod.mk.injEq, and_true] at h
      obtain ⟨rfl, rfl⟩ := h
      subst he3
      obtain ⟨c1, c2⟩ := lget_only b2 hl
      exact ⟨by rw [nodeCheck_leaf]; exact c1, by rw [nput_leaf c1, List.append_assoc, c2, o, o2, k1]; rfl⟩
    rw [if_neg k1] at h
    by_cases k2 : k = 2
    · rw [if_pos k2] at h
      rcases hl : iget r2 with ⟨l, r3, e3⟩
      rw [hl] at h
      simp only at h
      by_cases he3 : e3 = 0
      rotate_left
      · rw [if_pos he3] at h; simp only [Prod.mk.injEq] at h; exact absurd h.2.2 he3
      rw [if_neg (not_not_intro he3)] at h
      simp only [Prod.mk.injEq, and_true] at h
      obtain ⟨rfl, rfl⟩ := h
      subst he3
      obtain ⟨c1, c2⟩ := iget_only b2 hl
      exact ⟨by rw [nodeCheck_inner]; exact c1, by rw [nput_inner c1, List.append_assoc, c2, o, o2, k2]; rfl⟩
    · rw [if_neg k2] at h
      simp only [Prod.mk.injEq] at h
      exact absurd h.2.2 (by decide)

theorem lget_ok {b : List Int} (hb : Oct b) : (lget b).1.Ok := by
  have ho := gbytes_oct hb
  rcases h1 : gbytes b with ⟨x, r1, e1⟩
  rw [h1] at ho
  have ho2 := gbytes_oct ho.2
  simp only at ho
  rcases h2 : gbytes r1 with ⟨y, r2, e2⟩
  rw [h2] at ho2
  simp only at ho2
  have ho3 := gnum_oct (k := 1) ho2.2
  rcases h3 : gnum 1 r2 with ⟨s, r3, e3⟩
  have hs64 : In64 s := by
    have : s = (gnum 1 r2).1 := by rw [h3]
    rw [this]
    have e1 : IntKind.i64.min = -9223372036854775808 := rfl
    have e2 : IntKind.i64.max = 9223372036854775807 := rfl
    unfold gnum
    split
    · exact In64.zero
    · have := num_bd3 (l := r2.take 1) (bytes_take (bytes_of ho2.2) 1) (by rw [List.length_take]; omega)
      simp only [In64]; omega
  rw [h3] at ho3
  simp only at ho3
  rcases h4 : gpar s r3 with ⟨p, r4, e4⟩
  have ho4 : Oct p := by
    have : p = (gpar s r3).1 := by rw [h4]
    rw [this]
    unfold gpar
    split
    · exact (gbytes_oct ho3).1
    · exact .nil
  rw [lget_eq h1 h2 h3 h4]
  split
  · exact .zero
  · split
    · exact .zero
    · split
      · exact .zero
      · split
        · exact .zero
        · unfold lgetS
          split
          · exact .zero
          · exact ⟨ho.1, ho2.1, ho4, hs64⟩
theorem nget_ok {b : List Int} (hb : Oct b) : (nget b).1.Ok := by
  unfold nget
  split
  · exact .zero
  · have ho := gnum_oct (k := 1) (gflag_oct hb)
    unfold ngetK
    split
    · exact .zero
    · split
      · split
        · exact .zero
        · exact ⟨lget_ok ho, .zero, by simp only [In64]; decide⟩
      · split
        · split
          · exact .zero
          · exact ⟨.zero, iget_ok ho, by simp only [In64]; decide⟩
        · exact .zero
theorem nget_bad {b r : List Int} {n : Node} {e : Int} (h : nget b = (n, r, e)) (he : ¬ e = 0) : n = .zero ∧ r = [] := by
  unfold nget at h
  by_cases hc : (gflag b).2.2 ≠ 0 ∨ (gflag b).1 = false
  · rw [if_pos hc] at h
    simp only [Prod.mk.injEq] at h
    obtain ⟨rfl, rfl, rfl⟩ := h
    refine ⟨rfl, ?_⟩
    unfold gflag at he ⊢
    split
    · rfl
    · split
      · rfl
      · rename_i h1 h2
        rw [if_neg h1, if_neg h2] at he
        exact absurd rfl he
  · rw [if_neg hc] at h
    unfold ngetK at h
    split at h
    · simp only [Prod.mk.injEq] at h; exact ⟨h.1.symm, h.2.1.symm⟩
    · split at h
      · split at h
        · simp only [Prod.mk.injEq] at h; exact ⟨h.1.symm, h.2.1.symm⟩
        · simp only [Prod.mk.injEq] at h; exact absurd h.2.2.symm he
      · split at h
        · split at h
          · simp only [Prod.mk.injEq] at h; exact ⟨h.1.symm, h.2.1.symm⟩
          · simp only [Prod.mk.injEq] at h; exact absurd h.2.2.symm he
        · simp only [Prod.mk.injEq] at h; exact ⟨h.1.symm, h.2.1.symm⟩

theorem nput_known (b : List Int) (n : Node) : nput b n = nput b (knownN n) := by
  have : knownN (knownN n) = knownN n := by
    unfold knownN
    by_cases h : nodeCheck n = 0
    · rw [if_neg (not_not_intro h), if_neg (not_not_intro h)]
    · rw [if_pos h]; exact if_neg (by decide)
  unfold nput
  rw [this]
theorem known_cases (n : Node) : knownN n = .zero ∨ (∃ l, leafCheck l = 0 ∧ knownN n = ⟨1, l, .zero⟩) ∨ (∃ m, innerCheck m = 0 ∧ knownN n = ⟨2, .zero, m⟩) := by
  by_cases h : nodeCheck n = 0
  rotate_left
  · exact .inl (if_pos h)
  have hkn : knownN n = n := if_neg (not_not_intro h)
  rw [hkn]
  clear hkn
  unfold nodeCheck at h
  by_cases h1 : n.kind < 0 ∨ n.kind > 2
  · rw [if_pos h1] at h; cases h
  rw [if_neg h1] at h
  by_cases h2 : n.kind ≠ 1 ∧ n.leaf ≠ .zero ∨ n.kind ≠ 2 ∧ n.inner ≠ .zero
  · rw [if_pos h2] at h; cases h
  rw [if_neg h2] at h
  obtain ⟨k, l, m⟩ := n
  simp only at h h1 h2
  have p1 : k ≠ 1 → l = .zero := fun hk => Classical.not_not.1 fun hl => h2 (.inl ⟨hk, hl⟩)
  have p2 : k ≠ 2 → m = .zero := fun hk => Classical.not_not.1 fun hl => h2 (.inr ⟨hk, hl⟩)
  rcases (by omega : k = 0 ∨ k = 1 ∨ k = 2) with rfl | rfl | rfl
  · left; rw [p1 (by decide), p2 (by decide)]; rfl
  · right; left
    rw [if_pos rfl] at h
    exact ⟨l, h, by rw [p2 (by decide)]⟩
  · right; right
    rw [if_neg (by decide), if_pos rfl] at h
    exact ⟨m, h, by rw [p1 (by decide)]⟩
theorem nput_app (b : List Int) (n : Node) : nput b n = b ++ nput [] n := by
  unfold nput
  split
  · rw [iput_app, iput_app (fput [] true ++ beK 1 2)]; simp [fput]
  · split
    · rw [lput_app, lput_app (fput [] true ++ beK 1 1)]; simp [fput]
    · simp [fput]
end Go.Proofs.YtihhinbjhiankaaGreatDoor.Al
