/-
  SPECS: numbers on the wire are got.
-/
import Derived.Test.YtlehcigcaihoaaaGreatAlM5
set_option linter.unusedSimpArgs false
set_option linter.unusedVariables false
namespace Go.Proofs.YtlehcigcaihoaaaGreat.Al
open Go
attribute [local go_sem] W_mv W_pick W_alloc W_box W_build W_bslice W_load W_store W_nilck W_bin W_isnil W_un W_convI W_convS W_mkiface W_mkfunc W_mkslice W_slice W_faddr W_field W_iaddr W_iaddrA W_idxA W_extract W_len W_lenS W_lenA W_min W_max W_append W_appendZ W_copy W_clear W_tassert W_invoke thenQ_normal thenQ_exit thenQ_goto thenQ_ret blockQ_normal blockQ_ret blockQ_goto blockQ_exit wpc_skip wpc_region wpc_draw wpc_seq wpc_cond wpc_block wpc_exit wpc_goto wpc_label wpc_ret wpc_loop wpc_range wpc_scope condW_true condW_false condW_dec condW_any W_nil W_call resW_some evalOp Opd.ev updo_envL updo_none setL_cons setL_nil envL_cons Option.map_some Option.bind_some evBin evInt List.map_cons List.map_nil Option.pure_def Option.bind_eq_bind W_grd' grdW_tt grdW_ff grdW_tf grdW_ft grdW_tup grdW_dt grdW_df lgrdW_tt lgrdW_ff lgrdW_tf lgrdW_ft lgrdW_tup lgrdW_dt lgrdW_df L_mv L_pick L_alloc L_box L_build L_bslice L_load L_store L_nilck L_bin L_isnil L_un L_convI L_convS L_mkiface L_mkfunc L_mkslice L_slice L_faddr L_field L_iaddr L_iaddrA L_idxA L_extract L_len L_lenS L_lenA L_min L_max L_append L_appendZ L_copy L_clear L_tassert L_nil L_call L_grd lresW_some upd_envL evUn beq_dec bne_dec leaves_ret1 leaves_end1 leaves_ret0 leaves_end0 leaves_ret2 leaves_ret3 rowLen_ints load_iptr0 not_dec heap_get0 heap_get1 heap_set0 heap_set1 heap_len1 heap_len2 heap_app heap_app2 bslice1_int seen_ints seen_one0 seen_one1 seen_one2 rowLen_own0 bslice0_int rowLen_own1 Nat.sub_zero Bool.not_true Bool.not_false List.length_nil List.length_cons List.nil_append List.cons_append Nat.zero_add load_iptrA canon_ptrI canon_bool canon_tup canon_agg canon_leafA canon_innerA canon_nodeA canon_ints' rowLen_ints0 seen_ints0 canon_ints0 rowLen_ints1 seen_ints1 canon_ints1 rowLen_ints2 seen_ints2 canon_ints2 rowLen_ints3 seen_ints3 canon_ints3 rowLen_octs seen_octs canon_octs' szOk_octs rowLen_octs0 seen_octs0 canon_octs0 rowLen_octs1 seen_octs1 canon_octs1 rowLen_octs2 seen_octs2 canon_octs2 rowLen_octs3 seen_octs3 canon_octs3 rowLen_intss seen_intss canon_intss' szOk_intss rowLen_intss0 seen_intss0 canon_intss0 rowLen_intss1 seen_intss1 canon_intss1 rowLen_intss2 seen_intss2 canon_intss2 rowLen_intss3 seen_intss3 canon_intss3 rowLen_octss seen_octss canon_octss' szOk_octss rowLen_octss0 seen_octss0 canon_octss0 rowLen_octss1 seen_octss1 canon_octss1 rowLen_octss2 seen_octss2 canon_octss2 rowLen_octss3 seen_octss3 canon_octss3 rowLen_nodes seen_nodes canon_nodes' szOk_nodes rowLen_nodes0 seen_nodes0 canon_nodes0 rowLen_nodes1 seen_nodes1 canon_nodes1 rowLen_nodes2 seen_nodes2 canon_nodes2 rowLen_nodes3 seen_nodes3 canon_nodes3 seen_list cells_int oneIn_int cells_bool oneIn_bool cells_str oneIn_str cells_list oneIn_list cells_func oneIn_func cells_nilfunc oneIn_nilfunc cells_iptr oneIn_iptr cells_iface oneIn_iface cells_nilIface oneIn_nilIface cells_own cells_ptr cells_anybool oneIn_anybool cells_agg oneIn_own0 oneIn_ptr0 seenL0 seenM0 oneIn_own1 oneIn_ptr1 seenL1 seenM1 oneIn_own2 oneIn_ptr2 seenL2 seenM2 oneIn_own3 oneIn_ptr3 seenL3 seenM3 oneIn_own4 oneIn_ptr4 seenL4 seenM4 oneIn_own5 oneIn_ptr5 seenL5 seenM5 cells_ints oneIn_ints cells_octs oneIn_octs cells_intss oneIn_intss cells_octss oneIn_octss cells_nodes oneIn_nodes ldB0 ldA0 adB0 stB0 ldB1 ldA1 adB1 stB1 ldB2 ldA2 adB2 stB2 ldB3 ldA3 adB3 stB3 ldB4 ldA4 adB4 stB4 ldB5 ldA5 adB5 stB5 List.getElem?_cons_zero List.getElem?_cons_succ beq_self_eq_true splice List.take_zero List.take_succ_cons List.drop_zero List.drop_succ_cons List.append_nil List.set_cons_zero List.set_cons_succ List.all_cons List.all_nil Bool.and_self and_self and_true true_and Nat.lt_irrefl Nat.zero_lt_one Nat.le_refl fillA evNil notA Bool.false_eq_true evMin_int evMax_int Option.map_none freezeP_all_nil freezeP_all_cons frzE_box frzE_arr frzE_dead foldA List.foldlM_cons List.foldlM_nil callW_f lcallW_f ansW_fn ansW_own lansW_fn lansW_own ansW_none lansW_none tab_cons tab_nil dI_int dB_bool dO_octs dO_ints dO_list dO_nil dOs_octss dOs_intss dOs_nil dLf_leafA dIn_innerA dN_nodeA dLf_agg dIn_agg dN_agg dNs_nodes dNs_list dNs_nil isI_int isU_int isB_bool isO_octs isO_nil isO_list isS_ints isS_nil isS_list isOs_octss isSs_intss isOs_nil isSs_nil isNs_nodes isNs_list isNs_nil isLf_leafA isIn_innerA isN_nodeA isLf_agg isIn_agg isN_agg leaf_eta inner_eta node_eta leaf_zero inner_zero node_zero dP_patchA dP_agg isP_patchA isP_agg patch_eta decide_eq_true_eq decide_eq_false_iff_not eq_self forall_const true_implies false_implies Bool.not_eq_true' Bool.not_eq_false' Bool.true_eq_false implies_true ne_eq ldI ldIA adI AV.tup.injEq AV.agg.injEq List.cons.injEq AV.int.injEq AV.bool.injEq nodes_inj octs_inj ints_inj nil_nodes nil_octs nil_ints canon_nilL decide_eq_decide two_ne four_ne b256_ne lendA_fn lendA_own lendA_none llendA_fn llendA_none plain_bool plain_int plain_tup2 isNs_own isO_own isS_own isOs_own false_and and_false Q_nil Q_l Q_g Q_h Q_grd qgrdW_b qgrdW_tup lightD_some heavyD_some readD_some fnD_some fnD_own fnD_none callL_f ownH_some callH_f litD_some litE_some Q_call Q_bslice H_call pendOk_nil pendOk_cons pastOk_nil pastOk_cons Q_mv Q_pick Q_bin Q_un Q_convI Q_mkfunc Q_extract Q_min Q_max Q_lenS Q_lenA Q_field Q_idxA Q_mkiface Q_tassert Q_alloc Q_box Q_store Q_mkslice Q_append Q_appendZ Q_copy Q_clear Q_build Q_load Q_nilck Q_isnil Q_convS Q_slice Q_faddr Q_iaddr Q_iaddrA Q_len H_alloc H_box H_bslice H_store H_mkslice H_append H_appendZ H_copy H_clear free_mv free_pick free_bin free_un free_convI free_mkfunc free_extract free_min free_max free_lenS free_lenA free_field free_idxA free_mkiface free_tassert free_build free_load free_nilck free_isnil free_convS free_slice free_faddr free_iaddr free_iaddrA free_len callW_y List.length_map List.length_set leaves_r evR_some evRess1 evRess2 evRess3 evRes_t evRes_c nz_kind nz_enc nz_cred nz_source nz_parent nz_ienc nz_hash nz_un true_or or_true bsl_node idbs_node idbs_int appN appI appO ixo_nodes canon_row canon_rowI canon_rowO not_false_eq_true not_true_eq_false ldE_a ldE_c adE_b stE_b onE_a onP_b bsl_zero idbs_zero appN_zero
attribute [local go_sem low] condW_b grdW_b lgrdW_b ldP adP stP onO onPt
attribute [local simp] envL_cons envL_nil idb_int idb_bool idb_str idb_ints idb_nil idb_own idb_ptr entB_ints' idb_octs entB_octs idb_intss entB_intss idb_octss entB_octss idb_nodes entB_nodes idb_leafA idb_innerA idb_nodeA idb_agg idb_tup idb_iptr idb_fn idb_undef entB_dead entB_box

theorem chunk_spec (v : List Int) (n : Int) (hn : n = 4) : Fun seat 216 [octs v, .int .i64 n] (.func (.f 233) [] [.iptr [octs v] 0, .iptr [.int .i64 n] 0]) := by
  subst hn
  refine Fun.of0W told216 (by simp [il216]) (by simp ) (by simp ) 0 ?_
  simp only [il216, List.zipIdx_cons, List.zipIdx_nil, Nat.zero_add, List.map_cons, List.map_nil]
  refine WP.seqR [] fun K hK => ?_
  simp -implicitDefEqProofs only [leafA, innerA, nodeA, patchA, Leaf.cells, Inner.cells, Node.cells, decide_true, decide_false, go_sem, Nat.reduceEqDiff, reduceIte, Nat.reduceAdd, Nat.reduceLeDiff, Nat.reduceLT, Nat.reduceSub]
  refine hK _ (WP.sealB 2 0 rfl rfl (WP.sealB 3 1 rfl rfl ?_))
  clear hK K
  refine wpc_soundR [] ?_
  simp -implicitDefEqProofs only [leafA, innerA, nodeA, patchA, Leaf.cells, Inner.cells, Node.cells, decide_true, decide_false, Int.reduceLT, go_sem, Nat.reduceEqDiff, reduceIte, Nat.reduceAdd, Nat.reduceLeDiff, Nat.reduceLT, Nat.reduceSub]
  rfl
noncomputable def r216 : Reg seat := .of told216 (ask2 (fun a0' a1' => isO a0' ∧ isI a1' ∧ (dI a1') = 4) fun a0' a1' => .fn (.func (.f 233) [] [.iptr [octs (dO a0')] 0, .iptr [.int .i64 (dI a1')] 0])) (ask2_ok fun a0' a1' h => SaidOk.fn (Fun.weak (.cons (isO.weak h.1) (.cons (isI.weak h.2.1) .nil)) (chunk_spec _ _ h.2.2)))
theorem r216_c : r216.c = 216 := rfl
open Classical in
theorem r216_ask (a0' a1' : AV) : r216.ask [a0', a1'] = if isO a0' ∧ isI a1' ∧ (dI a1') = 4 then some (Said.fn (.func (.f 233) [] [.iptr [octs (dO a0')] 0, .iptr [.int .i64 (dI a1')] 0])) else none := by unfold r216 Reg.of ask2; exact ite_cl

theorem Enc.sliceFTT {α : Type} (E : Enc α) (H : List Entry) (l : List α) (a b : Int) (h0 : 0 ≤ a) (h1 : a ≤ b) (h : b.toNat ≤ l.length) : evSlice H E.sz (E.row l) (some (.int .i64 a)) (some (.int .i64 b)) (some (.int .i64 b)) = some (.list true (((l.take b.toNat).drop a.toNat).map E.f)) := by
  have hb : 0 ≤ b := by omega
  have hab : a.toNat ≤ b.toNat := by omega
  simp [Enc.row, evSlice, evBound, h0, h, hb, hab, E.lenOk, List.map_take, List.map_drop]
/-- The four octets of each number. -/
def fours (v : List Int) (k : Nat) : List Int := (v.drop (4 * k)).take 4
theorem fours_len {v : List Int} {k : Nat} (h : 4 * (k + 1) ≤ v.length) : (fours v k).length = 4 := by unfold fours; rw [List.length_take, List.length_drop]; omega
def chunks (v : List Int) : List AV := (List.range (v.length / 4)).map fun k => .list true ((fours v k).map (AV.int .u8))
theorem chunks_len (v : List Int) : (chunks v).length = v.length / 4 := by simp [chunks]
theorem chunks_at (v : List Int) (k : Nat) (h : k < (chunks v).length) : (chunks v)[k] = .list true ((fours v k).map (AV.int .u8)) := by simp [chunks]

theorem chunkIter (v : List Int) (hl : v.length ≤ 140737488355328) (h4 : v.length % 4 = 0) : Gives seat 233 [.iptr [octs v] 0, .iptr [.int .i64 4] 0] (chunks v) := by
  intro id H0 J Jx h0 hround
  rw [chunks_len] at *
  refine ACall.of_wp told233 (by simp [il233]) (wpc_sound ?_)
  rw [start_env]
  simp only [il233, List.zipIdx_cons, List.zipIdx_nil, Nat.zero_add, List.cons_append, List.nil_append, go_sem, Nat.reduceEqDiff, reduceIte, Nat.reduceAdd, Nat.reduceLeDiff, Nat.reduceLT, Nat.reduceSub]
  refine WP.loopJ (fun k : Nat => [(0, .func (.y id) [] []), (1, .iptr [octs v] 0), (2, .iptr [.int .i64 4] 0), (4, .int .i64 ((4 * k : Nat) : Int))]) (fun k H => k ≤ v.length / 4 ∧ J k H) (fun k => v.length / 4 - k) 0 (by simp ) ⟨Nat.zero_le _, h0⟩ ?_
  rintro k H ⟨hk, hj⟩
  refine wpc_soundR [] ?_
  by_cases hlt : ((4 * k : Nat) : Int) < (v.length : Nat)
  · have hk' : k < v.length / 4 := by omega
    have hr := hround k (by rw [chunks_len]; exact hk') H hj
    rw [chunks_at _ _ (by rw [chunks_len]; exact hk')] at hr
    have s1 : ∀ H, evSlice H 1 (octs v) (some (.int .i64 ((4 * k : Nat) : Int))) none none = some (octs (v.drop (4 * k))) := fun H => by
      have := sliceF_octs H v ((4 * k : Nat) : Int) (by omega) (by simp; omega)
      rwa [Int.toNat_natCast] at this
    have l1 : ((v.drop (4 * k)).length : Int) ≥ 4 := by rw [List.length_drop]; omega
    have l2 : ¬ ((v.drop (4 * k)).length : Int) < 4 := by omega
    have w1 : IntKind.i64.wrap (((4 * k : Nat) : Int) + 4) = ((4 * (k + 1) : Nat) : Int) := by rw [wrap64 _ (by omega) (by omega)]; omega
    have s2 : ∀ H, evSlice H 1 (octs v) (some (.int .i64 ((4 * k : Nat) : Int))) (some (.int .i64 ((4 * (k + 1) : Nat) : Int))) (some (.int .i64 ((4 * (k + 1) : Nat) : Int))) = some (.list true ((fours v k).map (AV.int .u8))) := fun H => by
      have := encU8.sliceFTT H v ((4 * k : Nat) : Int) ((4 * (k + 1) : Nat) : Int) (by omega) (by omega) (by omega)
      rw [Int.toNat_natCast, Int.toNat_natCast, List.drop_take, show 4 * (k + 1) - 4 * k = 4 by omega] at this
      exact this
    simp -implicitDefEqProofs only [leafA, innerA, nodeA, patchA, Leaf.cells, Inner.cells, Node.cells, decide_true, decide_false, hlt, go_sem, Nat.reduceEqDiff, reduceIte, Nat.reduceAdd, Nat.reduceLeDiff, Nat.reduceLT, Nat.reduceSub]
    refine WP.drawQ [] [.l, .l, .l, .l, .l, .l, .l] mixed (by decide) ?_
    simp -implicitDefEqProofs only [leafA, innerA, nodeA, patchA, Leaf.cells, Inner.cells, Node.cells, decide_true, decide_false, s1, l2, w1, s2, go_sem, Nat.reduceEqDiff, reduceIte, Nat.reduceAdd, Nat.reduceLeDiff, Nat.reduceLT, Nat.reduceSub]
    refine Callee.yld hr ?_
    rintro r H' (⟨rfl, hj'⟩ | ⟨rfl, hx⟩)
    · simp -implicitDefEqProofs only [leafA, innerA, nodeA, patchA, Leaf.cells, Inner.cells, Node.cells, decide_true, decide_false, w1, go_sem, Nat.reduceEqDiff, reduceIte, Nat.reduceAdd, Nat.reduceLeDiff, Nat.reduceLT, Nat.reduceSub]
      exact ⟨k + 1, ⟨by omega, hj'⟩, by omega, by simp ⟩
    · simp -implicitDefEqProofs only [leafA, innerA, nodeA, patchA, Leaf.cells, Inner.cells, Node.cells, decide_true, decide_false, w1, go_sem, Nat.reduceEqDiff, reduceIte, Nat.reduceAdd, Nat.reduceLeDiff, Nat.reduceLT, Nat.reduceSub]
      exact .inr hx
  · have e : k = v.length / 4 := by omega
    subst e
    simp -implicitDefEqProofs only [leafA, innerA, nodeA, patchA, Leaf.cells, Inner.cells, Node.cells, decide_true, decide_false, hlt, go_sem, Nat.reduceEqDiff, reduceIte, Nat.reduceAdd, Nat.reduceLeDiff, Nat.reduceLT, Nat.reduceSub]
    exact .inl hj

theorem chunkIterL (v : List Int) (hl : v.length ≤ 140737488355328) (h4 : v.length % 4 = 0) : GivesL seat 233 [.iptr [octs v] 0, .iptr [.int .i64 4] 0] ((chunks v).map fun x => [x]) := .of (chunkIter v hl h4)
theorem gnum_fours {v : List Int} {k : Nat} (h : 4 * (k + 1) ≤ v.length) : gnum 4 (fours v k) = (num (fours v k), [], 0) := by
  have := fours_len h
  unfold gnum
  rw [if_neg (by omega), List.take_of_length_le (by omega), List.drop_eq_nil_of_le (by omega)]
theorem fours_oct {v : List Int} (h : Oct v) (k : Nat) : Oct (fours v k) := by
  have := h.1
  simp only [Small] at this
  refine ⟨?_, fun x hx => h.2 x (List.mem_of_mem_drop (List.mem_of_mem_take hx))⟩
  simp only [Small, fours, List.length_take, List.length_drop]; omega
theorem seen_end (e1 e2 : Entry) (T : List Entry) (x : AV) : seen (e1 :: e2 :: (T ++ [.arr 1 0 [x]])) (.own (T.length + 1 + 1) 0 0 1) = some [x] := by simp [seen]

set_option maxHeartbeats 2000000 in
theorem getNums_spec (b : List Int) (hb : Oct b) (hl : b.length ≤ 4294967295) : Fun seat 193 [octs b] (.tup [ints (gnums b).1, octs (gnums b).2.1, .int .i64 (gnums b).2.2]) := by
  have ho := gbytes_oct hb
  have hsub := (gbytes_sub b).1.1
  unfold gnums
  rcases hv : gbytes b with ⟨v, r, e⟩
  rw [hv] at ho hsub
  simp only at ho hsub ⊢
  by_cases he : e = 0
  rotate_left
  · rw [if_pos he]
    refine Fun.of0R [r192, r216] told193 (by simp [il193]) (by simp [idb_patchA]) (by simp [idb_patchA]) 4 ?_
    simp -implicitDefEqProofs only [il193, List.zipIdx_cons, List.zipIdx_nil, leafA, innerA, nodeA, patchA, Leaf.cells, Inner.cells, Node.cells, r192_c, r192_ask, r216_c, r216_ask, decide_true, decide_false, hb, hv, he, go_sem, Nat.reduceEqDiff, reduceIte, Nat.reduceAdd, Nat.reduceLeDiff, Nat.reduceLT, Nat.reduceSub]
    try rfl
  rw [if_neg (not_not_intro he)]
  have rm : ((v.length : Int)).tmod 4 = ((v.length % 4 : Nat) : Int) := by rw [Int.tmod_eq_emod_of_nonneg (by omega)]; omega
  by_cases h4 : v.length % 4 = 0
  rotate_left
  · rw [if_pos h4]
    have h4' : ¬ ((v.length % 4 : Nat) : Int) = 0 := by omega
    refine Fun.of0R [r192, r216] told193 (by simp [il193]) (by simp [idb_patchA]) (by simp [idb_patchA]) 4 ?_
    simp -implicitDefEqProofs only [il193, List.zipIdx_cons, List.zipIdx_nil, leafA, innerA, nodeA, patchA, Leaf.cells, Inner.cells, Node.cells, r192_c, r192_ask, r216_c, r216_ask, decide_true, decide_false, hb, hv, he, rm, h4', Int.reduceEq, go_sem, Nat.reduceEqDiff, reduceIte, Nat.reduceAdd, Nat.reduceLeDiff, Nat.reduceLT, Nat.reduceSub]
    try rfl
  rw [if_neg (not_not_intro h4)]
  have h4' : ((v.length % 4 : Nat) : Int) = 0 := by omega
  refine Fun.of0R [r192, r216] told193 (by simp [il193]) (by simp [idb_patchA]) (by simp [idb_patchA]) 4 ?_
  simp -implicitDefEqProofs only [il193, List.zipIdx_cons, List.zipIdx_nil, leafA, innerA, nodeA, patchA, Leaf.cells, Inner.cells, Node.cells, r192_c, r192_ask, r216_c, r216_ask, decide_true, decide_false, hb, hv, he, rm, h4', Int.reduceEq, go_sem, Nat.reduceEqDiff, reduceIte, Nat.reduceAdd, Nat.reduceLeDiff, Nat.reduceLT, Nat.reduceSub]
  refine WP.adoptB 0 0 1 rfl rfl ?_
  have nl := fun k => num4_len (v.take (4 * k)) (by rw [List.length_take]; omega)
  refine WP.rangeL (c := 233) (cap := [.iptr [octs v] 0, .iptr [.int .i64 4] 0]) ((chunks v).map fun x => [x]) (by simp only [go_sem, Nat.reduceEqDiff, reduceIte, Nat.reduceAdd, Nat.reduceLeDiff, Nat.reduceLT, Nat.reduceSub]) (Callable.of told233) (chunkIterL v (by omega) h4) (fun x hx => by obtain ⟨k, _, rfl⟩ := List.mem_map.1 hx; rfl)
    (fun k => [.box [.own 1 k 0 (num4 (v.take (4 * k))).length], .arr 1 k ((num4 (v.take (4 * k))).map (AV.int .i64))]) (fun _ => True) (fun _ => rfl) trivial rfl ?_ ?_
  · intro k hk hp l T b' hb'
    have hk' : k < v.length / 4 := by simpa [chunks] using hk
    have h4k : 4 * (k + 1) ≤ v.length := by omega
    rw [List.getElem_map, chunks_at]
    have gn := gnum_fours h4k
    have fo := fours_oct ho.1 k
    have n4 := num4_step h4k
    rw [show (v.drop (4 * k)).take 4 = fours v k from rfl] at n4
    have hbd : (num4 (v.take (4 * k))).length + 1 ≤ maxRow := by rw [nl, List.length_take]; unfold maxRow; omega
    refine wpc_sound ?_
    simp only [setPs, go_sem, Nat.reduceEqDiff, reduceIte, Nat.reduceAdd, Nat.reduceLeDiff, Nat.reduceLT, Nat.reduceSub]
    refine ⟨[], (List.append_nil _).symm, fun T' hT' => wpc_soundR [r212] ?_⟩
    simp -implicitDefEqProofs only [leafA, innerA, nodeA, patchA, Leaf.cells, Inner.cells, Node.cells, r212_c, r212_ask, decide_true, decide_false, fo, clamp4, gn, List.append_nil, List.cons_append, List.nil_append, seen_end, hbd, go_sem, Nat.reduceEqDiff, reduceIte, Nat.reduceAdd, Nat.reduceLeDiff, Nat.reduceLT, Nat.reduceSub]
    refine ⟨[_, _], _, rfl, rfl, fun i hi => List.getElem?_append_left hi, trivial, ?_⟩
    simp only [n4]
  · intro hp T
    rw [List.length_map, chunks_len, show 4 * (v.length / 4) = v.length by omega, List.take_length]
    simp only [go_sem, Nat.reduceEqDiff, reduceIte, Nat.reduceAdd, Nat.reduceLeDiff, Nat.reduceLT, Nat.reduceSub]
noncomputable def r193 : Reg seat := .of told193 (ask1 (fun a0' => isO a0' ∧ Oct (dO a0') ∧ (dO a0').length ≤ 4294967295) fun a0' => .fn (.tup [ints (gnums (dO a0')).1, octs (gnums (dO a0')).2.1, .int .i64 (gnums (dO a0')).2.2])) (ask1_ok fun a0' h => SaidOk.fn (Fun.weak (.cons (isO.weak h.1) .nil) (getNums_spec _ h.2.1 h.2.2)))
theorem r193_c : r193.c = 193 := rfl
open Classical in
theorem r193_ask (a0' : AV) : r193.ask [a0'] = if isO a0' ∧ Oct (dO a0') ∧ (dO a0').length ≤ 4294967295 then some (Said.fn (.tup [ints (gnums (dO a0')).1, octs (gnums (dO a0')).2.1, .int .i64 (gnums (dO a0')).2.2])) else none := by unfold r193 Reg.of ask1; exact ite_cl

set_option maxHeartbeats 2000000 in
theorem refGetNums_spec (b : List Int) (hb : Oct b) (hl : b.length ≤ 4294967295) : Fun seat 195 [octs b] (.tup [ints (gnums b).1, octs (gnums b).2.1, .int .i64 (gnums b).2.2]) := by
  have ho := gbytes_oct hb
  have hsub := (gbytes_sub b).1.1
  unfold gnums
  rcases hv : gbytes b with ⟨v, r, e⟩
  rw [hv] at ho hsub
  simp only at ho hsub ⊢
  by_cases he : e = 0
  rotate_left
  · rw [if_pos he]
    refine Fun.of0R [r194] told195 (by simp [il195]) (by simp [idb_patchA]) (by simp [idb_patchA]) 4 ?_
    simp -implicitDefEqProofs only [il195, List.zipIdx_cons, List.zipIdx_nil, leafA, innerA, nodeA, patchA, Leaf.cells, Inner.cells, Node.cells, r194_c, r194_ask, decide_true, decide_false, hb, hv, he, go_sem, Nat.reduceEqDiff, reduceIte, Nat.reduceAdd, Nat.reduceLeDiff, Nat.reduceLT, Nat.reduceSub]
    try rfl
  rw [if_neg (not_not_intro he)]
  have rm : ((v.length : Int)).tmod 4 = ((v.length % 4 : Nat) : Int) := by rw [Int.tmod_eq_emod_of_nonneg (by omega)]; omega
  by_cases h4 : v.length % 4 = 0
  rotate_left
  · rw [if_pos h4]
    have h4' : ¬ ((v.length % 4 : Nat) : Int) = 0 := by omega
    refine Fun.of0R [r194] told195 (by simp [il195]) (by simp [idb_patchA]) (by simp [idb_patchA]) 4 ?_
    simp -implicitDefEqProofs only [il195, List.zipIdx_cons, List.zipIdx_nil, leafA, innerA, nodeA, patchA, Leaf.cells, Inner.cells, Node.cells, r194_c, r194_ask, decide_true, decide_false, hb, hv, he, rm, h4', Int.reduceEq, go_sem, Nat.reduceEqDiff, reduceIte, Nat.reduceAdd, Nat.reduceLeDiff, Nat.reduceLT, Nat.reduceSub]
    try rfl
  rw [if_neg (not_not_intro h4)]
  have h4' : ((v.length % 4 : Nat) : Int) = 0 := by omega
  refine Fun.of0R [r194] told195 (by simp [il195]) (by simp [idb_patchA]) (by simp [idb_patchA]) 4 ?_
  simp -implicitDefEqProofs only [il195, List.zipIdx_cons, List.zipIdx_nil, leafA, innerA, nodeA, patchA, Leaf.cells, Inner.cells, Node.cells, r194_c, r194_ask, decide_true, decide_false, hb, hv, he, rm, h4', Int.reduceEq, go_sem, Nat.reduceEqDiff, reduceIte, Nat.reduceAdd, Nat.reduceLeDiff, Nat.reduceLT, Nat.reduceSub]
  refine WP.adopt 8 1 (by simp ) ?_
  rw [upd_envL]
  have nl := fun k => num4_len (v.take (4 * k)) (by rw [List.length_take]; omega)
  refine WP.loopG (fun k : Nat => 4 * k ≤ v.length) (fun k => [(5, octs (v.drop (4 * k))), (6, octs r), (8, .own 0 k 0 (num4 (v.take (4 * k))).length)]) (fun k => [.arr 1 k ((num4 (v.take (4 * k))).map (AV.int .i64))]) (fun k => v.length - 4 * k) 0 (Nat.zero_le _)
    (fun k _ => ⟨by simp, by simp [idb_patchA], fun e he => by (simp only [List.mem_cons, List.not_mem_nil, or_false] at he); (rcases he with rfl | rfl | rfl | rfl | rfl | rfl) <;> first | exact encNode.entB _ _ _ _ | exact encI64.entB _ _ _ _ | exact encU8.entB _ _ _ _ | simp ⟩) (by simp [num4]) ?_
  intro k hk
  refine wpc_soundR [r218] ?_
  by_cases hlt : ((v.drop (4 * k)).length : Int) > 0
  · have h4k : 4 * (k + 1) ≤ v.length := by rw [List.length_drop] at hlt; omega
    have gn : gnum 4 (v.drop (4 * k)) = (num (fours v k), v.drop (4 * (k + 1)), 0) := by
      unfold gnum
      rw [if_neg (by rw [List.length_drop]; omega), List.drop_drop, show 4 * k + 4 = 4 * (k + 1) by omega]
      rfl
    have fo : Oct (v.drop (4 * k)) := by
      have := ho.1.1
      simp only [Small] at this
      exact ⟨by simp only [Small, List.length_drop]; omega, fun x hx => ho.1.2 x (List.mem_of_mem_drop hx)⟩
    have n4 := num4_step h4k
    rw [show (v.drop (4 * k)).take 4 = fours v k from rfl] at n4
    have hbd : (num4 (v.take (4 * k))).length + 1 ≤ maxRow := by rw [nl, List.length_take]; unfold maxRow; omega
    simp -implicitDefEqProofs only [leafA, innerA, nodeA, patchA, Leaf.cells, Inner.cells, Node.cells, r218_c, r218_ask, decide_true, decide_false, hlt, fo, clamp4, gn, hbd, go_sem, Nat.reduceEqDiff, reduceIte, Nat.reduceAdd, Nat.reduceLeDiff, Nat.reduceLT, Nat.reduceSub]
    exact ⟨k + 1, h4k, by omega, by simp [n4], by simp [n4]⟩
  · have e : 4 * k = v.length := by rw [List.length_drop] at hlt; omega
    rw [e] at hlt
    simp -implicitDefEqProofs only [leafA, innerA, nodeA, patchA, Leaf.cells, Inner.cells, Node.cells, r194_c, r194_ask, decide_true, decide_false, hlt, e, List.take_length, go_sem, Nat.reduceEqDiff, reduceIte, Nat.reduceAdd, Nat.reduceLeDiff, Nat.reduceLT, Nat.reduceSub]
noncomputable def r195 : Reg seat := .of told195 (ask1 (fun a0' => isO a0' ∧ Oct (dO a0') ∧ (dO a0').length ≤ 4294967295) fun a0' => .fn (.tup [ints (gnums (dO a0')).1, octs (gnums (dO a0')).2.1, .int .i64 (gnums (dO a0')).2.2])) (ask1_ok fun a0' h => SaidOk.fn (Fun.weak (.cons (isO.weak h.1) .nil) (refGetNums_spec _ h.2.1 h.2.2)))
theorem r195_c : r195.c = 195 := rfl
open Classical in
theorem r195_ask (a0' : AV) : r195.ask [a0'] = if isO a0' ∧ Oct (dO a0') ∧ (dO a0').length ≤ 4294967295 then some (Said.fn (.tup [ints (gnums (dO a0')).1, octs (gnums (dO a0')).2.1, .int .i64 (gnums (dO a0')).2.2])) else none := by unfold r195 Reg.of ask1; exact ite_cl
end Go.Proofs.YtlehcigcaihoaaaGreat.Al
