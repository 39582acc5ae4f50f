/-
  SPECS: a number's octets.
-/
import Derived.Test.YtlehcigcaihoaaaGreatAlM2
set_option linter.unusedSimpArgs false
set_option linter.unusedVariables false
namespace Go.Proofs.YtlehcigcaihoaaaGreat.Al
open Go
attribute [local go_sem] W_mv W_pick W_alloc W_box W_build W_bslice W_load W_store W_nilck W_bin W_isnil W_un W_convI W_convS W_mkiface W_mkfunc W_mkslice W_slice W_faddr W_field W_iaddr W_iaddrA W_idxA W_extract W_len W_lenS W_lenA W_min W_max W_append W_appendZ W_copy W_clear W_tassert W_invoke thenQ_normal thenQ_exit thenQ_goto thenQ_ret blockQ_normal blockQ_ret blockQ_goto blockQ_exit wpc_skip wpc_region wpc_draw wpc_seq wpc_cond wpc_block wpc_exit wpc_goto wpc_label wpc_ret wpc_loop wpc_range wpc_scope condW_true condW_false condW_dec condW_any W_nil W_call resW_some evalOp Opd.ev updo_envL updo_none setL_cons setL_nil envL_cons Option.map_some Option.bind_some evBin evInt List.map_cons List.map_nil Option.pure_def Option.bind_eq_bind W_grd' grdW_tt grdW_ff grdW_tf grdW_ft grdW_tup grdW_dt grdW_df lgrdW_tt lgrdW_ff lgrdW_tf lgrdW_ft lgrdW_tup lgrdW_dt lgrdW_df L_mv L_pick L_alloc L_box L_build L_bslice L_load L_store L_nilck L_bin L_isnil L_un L_convI L_convS L_mkiface L_mkfunc L_mkslice L_slice L_faddr L_field L_iaddr L_iaddrA L_idxA L_extract L_len L_lenS L_lenA L_min L_max L_append L_appendZ L_copy L_clear L_tassert L_nil L_call L_grd lresW_some upd_envL evUn beq_dec bne_dec leaves_ret1 leaves_end1 leaves_ret0 leaves_end0 leaves_ret2 leaves_ret3 rowLen_ints load_iptr0 not_dec heap_get0 heap_get1 heap_set0 heap_set1 heap_len1 heap_len2 heap_app heap_app2 bslice1_int seen_ints seen_one0 seen_one1 seen_one2 rowLen_own0 bslice0_int rowLen_own1 Nat.sub_zero Bool.not_true Bool.not_false List.length_nil List.length_cons List.nil_append List.cons_append Nat.zero_add load_iptrA canon_ptrI canon_bool canon_tup canon_agg canon_leafA canon_innerA canon_nodeA canon_ints' rowLen_ints0 seen_ints0 canon_ints0 rowLen_ints1 seen_ints1 canon_ints1 rowLen_ints2 seen_ints2 canon_ints2 rowLen_ints3 seen_ints3 canon_ints3 rowLen_octs seen_octs canon_octs' szOk_octs rowLen_octs0 seen_octs0 canon_octs0 rowLen_octs1 seen_octs1 canon_octs1 rowLen_octs2 seen_octs2 canon_octs2 rowLen_octs3 seen_octs3 canon_octs3 rowLen_intss seen_intss canon_intss' szOk_intss rowLen_intss0 seen_intss0 canon_intss0 rowLen_intss1 seen_intss1 canon_intss1 rowLen_intss2 seen_intss2 canon_intss2 rowLen_intss3 seen_intss3 canon_intss3 rowLen_octss seen_octss canon_octss' szOk_octss rowLen_octss0 seen_octss0 canon_octss0 rowLen_octss1 seen_octss1 canon_octss1 rowLen_octss2 seen_octss2 canon_octss2 rowLen_octss3 seen_octss3 canon_octss3 rowLen_nodes seen_nodes canon_nodes' szOk_nodes rowLen_nodes0 seen_nodes0 canon_nodes0 rowLen_nodes1 seen_nodes1 canon_nodes1 rowLen_nodes2 seen_nodes2 canon_nodes2 rowLen_nodes3 seen_nodes3 canon_nodes3 seen_list cells_int oneIn_int cells_bool oneIn_bool cells_str oneIn_str cells_list oneIn_list cells_func oneIn_func cells_nilfunc oneIn_nilfunc cells_iptr oneIn_iptr cells_iface oneIn_iface cells_nilIface oneIn_nilIface cells_own cells_ptr cells_anybool oneIn_anybool cells_agg oneIn_own0 oneIn_ptr0 seenL0 seenM0 oneIn_own1 oneIn_ptr1 seenL1 seenM1 oneIn_own2 oneIn_ptr2 seenL2 seenM2 oneIn_own3 oneIn_ptr3 seenL3 seenM3 oneIn_own4 oneIn_ptr4 seenL4 seenM4 oneIn_own5 oneIn_ptr5 seenL5 seenM5 cells_ints oneIn_ints cells_octs oneIn_octs cells_intss oneIn_intss cells_octss oneIn_octss cells_nodes oneIn_nodes ldB0 ldA0 adB0 stB0 ldB1 ldA1 adB1 stB1 ldB2 ldA2 adB2 stB2 ldB3 ldA3 adB3 stB3 ldB4 ldA4 adB4 stB4 ldB5 ldA5 adB5 stB5 List.getElem?_cons_zero List.getElem?_cons_succ beq_self_eq_true splice List.take_zero List.take_succ_cons List.drop_zero List.drop_succ_cons List.append_nil List.set_cons_zero List.set_cons_succ List.all_cons List.all_nil Bool.and_self and_self and_true true_and Nat.lt_irrefl Nat.zero_lt_one Nat.le_refl fillA evNil notA Bool.false_eq_true evMin_int evMax_int Option.map_none freezeP_all_nil freezeP_all_cons frzE_box frzE_arr frzE_dead foldA List.foldlM_cons List.foldlM_nil callW_f lcallW_f ansW_fn ansW_own lansW_fn lansW_own ansW_none lansW_none tab_cons tab_nil dI_int dB_bool dO_octs dO_ints dO_list dO_nil dOs_octss dOs_intss dOs_nil dLf_leafA dIn_innerA dN_nodeA dLf_agg dIn_agg dN_agg dNs_nodes dNs_list dNs_nil isI_int isU_int isB_bool isO_octs isO_nil isO_list isS_ints isS_nil isS_list isOs_octss isSs_intss isOs_nil isSs_nil isNs_nodes isNs_list isNs_nil isLf_leafA isIn_innerA isN_nodeA isLf_agg isIn_agg isN_agg leaf_eta inner_eta node_eta leaf_zero inner_zero node_zero dP_patchA dP_agg isP_patchA isP_agg patch_eta decide_eq_true_eq decide_eq_false_iff_not eq_self forall_const true_implies false_implies Bool.not_eq_true' Bool.not_eq_false' Bool.true_eq_false implies_true ne_eq ldI ldIA adI AV.tup.injEq AV.agg.injEq List.cons.injEq AV.int.injEq AV.bool.injEq nodes_inj octs_inj ints_inj nil_nodes nil_octs nil_ints canon_nilL decide_eq_decide two_ne four_ne b256_ne lendA_fn lendA_own lendA_none llendA_fn llendA_none plain_bool plain_int plain_tup2 isNs_own isO_own isS_own isOs_own false_and and_false Q_nil Q_l Q_g Q_h Q_grd qgrdW_b qgrdW_tup lightD_some heavyD_some readD_some fnD_some fnD_own fnD_none callL_f ownH_some callH_f litD_some litE_some Q_call Q_bslice H_call pendOk_nil pendOk_cons pastOk_nil pastOk_cons Q_mv Q_pick Q_bin Q_un Q_convI Q_mkfunc Q_extract Q_min Q_max Q_lenS Q_lenA Q_field Q_idxA Q_mkiface Q_tassert Q_alloc Q_box Q_store Q_mkslice Q_append Q_appendZ Q_copy Q_clear Q_build Q_load Q_nilck Q_isnil Q_convS Q_slice Q_faddr Q_iaddr Q_iaddrA Q_len H_alloc H_box H_bslice H_store H_mkslice H_append H_appendZ H_copy H_clear free_mv free_pick free_bin free_un free_convI free_mkfunc free_extract free_min free_max free_lenS free_lenA free_field free_idxA free_mkiface free_tassert free_build free_load free_nilck free_isnil free_convS free_slice free_faddr free_iaddr free_iaddrA free_len callW_y List.length_map List.length_set leaves_r evR_some evRess1 evRess2 evRess3 evRes_t evRes_c nz_kind nz_enc nz_cred nz_source nz_parent nz_ienc nz_hash nz_un true_or or_true bsl_node idbs_node idbs_int appN appI appO ixo_nodes canon_row canon_rowI canon_rowO not_false_eq_true not_true_eq_false ldE_a ldE_c adE_b stE_b onE_a onP_b bsl_zero idbs_zero appN_zero
attribute [local go_sem low] condW_b grdW_b lgrdW_b ldP adP stP onO onPt
attribute [local simp] envL_cons envL_nil idb_int idb_bool idb_str idb_ints idb_nil idb_own idb_ptr entB_ints' idb_octs entB_octs idb_intss entB_intss idb_octss entB_octss idb_nodes entB_nodes idb_leafA idb_innerA idb_nodeA idb_agg idb_tup idb_iptr idb_fn idb_undef entB_dead entB_box

theorem shrS (n : Int) (s : Nat) : evShift .shr .i64 n (s : Int) = some (.int .i64 (n.fdiv (2 ^ (min s IntKind.i64.bits)))) := by
  unfold evShift
  rw [if_neg (by omega)]
  simp
theorem wsub (a b : Int) (h : 0 ≤ a ∧ a ≤ 100) (h2 : 0 ≤ b ∧ b ≤ 100) : IntKind.i64.wrap (a - b) = a - b := wrap64 _ (by omega) (by omega)

set_option maxHeartbeats 1000000 in
theorem putNum_spec (b : List Int) (n k : Int) (hl : b.length ≤ 4294960000) : FunOwn seat 214 [octs b, .int .i64 n, .int .i64 k] 1 ((b ++ beK (clampK k).toNat n).map (AV.int .u8)) := by
  have hl' : b.length ≤ 4294967295 := by omega
  have hc := clampK_bd k
  obtain ⟨K, hK⟩ : ∃ K : Nat, clampK k = K := ⟨(clampK k).toNat, by omega⟩
  rw [hK, Int.toNat_natCast]
  refine FunOwn.of0R [r196, r226] told214 (by simp [il214]) (by simp [idb_patchA]) (by first | exact encI64.xs_idb _ | exact encU8.xs_idb _ | exact encNode.xs_idb _) ?_
  simp -implicitDefEqProofs only [il214, List.zipIdx_cons, List.zipIdx_nil, leafA, innerA, nodeA, patchA, Leaf.cells, Inner.cells, Node.cells, r196_c, r196_ask, r226_c, r226_ask, decide_true, decide_false, hl', hK, go_sem, Nat.reduceEqDiff, reduceIte, Nat.reduceAdd, Nat.reduceLeDiff, Nat.reduceLT, Nat.reduceSub]
  refine WP.loopG (fun s : Nat × Nat => s.1 ≤ K) (fun s => [(1, .int .i64 n), (2, .int .i64 K), (7, .own 0 s.2 0 (b ++ (beK K n).take s.1).length), (13, .int .i64 K), (14, .int .i64 (s.1 : Nat))]) (fun s => [.arr 1 s.2 ((b ++ (beK K n).take s.1).map (AV.int .u8))]) (fun s => K - s.1) (0, 0) (Nat.zero_le _)
    (fun k _ => ⟨by simp, by simp [idb_patchA], fun e he => by (simp only [List.mem_cons, List.not_mem_nil, or_false] at he); (rcases he with rfl | rfl | rfl | rfl | rfl | rfl) <;> first | exact encNode.entB _ _ _ _ | exact encI64.entB _ _ _ _ | exact encU8.entB _ _ _ _ | simp ⟩) (by simp ) ?_
  rintro ⟨i, v⟩ hi
  simp only at hi
  refine wpc_soundR [] ?_
  by_cases hlt : (i : Int) < (K : Nat)
  · have hi' : i < K := by omega
    have w1 : IntKind.i64.wrap ((K : Int) - 1) = ((K - 1 : Nat) : Int) := by rw [wsub _ _ (by omega) (by omega)]; omega
    have w2 : IntKind.i64.wrap (((K - 1 : Nat) : Int) - (i : Int)) = ((K - 1 - i : Nat) : Int) := by rw [wsub _ _ (by omega) (by omega)]; omega
    have w3 : IntKind.i64.wrap (8 * ((K - 1 - i : Nat) : Int)) = ((8 * (K - 1 - i) : Nat) : Int) := by rw [wrap64 _ (by omega) (by omega)]; omega
    have so : IntKind.u8.wrap (n.fdiv (2 ^ (min (8 * (K - 1 - i)) 64))) = n / 256 ^ (K - 1 - i) % 256 := shr_octet n (e := K - 1 - i) (by omega)
    have bt := beK_take n hi'
    have m1 : (b ++ (beK K n).take i).length + 1 ≤ maxRow := by
      have := beK_len K n
      unfold maxRow; simp; omega
    simp -implicitDefEqProofs only [leafA, innerA, nodeA, patchA, Leaf.cells, Inner.cells, Node.cells, decide_true, decide_false, hlt, w1, w2, w3, shrS, so, m1, go_sem, Nat.reduceEqDiff, reduceIte, Nat.reduceAdd, Nat.reduceLeDiff, Nat.reduceLT, Nat.reduceSub]
    exact ⟨(i + 1, v + 1), hi', by simp only; omega, by simp [bt, wrapS (show i < 9223372036854775807 by omega)], by simp [bt]⟩
  · have e : i = K := by omega
    subst e
    simp -implicitDefEqProofs only [leafA, innerA, nodeA, patchA, Leaf.cells, Inner.cells, Node.cells, decide_true, decide_false, hlt, go_sem, Nat.reduceEqDiff, reduceIte, Nat.reduceAdd, Nat.reduceLeDiff, Nat.reduceLT, Nat.reduceSub]
    exact ⟨0, v, by rw [beK_all], by simp [beK_all]⟩
noncomputable def r214 : Reg seat := .of told214 (ask3 (fun a0' a1' a2' => isO a0' ∧ isI a1' ∧ isI a2' ∧ (dO a0').length ≤ 4294960000) fun a0' a1' a2' => .own 1 (((dO a0') ++ beK (clampK (dI a2')).toNat (dI a1')).map (AV.int .u8))) (ask3_ok fun a0' a1' a2' h => SaidOk.own (FunOwn.weak (.cons (isO.weak h.1) (.cons (isI.weak h.2.1) (.cons (isI.weak h.2.2.1) .nil))) (putNum_spec _ _ _ h.2.2.2)) (by first | exact encU8.xs_idb _ | exact encI64.xs_idb _ | exact encNode.xs_idb _))
theorem r214_c : r214.c = 214 := rfl
open Classical in
theorem r214_ask (a0' a1' a2' : AV) : r214.ask [a0', a1', a2'] = if isO a0' ∧ isI a1' ∧ isI a2' ∧ (dO a0').length ≤ 4294960000 then some (Said.own 1 (((dO a0') ++ beK (clampK (dI a2')).toNat (dI a1')).map (AV.int .u8))) else none := by unfold r214 Reg.of ask3; exact ite_cl

theorem and255 (n : Int) : bits .and .i64 n 255 = n % 256 := by
  have h127 : (BitVec.ofInt 64 255).toNat = 2 ^ 8 - 1 := by decide
  have key : (BitVec.ofInt 64 n &&& BitVec.ofInt 64 255).toNat = (n % ((2 ^ 64 : Nat) : Int)).toNat % 2 ^ 8 := by
    rw [BitVec.toNat_and, BitVec.toNat_ofInt, h127, Nat.and_two_pow_sub_one_eq_mod]
  show IntKind.i64.wrap ((BitVec.ofInt 64 n &&& BitVec.ofInt 64 255).toNat : Nat) = n % 256
  rw [key, wrap64 _ (by omega) (by omega)]
  omega
theorem and65535 (n : Int) : bits .and .i64 n 65535 = n % 65536 := by
  have h127 : (BitVec.ofInt 64 65535).toNat = 2 ^ 16 - 1 := by decide
  have key : (BitVec.ofInt 64 n &&& BitVec.ofInt 64 65535).toNat = (n % ((2 ^ 64 : Nat) : Int)).toNat % 2 ^ 16 := by
    rw [BitVec.toNat_and, BitVec.toNat_ofInt, h127, Nat.and_two_pow_sub_one_eq_mod]
  show IntKind.i64.wrap ((BitVec.ofInt 64 n &&& BitVec.ofInt 64 65535).toNat : Nat) = n % 65536
  rw [key, wrap64 _ (by omega) (by omega)]
  omega

set_option maxHeartbeats 1000000 in
theorem refPutNum_spec (b : List Int) (n k : Int) (hl : b.length ≤ 4294960000) : FunOwn seat 221 [octs b, .int .i64 n, .int .i64 k] 1 ((b ++ beK (clampK k).toNat n).map (AV.int .u8)) := by
  have hc := clampK_bd k
  obtain ⟨K, hK⟩ : ∃ K : Nat, clampK k = K := ⟨(clampK k).toNat, by omega⟩
  rw [hK, Int.toNat_natCast]
  have cl : ∃ v, evAppend [Entry.arr 1 0 []] 1 1 (.own 0 0 0 0) (b.map (AV.int .u8)) = some (.own 0 v 0 b.length, [.arr 1 v (b.map (AV.int .u8))]) := by
    obtain ⟨v, hv⟩ := encU8.app_any (H := [Entry.arr 1 0 (([] : List Int).map (AV.int .u8))]) (id := 0) (ver := 0) (l := []) (ys := b) (bytes := 1) rfl (by unfold maxRow; simp; omega) (by decide)
    exact ⟨v, by simpa [encU8] using hv⟩
  obtain ⟨v0, cl⟩ := cl
  have hb : evBslice ([] : List Entry) 1 0 (.int .u8 0) [] = some (.own 0 0 0 0, [.arr 1 0 []]) := rfl
  have w0 : IntKind.i64.wrap ((K : Int) - 1) = (K : Int) - 1 := wrap64 _ (by omega) (by omega)
  refine FunOwn.of0R [r235] told221 (by simp [il221]) (by simp [idb_patchA]) (by first | exact encI64.xs_idb _ | exact encU8.xs_idb _ | exact encNode.xs_idb _) ?_
  simp -implicitDefEqProofs only [il221, List.zipIdx_cons, List.zipIdx_nil, leafA, innerA, nodeA, patchA, Leaf.cells, Inner.cells, Node.cells, r235_c, r235_ask, decide_true, decide_false, hb, cl, hK, w0, go_sem, Nat.reduceEqDiff, reduceIte, Nat.reduceAdd, Nat.reduceLeDiff, Nat.reduceLT, Nat.reduceSub]
  refine WP.loopG (fun s : Nat × Nat => s.1 ≤ K) (fun s => [(1, .int .i64 n), (7, .own 0 s.2 0 (b ++ (beK K n).take s.1).length), (8, .int .i64 ((K : Int) - 1 - (s.1 : Nat)))]) (fun s => [.arr 1 s.2 ((b ++ (beK K n).take s.1).map (AV.int .u8))]) (fun s => K - s.1) (0, v0) (Nat.zero_le _)
    (fun k _ => ⟨by simp, by simp [idb_patchA], fun e he => by (simp only [List.mem_cons, List.not_mem_nil, or_false] at he); (rcases he with rfl | rfl | rfl | rfl | rfl | rfl) <;> first | exact encNode.entB _ _ _ _ | exact encI64.entB _ _ _ _ | exact encU8.entB _ _ _ _ | simp ⟩) (by simp ) ?_
  rintro ⟨i, v⟩ hi
  simp only at hi
  refine wpc_soundR [] ?_
  by_cases hlt : (K : Int) - 1 - (i : Nat) ≥ 0
  · have hi' : i < K := by omega
    have e0 : (K : Int) - 1 - (i : Nat) = ((K - 1 - i : Nat) : Int) := by omega
    have g0 : ((K - 1 - i : Nat) : Int) ≥ 0 := by omega
    have w3 : IntKind.i64.wrap (8 * ((K - 1 - i : Nat) : Int)) = ((8 * (K - 1 - i) : Nat) : Int) := by rw [wrap64 _ (by omega) (by omega)]; omega
    have w4 : IntKind.u64.wrap ((8 * (K - 1 - i) : Nat) : Int) = ((8 * (K - 1 - i) : Nat) : Int) := wrapU64 _ (by omega) (by omega)
    have w5 : IntKind.i64.wrap (((K - 1 - i : Nat) : Int) - 1) = (K : Int) - 1 - ((i + 1 : Nat) : Int) := by rw [wrap64 _ (by omega) (by omega)]; omega
    have so : IntKind.u8.wrap (n.fdiv (2 ^ (min (8 * (K - 1 - i)) 64)) % 256) = n / 256 ^ (K - 1 - i) % 256 := by
      have h := shr_octet n (e := K - 1 - i) (by omega)
      rw [show IntKind.i64.bits = 64 from rfl, wrapU8] at h
      rw [wrapU8, h]; omega
    have bt := beK_take n hi'
    have m1 : (b ++ (beK K n).take i).length + 1 ≤ maxRow := by
      have := beK_len K n
      unfold maxRow; simp; omega
    rw [e0]
    simp -implicitDefEqProofs only [leafA, innerA, nodeA, patchA, Leaf.cells, Inner.cells, Node.cells, decide_true, decide_false, g0, w3, w4, w5, shrS, and255, so, m1, go_sem, Nat.reduceEqDiff, reduceIte, Nat.reduceAdd, Nat.reduceLeDiff, Nat.reduceLT, Nat.reduceSub]
    exact ⟨(i + 1, v + 1), hi', by simp only; omega, by simp [bt], by simp [bt]⟩
  · have e : i = K := by omega
    subst e
    simp -implicitDefEqProofs only [leafA, innerA, nodeA, patchA, Leaf.cells, Inner.cells, Node.cells, decide_true, decide_false, hlt, go_sem, Nat.reduceEqDiff, reduceIte, Nat.reduceAdd, Nat.reduceLeDiff, Nat.reduceLT, Nat.reduceSub]
    exact ⟨0, v, by rw [beK_all], by simp [beK_all]⟩
noncomputable def r221 : Reg seat := .of told221 (ask3 (fun a0' a1' a2' => isO a0' ∧ isI a1' ∧ isI a2' ∧ (dO a0').length ≤ 4294960000) fun a0' a1' a2' => .own 1 (((dO a0') ++ beK (clampK (dI a2')).toNat (dI a1')).map (AV.int .u8))) (ask3_ok fun a0' a1' a2' h => SaidOk.own (FunOwn.weak (.cons (isO.weak h.1) (.cons (isI.weak h.2.1) (.cons (isI.weak h.2.2.1) .nil))) (refPutNum_spec _ _ _ h.2.2.2)) (by first | exact encU8.xs_idb _ | exact encI64.xs_idb _ | exact encNode.xs_idb _))
theorem r221_c : r221.c = 221 := rfl
open Classical in
theorem r221_ask (a0' a1' a2' : AV) : r221.ask [a0', a1', a2'] = if isO a0' ∧ isI a1' ∧ isI a2' ∧ (dO a0').length ≤ 4294960000 then some (Said.own 1 (((dO a0') ++ beK (clampK (dI a2')).toNat (dI a1')).map (AV.int .u8))) else none := by unfold r221 Reg.of ask3; exact ite_cl

/-- The number of the first octets, and the rest. -/
def gnum (k : Nat) (b : List Int) : Int × List Int × Int := if b.length < k then (0, [], 1) else (num (b.take k), b.drop k, 0)
theorem shl8 (n : Int) : evShift .shl .i64 n 8 = some (.int .i64 (IntKind.i64.wrap (n * 256))) := rfl
set_option maxHeartbeats 1000000 in
theorem getNum_spec (b : List Int) (k : Int) (hb : Oct b) : Fun seat 212 [octs b, .int .i64 k] (.tup [.int .i64 (gnum (clampK k).toNat b).1, octs (gnum (clampK k).toNat b).2.1, .int .i64 (gnum (clampK k).toNat b).2.2]) := by
  have hc := clampK_bd k
  have hB := bytes_of hb
  obtain ⟨K, hK⟩ : ∃ K : Nat, clampK k = K := ⟨(clampK k).toNat, by omega⟩
  rw [hK, Int.toNat_natCast]
  by_cases hs : b.length < K
  · have e : gnum K b = (0, [], 1) := if_pos hs
    have g : (b.length : Int) < (K : Int) := by omega
    rw [e]
    refine Fun.of0R [r226] told212 (by simp [il212]) (by simp [idb_patchA]) (by simp [idb_patchA]) 4 ?_
    simp -implicitDefEqProofs only [il212, List.zipIdx_cons, List.zipIdx_nil, leafA, innerA, nodeA, patchA, Leaf.cells, Inner.cells, Node.cells, r226_c, r226_ask, decide_true, decide_false, hK, g, go_sem, Nat.reduceEqDiff, reduceIte, Nat.reduceAdd, Nat.reduceLeDiff, Nat.reduceLT, Nat.reduceSub]
    try rfl
  have e : gnum K b = (num (b.take K), b.drop K, 0) := if_neg hs
  have g : ¬ (b.length : Int) < (K : Int) := by omega
  rw [e]
  have sl : ∀ H, evSlice H 1 (octs b) (some (.int .i64 (K : Int))) none none = some (octs (b.drop K)) := fun H => by
    have := sliceF_octs H b (K : Int) (by omega) (by simp; omega)
    rwa [Int.toNat_natCast] at this
  refine Fun.of0R [r226] told212 (by simp [il212]) (by simp [idb_patchA]) (by simp [idb_patchA]) 4 ?_
  simp -implicitDefEqProofs only [il212, List.zipIdx_cons, List.zipIdx_nil, leafA, innerA, nodeA, patchA, Leaf.cells, Inner.cells, Node.cells, r226_c, r226_ask, decide_true, decide_false, hK, g, go_sem, Nat.reduceEqDiff, reduceIte, Nat.reduceAdd, Nat.reduceLeDiff, Nat.reduceLT, Nat.reduceSub]
  refine WP.loop0 (fun i => i ≤ K) (fun i => [(0, octs b), (1, .int .i64 K), (7, .int .i64 (num (b.take i))), (15, .int .i64 K), (16, .int .i64 (i : Nat))]) (fun i => K - i) 0 (Nat.zero_le _) (fun i _ => by simp ) (by simp [num]) ?_
  intro i hi
  refine wpc_soundR [] ?_
  by_cases hlt : (i : Int) < (K : Nat)
  · have hi' : i < b.length := by omega
    have hx := hB _ (List.getElem_mem hi')
    have hn := num_bd3 (l := b.take i) (fun y hy => hB y (List.mem_of_mem_take hy)) (by rw [List.length_take]; omega)
    have w1 : IntKind.i64.wrap (num (b.take i) * 256) = num (b.take i) * 256 := wrap64 _ (by omega) (by omega)
    have w2 : IntKind.i64.wrap b[i] = b[i] := wrap64 _ (by omega) (by omega)
    have o := or_octet (num (b.take i)) b[i] hn.1 (by omega) hx.1 hx.2
    rw [← num_take hi'] at o
    simp -implicitDefEqProofs only [leafA, innerA, nodeA, patchA, Leaf.cells, Inner.cells, Node.cells, decide_true, decide_false, hlt, w1, w2, shl8, o, fun H => index_octs H b i hi', go_sem, Nat.reduceEqDiff, reduceIte, Nat.reduceAdd, Nat.reduceLeDiff, Nat.reduceLT, Nat.reduceSub]
    exact ⟨i + 1, by omega, by omega, by simp [wrapS (show i < 9223372036854775807 by omega)]⟩
  · have e : i = K := by omega
    subst e
    simp -implicitDefEqProofs only [leafA, innerA, nodeA, patchA, Leaf.cells, Inner.cells, Node.cells, decide_true, decide_false, hlt, go_sem, Nat.reduceEqDiff, reduceIte, Nat.reduceAdd, Nat.reduceLeDiff, Nat.reduceLT, Nat.reduceSub]
    refine WP.drawQ [] [.l, .l, .l, .l, .l, .l, .l] mixed (by decide) ?_
    simp -implicitDefEqProofs only [leafA, innerA, nodeA, patchA, Leaf.cells, Inner.cells, Node.cells, decide_true, decide_false, sl, go_sem, Nat.reduceEqDiff, reduceIte, Nat.reduceAdd, Nat.reduceLeDiff, Nat.reduceLT, Nat.reduceSub]
    try rfl
noncomputable def r212 : Reg seat := .of told212 (ask2 (fun a0' a1' => isO a0' ∧ isI a1' ∧ Oct (dO a0')) fun a0' a1' => .fn (.tup [.int .i64 (gnum (clampK (dI a1')).toNat (dO a0')).1, octs (gnum (clampK (dI a1')).toNat (dO a0')).2.1, .int .i64 (gnum (clampK (dI a1')).toNat (dO a0')).2.2])) (ask2_ok fun a0' a1' h => SaidOk.fn (Fun.weak (.cons (isO.weak h.1) (.cons (isI.weak h.2.1) .nil)) (getNum_spec _ _ h.2.2)))
theorem r212_c : r212.c = 212 := rfl
open Classical in
theorem r212_ask (a0' a1' : AV) : r212.ask [a0', a1'] = if isO a0' ∧ isI a1' ∧ Oct (dO a0') then some (Said.fn (.tup [.int .i64 (gnum (clampK (dI a1')).toNat (dO a0')).1, octs (gnum (clampK (dI a1')).toNat (dO a0')).2.1, .int .i64 (gnum (clampK (dI a1')).toNat (dO a0')).2.2])) else none := by unfold r212 Reg.of ask2; exact ite_cl
set_option maxHeartbeats 1000000 in
theorem refGetNum_spec (b : List Int) (k : Int) (hb : Oct b) : Fun seat 218 [octs b, .int .i64 k] (.tup [.int .i64 (gnum (clampK k).toNat b).1, octs (gnum (clampK k).toNat b).2.1, .int .i64 (gnum (clampK k).toNat b).2.2]) := by
  have hc := clampK_bd k
  have hB := bytes_of hb
  obtain ⟨K, hK⟩ : ∃ K : Nat, clampK k = K := ⟨(clampK k).toNat, by omega⟩
  rw [hK, Int.toNat_natCast]
  by_cases hs : b.length < K
  · have e : gnum K b = (0, [], 1) := if_pos hs
    have g : (b.length : Int) < (K : Int) := by omega
    rw [e]
    refine Fun.of0R [r235] told218 (by simp [il218]) (by simp [idb_patchA]) (by simp [idb_patchA]) 4 ?_
    simp -implicitDefEqProofs only [il218, List.zipIdx_cons, List.zipIdx_nil, leafA, innerA, nodeA, patchA, Leaf.cells, Inner.cells, Node.cells, r235_c, r235_ask, decide_true, decide_false, hK, g, go_sem, Nat.reduceEqDiff, reduceIte, Nat.reduceAdd, Nat.reduceLeDiff, Nat.reduceLT, Nat.reduceSub]
    try rfl
  have e : gnum K b = (num (b.take K), b.drop K, 0) := if_neg hs
  have g : ¬ (b.length : Int) < (K : Int) := by omega
  rw [e]
  have sl : ∀ H, evSlice H 1 (octs b) (some (.int .i64 (K : Int))) none none = some (octs (b.drop K)) := fun H => by
    have := sliceF_octs H b (K : Int) (by omega) (by simp; omega)
    rwa [Int.toNat_natCast] at this
  refine Fun.of0R [r235] told218 (by simp [il218]) (by simp [idb_patchA]) (by simp [idb_patchA]) 4 ?_
  simp -implicitDefEqProofs only [il218, List.zipIdx_cons, List.zipIdx_nil, leafA, innerA, nodeA, patchA, Leaf.cells, Inner.cells, Node.cells, r235_c, r235_ask, decide_true, decide_false, hK, g, go_sem, Nat.reduceEqDiff, reduceIte, Nat.reduceAdd, Nat.reduceLeDiff, Nat.reduceLT, Nat.reduceSub]
  refine WP.loop0 (fun i => i ≤ K) (fun i => [(0, octs b), (7, .int .i64 K), (8, .int .i64 (num (b.take i))), (9, .int .i64 (i : Nat))]) (fun i => K - i) 0 (Nat.zero_le _) (fun i _ => by simp ) (by simp [num]) ?_
  intro i hi
  refine wpc_soundR [] ?_
  by_cases hlt : (i : Int) < (K : Nat)
  · have hi' : i < b.length := by omega
    have hx := hB _ (List.getElem_mem hi')
    have hn := num_bd3 (l := b.take i) (fun y hy => hB y (List.mem_of_mem_take hy)) (by rw [List.length_take]; omega)
    have w1 : IntKind.i64.wrap (num (b.take i) * 256) = num (b.take i) * 256 := wrap64 _ (by omega) (by omega)
    have w2 : IntKind.i64.wrap b[i] = b[i] := wrap64 _ (by omega) (by omega)
    have w3 : IntKind.i64.wrap (num (b.take i) * 256 + b[i]) = num (b.take (i + 1)) := by rw [num_take hi', wrap64 _ (by omega) (by omega)]
    simp -implicitDefEqProofs only [leafA, innerA, nodeA, patchA, Leaf.cells, Inner.cells, Node.cells, decide_true, decide_false, hlt, w1, w2, w3, fun H => index_octs H b i hi', go_sem, Nat.reduceEqDiff, reduceIte, Nat.reduceAdd, Nat.reduceLeDiff, Nat.reduceLT, Nat.reduceSub]
    exact ⟨i + 1, by omega, by omega, by simp [wrapS (show i < 9223372036854775807 by omega)]⟩
  · have e : i = K := by omega
    subst e
    simp -implicitDefEqProofs only [leafA, innerA, nodeA, patchA, Leaf.cells, Inner.cells, Node.cells, decide_true, decide_false, hlt, go_sem, Nat.reduceEqDiff, reduceIte, Nat.reduceAdd, Nat.reduceLeDiff, Nat.reduceLT, Nat.reduceSub]
    refine WP.drawQ [] [.l, .l, .l, .l, .l, .l, .l] mixed (by decide) ?_
    simp -implicitDefEqProofs only [leafA, innerA, nodeA, patchA, Leaf.cells, Inner.cells, Node.cells, decide_true, decide_false, sl, go_sem, Nat.reduceEqDiff, reduceIte, Nat.reduceAdd, Nat.reduceLeDiff, Nat.reduceLT, Nat.reduceSub]
    try rfl
noncomputable def r218 : Reg seat := .of told218 (ask2 (fun a0' a1' => isO a0' ∧ isI a1' ∧ Oct (dO a0')) fun a0' a1' => .fn (.tup [.int .i64 (gnum (clampK (dI a1')).toNat (dO a0')).1, octs (gnum (clampK (dI a1')).toNat (dO a0')).2.1, .int .i64 (gnum (clampK (dI a1')).toNat (dO a0')).2.2])) (ask2_ok fun a0' a1' h => SaidOk.fn (Fun.weak (.cons (isO.weak h.1) (.cons (isI.weak h.2.1) .nil)) (refGetNum_spec _ _ h.2.2)))
theorem r218_c : r218.c = 218 := rfl
open Classical in
theorem r218_ask (a0' a1' : AV) : r218.ask [a0', a1'] = if isO a0' ∧ isI a1' ∧ Oct (dO a0') then some (Said.fn (.tup [.int .i64 (gnum (clampK (dI a1')).toNat (dO a0')).1, octs (gnum (clampK (dI a1')).toNat (dO a0')).2.1, .int .i64 (gnum (clampK (dI a1')).toNat (dO a0')).2.2])) else none := by unfold r218 Reg.of ask2; exact ite_cl
end Go.Proofs.YtlehcigcaihoaaaGreat.Al
