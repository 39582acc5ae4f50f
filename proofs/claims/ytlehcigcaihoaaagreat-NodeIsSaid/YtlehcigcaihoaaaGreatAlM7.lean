/-
  SPECS: inner nodes as octets.
-/
import Derived.Test.YtlehcigcaihoaaaGreatAlM6
import Derived.Test.YtlehcigcaihoaaaGreatAlS2A
set_option linter.unusedSimpArgs false
set_option linter.unusedVariables false
namespace Go.Proofs.YtlehcigcaihoaaaGreat.Al
open Go
attribute [local go_sem] W_mv W_pick W_alloc W_box W_build W_bslice W_load W_store W_nilck W_bin W_isnil W_un W_convI W_convS W_mkiface W_mkfunc W_mkslice W_slice W_faddr W_field W_iaddr W_iaddrA W_idxA W_extract W_len W_lenS W_lenA W_min W_max W_append W_appendZ W_copy W_clear W_tassert W_invoke thenQ_normal thenQ_exit thenQ_goto thenQ_ret blockQ_normal blockQ_ret blockQ_goto blockQ_exit wpc_skip wpc_region wpc_draw wpc_seq wpc_cond wpc_block wpc_exit wpc_goto wpc_label wpc_ret wpc_loop wpc_range wpc_scope condW_true condW_false condW_dec condW_any W_nil W_call resW_some evalOp Opd.ev updo_envL updo_none setL_cons setL_nil envL_cons Option.map_some Option.bind_some evBin evInt List.map_cons List.map_nil Option.pure_def Option.bind_eq_bind W_grd' grdW_tt grdW_ff grdW_tf grdW_ft grdW_tup grdW_dt grdW_df lgrdW_tt lgrdW_ff lgrdW_tf lgrdW_ft lgrdW_tup lgrdW_dt lgrdW_df L_mv L_pick L_alloc L_box L_build L_bslice L_load L_store L_nilck L_bin L_isnil L_un L_convI L_convS L_mkiface L_mkfunc L_mkslice L_slice L_faddr L_field L_iaddr L_iaddrA L_idxA L_extract L_len L_lenS L_lenA L_min L_max L_append L_appendZ L_copy L_clear L_tassert L_nil L_call L_grd lresW_some upd_envL evUn beq_dec bne_dec leaves_ret1 leaves_end1 leaves_ret0 leaves_end0 leaves_ret2 leaves_ret3 rowLen_ints load_iptr0 not_dec heap_get0 heap_get1 heap_set0 heap_set1 heap_len1 heap_len2 heap_app heap_app2 bslice1_int seen_ints seen_one0 seen_one1 seen_one2 rowLen_own0 bslice0_int rowLen_own1 Nat.sub_zero Bool.not_true Bool.not_false List.length_nil List.length_cons List.nil_append List.cons_append Nat.zero_add load_iptrA canon_ptrI canon_bool canon_tup canon_agg canon_leafA canon_innerA canon_nodeA canon_ints' rowLen_ints0 seen_ints0 canon_ints0 rowLen_ints1 seen_ints1 canon_ints1 rowLen_ints2 seen_ints2 canon_ints2 rowLen_ints3 seen_ints3 canon_ints3 rowLen_octs seen_octs canon_octs' szOk_octs rowLen_octs0 seen_octs0 canon_octs0 rowLen_octs1 seen_octs1 canon_octs1 rowLen_octs2 seen_octs2 canon_octs2 rowLen_octs3 seen_octs3 canon_octs3 rowLen_intss seen_intss canon_intss' szOk_intss rowLen_intss0 seen_intss0 canon_intss0 rowLen_intss1 seen_intss1 canon_intss1 rowLen_intss2 seen_intss2 canon_intss2 rowLen_intss3 seen_intss3 canon_intss3 rowLen_octss seen_octss canon_octss' szOk_octss rowLen_octss0 seen_octss0 canon_octss0 rowLen_octss1 seen_octss1 canon_octss1 rowLen_octss2 seen_octss2 canon_octss2 rowLen_octss3 seen_octss3 canon_octss3 rowLen_nodes seen_nodes canon_nodes' szOk_nodes rowLen_nodes0 seen_nodes0 canon_nodes0 rowLen_nodes1 seen_nodes1 canon_nodes1 rowLen_nodes2 seen_nodes2 canon_nodes2 rowLen_nodes3 seen_nodes3 canon_nodes3 seen_list cells_int oneIn_int cells_bool oneIn_bool cells_str oneIn_str cells_list oneIn_list cells_func oneIn_func cells_nilfunc oneIn_nilfunc cells_iptr oneIn_iptr cells_iface oneIn_iface cells_nilIface oneIn_nilIface cells_own cells_ptr cells_anybool oneIn_anybool cells_agg oneIn_own0 oneIn_ptr0 seenL0 seenM0 oneIn_own1 oneIn_ptr1 seenL1 seenM1 oneIn_own2 oneIn_ptr2 seenL2 seenM2 oneIn_own3 oneIn_ptr3 seenL3 seenM3 oneIn_own4 oneIn_ptr4 seenL4 seenM4 oneIn_own5 oneIn_ptr5 seenL5 seenM5 cells_ints oneIn_ints cells_octs oneIn_octs cells_intss oneIn_intss cells_octss oneIn_octss cells_nodes oneIn_nodes ldB0 ldA0 adB0 stB0 ldB1 ldA1 adB1 stB1 ldB2 ldA2 adB2 stB2 ldB3 ldA3 adB3 stB3 ldB4 ldA4 adB4 stB4 ldB5 ldA5 adB5 stB5 List.getElem?_cons_zero List.getElem?_cons_succ beq_self_eq_true splice List.take_zero List.take_succ_cons List.drop_zero List.drop_succ_cons List.append_nil List.set_cons_zero List.set_cons_succ List.all_cons List.all_nil Bool.and_self and_self and_true true_and Nat.lt_irrefl Nat.zero_lt_one Nat.le_refl fillA evNil notA Bool.false_eq_true evMin_int evMax_int Option.map_none freezeP_all_nil freezeP_all_cons frzE_box frzE_arr frzE_dead foldA List.foldlM_cons List.foldlM_nil callW_f lcallW_f ansW_fn ansW_own lansW_fn lansW_own ansW_none lansW_none tab_cons tab_nil dI_int dB_bool dO_octs dO_ints dO_list dO_nil dOs_octss dOs_intss dOs_nil dLf_leafA dIn_innerA dN_nodeA dLf_agg dIn_agg dN_agg dNs_nodes dNs_list dNs_nil isI_int isU_int isB_bool isO_octs isO_nil isO_list isS_ints isS_nil isS_list isOs_octss isSs_intss isOs_nil isSs_nil isNs_nodes isNs_list isNs_nil isLf_leafA isIn_innerA isN_nodeA isLf_agg isIn_agg isN_agg leaf_eta inner_eta node_eta leaf_zero inner_zero node_zero dP_patchA dP_agg isP_patchA isP_agg patch_eta decide_eq_true_eq decide_eq_false_iff_not eq_self forall_const true_implies false_implies Bool.not_eq_true' Bool.not_eq_false' Bool.true_eq_false implies_true ne_eq ldI ldIA adI AV.tup.injEq AV.agg.injEq List.cons.injEq AV.int.injEq AV.bool.injEq nodes_inj octs_inj ints_inj nil_nodes nil_octs nil_ints canon_nilL decide_eq_decide two_ne four_ne b256_ne lendA_fn lendA_own lendA_none llendA_fn llendA_none plain_bool plain_int plain_tup2 isNs_own isO_own isS_own isOs_own false_and and_false Q_nil Q_l Q_g Q_h Q_grd qgrdW_b qgrdW_tup lightD_some heavyD_some readD_some fnD_some fnD_own fnD_none callL_f ownH_some callH_f litD_some litE_some Q_call Q_bslice H_call pendOk_nil pendOk_cons pastOk_nil pastOk_cons Q_mv Q_pick Q_bin Q_un Q_convI Q_mkfunc Q_extract Q_min Q_max Q_lenS Q_lenA Q_field Q_idxA Q_mkiface Q_tassert Q_alloc Q_box Q_store Q_mkslice Q_append Q_appendZ Q_copy Q_clear Q_build Q_load Q_nilck Q_isnil Q_convS Q_slice Q_faddr Q_iaddr Q_iaddrA Q_len H_alloc H_box H_bslice H_store H_mkslice H_append H_appendZ H_copy H_clear free_mv free_pick free_bin free_un free_convI free_mkfunc free_extract free_min free_max free_lenS free_lenA free_field free_idxA free_mkiface free_tassert free_build free_load free_nilck free_isnil free_convS free_slice free_faddr free_iaddr free_iaddrA free_len callW_y List.length_map List.length_set leaves_r evR_some evRess1 evRess2 evRess3 evRes_t evRes_c nz_kind nz_enc nz_cred nz_source nz_parent nz_ienc nz_hash nz_un true_or or_true bsl_node idbs_node idbs_int appN appI appO ixo_nodes canon_row canon_rowI canon_rowO not_false_eq_true not_true_eq_false ldE_a ldE_c adE_b stE_b onE_a onP_b bsl_zero idbs_zero appN_zero
attribute [local go_sem low] condW_b grdW_b lgrdW_b ldP adP stP onO onPt
attribute [local simp] envL_cons envL_nil idb_int idb_bool idb_str idb_ints idb_nil idb_own idb_ptr entB_ints' idb_octs entB_octs idb_intss entB_intss idb_octss entB_octss idb_nodes entB_nodes idb_leafA idb_innerA idb_nodeA idb_agg idb_tup idb_iptr idb_fn idb_undef entB_dead entB_box

theorem pbytes_len (b v : List Int) : (pbytes b v).length ≤ b.length + 1048580 := by
  unfold pbytes
  split
  · omega
  · have hp := vput_len (n := (v.length : Int)) (by omega) (by omega)
    have hs := vsize_le (v.length : Int)
    simp only [List.length_append]; omega
theorem innerCheck_64 {n : Inner} (h : innerCheck n = 0) : n.unmerged.length ≤ 1000000000 := by have := (innerCheck_zero h).2.2.1; omega
theorem putBytesF_spec (b v : List Int) (hl : b.length ≤ 4290000000) : Fun seat 198 [octs b, octs v] (octs (pbytes b v)) := (putBytes_spec b v hl).val (encU8.xs_idb _)
noncomputable def r198f : Reg seat := .of told198 (ask2 (fun a0' a1' => isO a0' ∧ isO a1' ∧ (dO a0').length ≤ 4290000000) fun a0' a1' => .fn (octs (pbytes (dO a0') (dO a1')))) (ask2_ok fun a0' a1' h => SaidOk.fn (Fun.weak (.cons (isO.weak h.1) (.cons (isO.weak h.2.1) .nil)) (putBytesF_spec _ _ h.2.2)))
theorem r198f_c : r198f.c = 198 := rfl
open Classical in
theorem r198f_ask (a0' a1' : AV) : r198f.ask [a0', a1'] = if isO a0' ∧ isO a1' ∧ (dO a0').length ≤ 4290000000 then some (Said.fn (octs (pbytes (dO a0') (dO a1')))) else none := by unfold r198f Reg.of ask2; exact ite_cl
theorem refPutBytesF_spec (b v : List Int) (hl : b.length ≤ 4290000000) : Fun seat 199 [octs b, octs v] (octs (pbytes b v)) := (refPutBytes_spec b v hl).val (encU8.xs_idb _)
noncomputable def r199f : Reg seat := .of told199 (ask2 (fun a0' a1' => isO a0' ∧ isO a1' ∧ (dO a0').length ≤ 4290000000) fun a0' a1' => .fn (octs (pbytes (dO a0') (dO a1')))) (ask2_ok fun a0' a1' h => SaidOk.fn (Fun.weak (.cons (isO.weak h.1) (.cons (isO.weak h.2.1) .nil)) (refPutBytesF_spec _ _ h.2.2)))
theorem r199f_c : r199f.c = 199 := rfl
open Classical in
theorem r199f_ask (a0' a1' : AV) : r199f.ask [a0', a1'] = if isO a0' ∧ isO a1' ∧ (dO a0').length ≤ 4290000000 then some (Said.fn (octs (pbytes (dO a0') (dO a1')))) else none := by unfold r199f Reg.of ask2; exact ite_cl
theorem putNumsF_spec (b l : List Int) (hl : b.length ≤ 4290000000) (hl2 : l.length ≤ 1000000000) : Fun seat 197 [octs b, ints l] (octs (pnums b l)) := (putNums_spec b l hl hl2).val (encU8.xs_idb _)
noncomputable def r197f : Reg seat := .of told197 (ask2 (fun a0' a1' => isO a0' ∧ isS a1' ∧ (dO a0').length ≤ 4290000000 ∧ (dO a1').length ≤ 1000000000) fun a0' a1' => .fn (octs (pnums (dO a0') (dO a1')))) (ask2_ok fun a0' a1' h => SaidOk.fn (Fun.weak (.cons (isO.weak h.1) (.cons (isS.weak h.2.1) .nil)) (putNumsF_spec _ _ h.2.2.1 h.2.2.2)))
theorem r197f_c : r197f.c = 197 := rfl
open Classical in
theorem r197f_ask (a0' a1' : AV) : r197f.ask [a0', a1'] = if isO a0' ∧ isS a1' ∧ (dO a0').length ≤ 4290000000 ∧ (dO a1').length ≤ 1000000000 then some (Said.fn (octs (pnums (dO a0') (dO a1')))) else none := by unfold r197f Reg.of ask2; exact ite_cl
theorem refPutNumsF_spec (b l : List Int) (hl : b.length ≤ 4290000000) (hl2 : l.length ≤ 1000000000) : Fun seat 200 [octs b, ints l] (octs (pnums b l)) := (refPutNums_spec b l hl hl2).val (encU8.xs_idb _)
noncomputable def r200f : Reg seat := .of told200 (ask2 (fun a0' a1' => isO a0' ∧ isS a1' ∧ (dO a0').length ≤ 4290000000 ∧ (dO a1').length ≤ 1000000000) fun a0' a1' => .fn (octs (pnums (dO a0') (dO a1')))) (ask2_ok fun a0' a1' h => SaidOk.fn (Fun.weak (.cons (isO.weak h.1) (.cons (isS.weak h.2.1) .nil)) (refPutNumsF_spec _ _ h.2.2.1 h.2.2.2)))
theorem r200f_c : r200f.c = 200 := rfl
open Classical in
theorem r200f_ask (a0' a1' : AV) : r200f.ask [a0', a1'] = if isO a0' ∧ isS a1' ∧ (dO a0').length ≤ 4290000000 ∧ (dO a1').length ≤ 1000000000 then some (Said.fn (octs (pnums (dO a0') (dO a1')))) else none := by unfold r200f Reg.of ask2; exact ite_cl
theorem cloneOF_spec (b : List Int) (hl : b.length ≤ 4294967295) : Fun seat 196 [octs b] (octs b) := (cloneO_spec b hl).val (encU8.xs_idb _)
noncomputable def r196f : Reg seat := .of told196 (ask1 (fun a0' => isO a0' ∧ (dO a0').length ≤ 4294967295) fun a0' => .fn (octs (dO a0'))) (ask1_ok fun a0' h => SaidOk.fn (Fun.weak (.cons (isO.weak h.1) .nil) (cloneOF_spec _ h.2)))
theorem r196f_c : r196f.c = 196 := rfl
open Classical in
theorem r196f_ask (a0' : AV) : r196f.ask [a0'] = if isO a0' ∧ (dO a0').length ≤ 4294967295 then some (Said.fn (octs (dO a0'))) else none := by unfold r196f Reg.of ask1; exact ite_cl

set_option maxHeartbeats 1000000 in
theorem iput_spec (b : List Int) (n : Inner) (hb : b.length ≤ 4280000000) (hn : n.Ok) : Fun seat 183 [octs b, innerA n] (octs (iput b n)) := by
  have b0 : b.length ≤ 4294967295 := by omega
  by_cases hc : innerCheck n = 0
  rotate_left
  · have e : iput b n = b := if_pos hc
    rw [e]
    refine Fun.of0R [r147, r196f] told183 (by simp [il183]) (by simp [idb_patchA]) (by simp [idb_patchA]) 4 ?_
    simp -implicitDefEqProofs only [il183, List.zipIdx_cons, List.zipIdx_nil, leafA, innerA, nodeA, patchA, Leaf.cells, Inner.cells, Node.cells, r147_c, r147_ask, r196f_c, r196f_ask, decide_true, decide_false, hn, hc, b0, go_sem, Nat.reduceEqDiff, reduceIte, Nat.reduceAdd, Nat.reduceLeDiff, Nat.reduceLT, Nat.reduceSub]
  have e : iput b n = pnums (pbytes (pbytes b n.enc) n.hash) n.unmerged := if_neg (not_not_intro hc)
  rw [e]
  have l1 := pbytes_len b n.enc
  have l2 := pbytes_len (pbytes b n.enc) n.hash
  have b1 : b.length ≤ 4290000000 := by omega
  have b2 : (pbytes b n.enc).length ≤ 4290000000 := by omega
  have b3 : (pbytes (pbytes b n.enc) n.hash).length ≤ 4290000000 := by omega
  have b4 := innerCheck_64 hc
  refine Fun.of0R [r147] told183 (by simp [il183]) (by simp [idb_patchA]) (by simp [idb_patchA]) 4 ?_
  simp -implicitDefEqProofs only [il183, List.zipIdx_cons, List.zipIdx_nil, leafA, innerA, nodeA, patchA, Leaf.cells, Inner.cells, Node.cells, r147_c, r147_ask, decide_true, decide_false, hn, hc, go_sem, Nat.reduceEqDiff, reduceIte, Nat.reduceAdd, Nat.reduceLeDiff, Nat.reduceLT, Nat.reduceSub]
  refine WP.drawQ [r198f, r197f] [.l, .g 0 0, .g 0 0, .l, .g 0 0, .g 0 0, .l, .g 0 0, .g 0 0, .l, .l] mixed (by decide) ?_
  simp -implicitDefEqProofs only [leafA, innerA, nodeA, patchA, Leaf.cells, Inner.cells, Node.cells, r198f_c, r198f_ask, r197f_c, r197f_ask, decide_true, decide_false, b1, b2, b3, b4, go_sem, Nat.reduceEqDiff, reduceIte, Nat.reduceAdd, Nat.reduceLeDiff, Nat.reduceLT, Nat.reduceSub]
noncomputable def r183 : Reg seat := .of told183 (ask2 (fun a0' a1' => isO a0' ∧ isIn a1' ∧ (dO a0').length ≤ 4280000000 ∧ (dIn a1').Ok) fun a0' a1' => .fn (octs (iput (dO a0') (dIn a1')))) (ask2_ok fun a0' a1' h => SaidOk.fn (Fun.weak (.cons (isO.weak h.1) (.cons (isIn.weak h.2.1) .nil)) (iput_spec _ _ h.2.2.1 h.2.2.2)))
theorem r183_c : r183.c = 183 := rfl
open Classical in
theorem r183_ask (a0' a1' : AV) : r183.ask [a0', a1'] = if isO a0' ∧ isIn a1' ∧ (dO a0').length ≤ 4280000000 ∧ (dIn a1').Ok then some (Said.fn (octs (iput (dO a0') (dIn a1')))) else none := by unfold r183 Reg.of ask2; exact ite_cl
set_option maxHeartbeats 1000000 in
theorem refIput_spec (b : List Int) (n : Inner) (hb : b.length ≤ 4280000000) (hn : n.Ok) : Fun seat 184 [octs b, innerA n] (octs (iput b n)) := by
  have b0 : b.length ≤ 4294967295 := by omega
  have cl : ∃ v, evAppend [.box [octs n.enc, octs n.hash, ints n.unmerged], Entry.arr 1 0 []] 1 1 (.own 1 0 0 0) (b.map (AV.int .u8)) = some (.own 1 v 0 b.length, [.box [octs n.enc, octs n.hash, ints n.unmerged], .arr 1 v (b.map (AV.int .u8))]) := by
    obtain ⟨v, hv⟩ := encU8.app_any (H := [.box [octs n.enc, octs n.hash, ints n.unmerged], Entry.arr 1 0 (([] : List Int).map (AV.int .u8))]) (id := 1) (ver := 0) (l := []) (ys := b) (bytes := 1) rfl (by unfold maxRow; simp; omega) (by decide)
    exact ⟨v, by simpa [encU8] using hv⟩
  obtain ⟨v0, cl⟩ := cl
  have hb0 : ∀ e : Entry, evBslice [e] 1 0 (.int .u8 0) [] = some (.own 1 0 0 0, [e, .arr 1 0 []]) := fun _ => rfl
  by_cases hc : innerCheck n = 0
  rotate_left
  · have e : iput b n = b := if_pos hc
    rw [e]
    refine Fun.of0R [r165] told184 (by simp [il184]) (by simp [idb_patchA]) (by simp [idb_patchA]) 4 ?_
    simp -implicitDefEqProofs only [il184, List.zipIdx_cons, List.zipIdx_nil, leafA, innerA, nodeA, patchA, Leaf.cells, Inner.cells, Node.cells, r165_c, r165_ask, decide_true, decide_false, hn, hc, cl, hb0, go_sem, Nat.reduceEqDiff, reduceIte, Nat.reduceAdd, Nat.reduceLeDiff, Nat.reduceLT, Nat.reduceSub]
  have e : iput b n = pnums (pbytes (pbytes b n.enc) n.hash) n.unmerged := if_neg (not_not_intro hc)
  rw [e]
  have l1 := pbytes_len b n.enc
  have l2 := pbytes_len (pbytes b n.enc) n.hash
  have b1 : b.length ≤ 4290000000 := by omega
  have b2 : (pbytes b n.enc).length ≤ 4290000000 := by omega
  have b3 : (pbytes (pbytes b n.enc) n.hash).length ≤ 4290000000 := by omega
  have b4 := innerCheck_64 hc
  refine Fun.of0R [r165, r199, r200] told184 (by simp [il184]) (by simp [idb_patchA]) (by simp [idb_patchA]) 4 ?_
  simp -implicitDefEqProofs only [il184, List.zipIdx_cons, List.zipIdx_nil, leafA, innerA, nodeA, patchA, Leaf.cells, Inner.cells, Node.cells, r165_c, r165_ask, r199_c, r199_ask, r200_c, r200_ask, decide_true, decide_false, hn, hc, cl, hb0, b1, b2, b3, b4, plainI, true_and, go_sem, Nat.reduceEqDiff, reduceIte, Nat.reduceAdd, Nat.reduceLeDiff, Nat.reduceLT, Nat.reduceSub]
noncomputable def r184 : Reg seat := .of told184 (ask2 (fun a0' a1' => isO a0' ∧ isIn a1' ∧ (dO a0').length ≤ 4280000000 ∧ (dIn a1').Ok) fun a0' a1' => .fn (octs (iput (dO a0') (dIn a1')))) (ask2_ok fun a0' a1' h => SaidOk.fn (Fun.weak (.cons (isO.weak h.1) (.cons (isIn.weak h.2.1) .nil)) (refIput_spec _ _ h.2.2.1 h.2.2.2)))
theorem r184_c : r184.c = 184 := rfl
open Classical in
theorem r184_ask (a0' a1' : AV) : r184.ask [a0', a1'] = if isO a0' ∧ isIn a1' ∧ (dO a0').length ≤ 4280000000 ∧ (dIn a1').Ok then some (Said.fn (octs (iput (dO a0') (dIn a1')))) else none := by unfold r184 Reg.of ask2; exact ite_cl

theorem num4_bd : ∀ {v : List Int}, Bytes v → ∀ x ∈ num4 v, 0 ≤ x ∧ x ≤ 4294967295
  | [], _, x, hx => by cases hx
  | [_], _, x, hx => by cases hx
  | [_, _], _, x, hx => by cases hx
  | [_, _, _], _, x, hx => by cases hx
  | a :: b :: c :: d :: r, hb, x, hx => by
    simp only [num4, List.mem_cons] at hx
    rcases hx with rfl | hx
    · have := num_bd4 (l := [a, b, c, d]) (fun y hy => hb y (by simp at hy ⊢; rcases hy with h | h | h | h <;> simp [h])) (by simp)
      omega
    · exact num4_bd (v := r) (fun y hy => hb y (by simp [hy])) x hx
theorem gnums_nums {b : List Int} (h : Oct b) : Nums (gnums b).1 := by
  have ho := (gbytes_oct h).1
  unfold gnums
  split
  · exact .nil
  · split
    · exact .nil
    · rename_i h4
      refine ⟨?_, fun x hx => ?_⟩
      · have := ho.1
        simp only [Small] at this ⊢
        rw [num4_len _ (by omega)]; omega
      · have := num4_bd (bytes_of ho) x hx
        have e1 : IntKind.i64.min = -9223372036854775808 := rfl
        have e2 : IntKind.i64.max = 9223372036854775807 := rfl
        omega

set_option maxHeartbeats 2000000 in
theorem iget_spec (b : List Int) (hb : Oct b) (hl : b.length ≤ 4294967295) : Fun seat 181 [octs b] (.tup [innerA (iget b).1, octs (iget b).2.1, .int .i64 (iget b).2.2]) := by
  have ho := gbytes_oct hb
  have hs1 := (gbytes_sub b).2.1
  rcases h1 : gbytes b with ⟨x, r, e⟩
  rw [h1] at ho hs1
  have ho2 := gbytes_oct ho.2
  have hs2 := (gbytes_sub r).2.1
  simp only at ho hs1
  rcases h2 : gbytes r with ⟨y, s, f⟩
  rw [h2] at ho2 hs2
  have ho3 := gnums_nums ho2.2
  simp only at ho2 hs2
  rcases h3 : gnums s with ⟨l, t, g⟩
  rw [h3] at ho3
  simp only at ho3
  have o1 := ho.2
  have o2 := ho2.2
  have ok : Inner.Ok ⟨x, y, l⟩ := ⟨ho.1, ho2.1, ho3⟩
  have m1 : s.length ≤ 4294967295 := by omega
  rw [iget_eq h1 h2 h3]
  by_cases he : e = 0
  rotate_left
  · rw [if_pos he]
    refine Fun.of0R [r192, r193, r147] told181 (by simp [il181]) (by simp [idb_patchA]) (by simp [idb_patchA]) 4 ?_
    simp -implicitDefEqProofs only [il181, List.zipIdx_cons, List.zipIdx_nil, leafA, innerA, nodeA, patchA, Leaf.cells, Inner.cells, Node.cells, r192_c, r192_ask, r193_c, r193_ask, r147_c, r147_ask, decide_true, decide_false, hb, h1, he, go_sem, Nat.reduceEqDiff, reduceIte, Nat.reduceAdd, Nat.reduceLeDiff, Nat.reduceLT, Nat.reduceSub]
    exact ⟨rfl, rfl, rfl⟩
  rw [if_neg (not_not_intro he)]
  by_cases hf : f = 0
  rotate_left
  · rw [if_pos hf]
    refine Fun.of0R [r192, r193, r147] told181 (by simp [il181]) (by simp [idb_patchA]) (by simp [idb_patchA]) 4 ?_
    simp -implicitDefEqProofs only [il181, List.zipIdx_cons, List.zipIdx_nil, leafA, innerA, nodeA, patchA, Leaf.cells, Inner.cells, Node.cells, r192_c, r192_ask, r193_c, r193_ask, r147_c, r147_ask, decide_true, decide_false, hb, h1, he, o1, h2, hf, go_sem, Nat.reduceEqDiff, reduceIte, Nat.reduceAdd, Nat.reduceLeDiff, Nat.reduceLT, Nat.reduceSub]
    exact ⟨rfl, rfl, rfl⟩
  rw [if_neg (not_not_intro hf)]
  by_cases hg : g = 0
  rotate_left
  · rw [if_pos hg]
    refine Fun.of0R [r192, r193, r147] told181 (by simp [il181]) (by simp [idb_patchA]) (by simp [idb_patchA]) 4 ?_
    simp -implicitDefEqProofs only [il181, List.zipIdx_cons, List.zipIdx_nil, leafA, innerA, nodeA, patchA, Leaf.cells, Inner.cells, Node.cells, r192_c, r192_ask, r193_c, r193_ask, r147_c, r147_ask, decide_true, decide_false, hb, h1, he, o1, h2, hf, o2, h3, hg, m1, go_sem, Nat.reduceEqDiff, reduceIte, Nat.reduceAdd, Nat.reduceLeDiff, Nat.reduceLT, Nat.reduceSub]
    exact ⟨rfl, rfl, rfl⟩
  rw [if_neg (not_not_intro hg)]
  by_cases hc : innerCheck ⟨x, y, l⟩ = 0
  rotate_left
  · rw [if_pos hc]
    refine Fun.of0R [r192, r193, r147] told181 (by simp [il181]) (by simp [idb_patchA]) (by simp [idb_patchA]) 4 ?_
    simp -implicitDefEqProofs only [il181, List.zipIdx_cons, List.zipIdx_nil, leafA, innerA, nodeA, patchA, Leaf.cells, Inner.cells, Node.cells, r192_c, r192_ask, r193_c, r193_ask, r147_c, r147_ask, decide_true, decide_false, hb, h1, he, o1, h2, hf, o2, h3, hg, m1, ok, hc, go_sem, Nat.reduceEqDiff, reduceIte, Nat.reduceAdd, Nat.reduceLeDiff, Nat.reduceLT, Nat.reduceSub]
    exact ⟨rfl, rfl, rfl⟩
  rw [if_neg (not_not_intro hc)]
  refine Fun.of0R [r192, r193, r147] told181 (by simp [il181]) (by simp [idb_patchA]) (by simp [idb_patchA]) 4 ?_
  simp -implicitDefEqProofs only [il181, List.zipIdx_cons, List.zipIdx_nil, leafA, innerA, nodeA, patchA, Leaf.cells, Inner.cells, Node.cells, r192_c, r192_ask, r193_c, r193_ask, r147_c, r147_ask, decide_true, decide_false, hb, h1, he, o1, h2, hf, o2, h3, hg, m1, ok, hc, go_sem, Nat.reduceEqDiff, reduceIte, Nat.reduceAdd, Nat.reduceLeDiff, Nat.reduceLT, Nat.reduceSub]
noncomputable def r181 : Reg seat := .of told181 (ask1 (fun a0' => isO a0' ∧ Oct (dO a0') ∧ (dO a0').length ≤ 4294967295) fun a0' => .fn (.tup [innerA (iget (dO a0')).1, octs (iget (dO a0')).2.1, .int .i64 (iget (dO a0')).2.2])) (ask1_ok fun a0' h => SaidOk.fn (Fun.weak (.cons (isO.weak h.1) .nil) (iget_spec _ h.2.1 h.2.2)))
theorem r181_c : r181.c = 181 := rfl
open Classical in
theorem r181_ask (a0' : AV) : r181.ask [a0'] = if isO a0' ∧ Oct (dO a0') ∧ (dO a0').length ≤ 4294967295 then some (Said.fn (.tup [innerA (iget (dO a0')).1, octs (iget (dO a0')).2.1, .int .i64 (iget (dO a0')).2.2])) else none := by unfold r181 Reg.of ask1; exact ite_cl
set_option maxHeartbeats 2000000 in
theorem refIget_spec (b : List Int) (hb : Oct b) (hl : b.length ≤ 4294967295) : Fun seat 182 [octs b] (.tup [innerA (iget b).1, octs (iget b).2.1, .int .i64 (iget b).2.2]) := by
  have ho := gbytes_oct hb
  have hs1 := (gbytes_sub b).2.1
  rcases h1 : gbytes b with ⟨x, r, e⟩
  rw [h1] at ho hs1
  have ho2 := gbytes_oct ho.2
  have hs2 := (gbytes_sub r).2.1
  simp only at ho hs1
  rcases h2 : gbytes r with ⟨y, s, f⟩
  rw [h2] at ho2 hs2
  have ho3 := gnums_nums ho2.2
  simp only at ho2 hs2
  rcases h3 : gnums s with ⟨l, t, g⟩
  rw [h3] at ho3
  simp only at ho3
  have o1 := ho.2
  have o2 := ho2.2
  have ok : Inner.Ok ⟨x, y, l⟩ := ⟨ho.1, ho2.1, ho3⟩
  have m1 : s.length ≤ 4294967295 := by omega
  rw [iget_eq h1 h2 h3]
  by_cases he : e = 0
  rotate_left
  · rw [if_pos he]
    refine Fun.of0R [r194, r195, r165] told182 (by simp [il182]) (by simp [idb_patchA]) (by simp [idb_patchA]) 4 ?_
    simp -implicitDefEqProofs only [il182, List.zipIdx_cons, List.zipIdx_nil, leafA, innerA, nodeA, patchA, Leaf.cells, Inner.cells, Node.cells, r194_c, r194_ask, r195_c, r195_ask, r165_c, r165_ask, decide_true, decide_false, hb, h1, he, go_sem, Nat.reduceEqDiff, reduceIte, Nat.reduceAdd, Nat.reduceLeDiff, Nat.reduceLT, Nat.reduceSub]
    exact ⟨rfl, rfl, rfl⟩
  rw [if_neg (not_not_intro he)]
  by_cases hf : f = 0
  rotate_left
  · rw [if_pos hf]
    refine Fun.of0R [r194, r195, r165] told182 (by simp [il182]) (by simp [idb_patchA]) (by simp [idb_patchA]) 4 ?_
    simp -implicitDefEqProofs only [il182, List.zipIdx_cons, List.zipIdx_nil, leafA, innerA, nodeA, patchA, Leaf.cells, Inner.cells, Node.cells, r194_c, r194_ask, r195_c, r195_ask, r165_c, r165_ask, decide_true, decide_false, hb, h1, he, o1, h2, hf, go_sem, Nat.reduceEqDiff, reduceIte, Nat.reduceAdd, Nat.reduceLeDiff, Nat.reduceLT, Nat.reduceSub]
    exact ⟨rfl, rfl, rfl⟩
  rw [if_neg (not_not_intro hf)]
  by_cases hg : g = 0
  rotate_left
  · rw [if_pos hg]
    refine Fun.of0R [r194, r195, r165] told182 (by simp [il182]) (by simp [idb_patchA]) (by simp [idb_patchA]) 4 ?_
    simp -implicitDefEqProofs only [il182, List.zipIdx_cons, List.zipIdx_nil, leafA, innerA, nodeA, patchA, Leaf.cells, Inner.cells, Node.cells, r194_c, r194_ask, r195_c, r195_ask, r165_c, r165_ask, decide_true, decide_false, hb, h1, he, o1, h2, hf, o2, h3, hg, m1, go_sem, Nat.reduceEqDiff, reduceIte, Nat.reduceAdd, Nat.reduceLeDiff, Nat.reduceLT, Nat.reduceSub]
    exact ⟨rfl, rfl, rfl⟩
  rw [if_neg (not_not_intro hg)]
  by_cases hc : innerCheck ⟨x, y, l⟩ = 0
  rotate_left
  · rw [if_pos hc]
    refine Fun.of0R [r194, r195, r165] told182 (by simp [il182]) (by simp [idb_patchA]) (by simp [idb_patchA]) 4 ?_
    simp -implicitDefEqProofs only [il182, List.zipIdx_cons, List.zipIdx_nil, leafA, innerA, nodeA, patchA, Leaf.cells, Inner.cells, Node.cells, r194_c, r194_ask, r195_c, r195_ask, r165_c, r165_ask, decide_true, decide_false, hb, h1, he, o1, h2, hf, o2, h3, hg, m1, ok, hc, go_sem, Nat.reduceEqDiff, reduceIte, Nat.reduceAdd, Nat.reduceLeDiff, Nat.reduceLT, Nat.reduceSub]
    refine WP.drawQ [r165] [.g 0 0, .g 0 0, .l, .h 0, .l, .l] mixed (by decide) ?_
    simp -implicitDefEqProofs only [leafA, innerA, nodeA, patchA, Leaf.cells, Inner.cells, Node.cells, r165_c, r165_ask, decide_true, decide_false, ok, go_sem, Nat.reduceEqDiff, reduceIte, Nat.reduceAdd, Nat.reduceLeDiff, Nat.reduceLT, Nat.reduceSub]
    exact ⟨rfl, rfl, rfl⟩
  rw [if_neg (not_not_intro hc)]
  refine Fun.of0R [r194, r195, r165] told182 (by simp [il182]) (by simp [idb_patchA]) (by simp [idb_patchA]) 4 ?_
  simp -implicitDefEqProofs only [il182, List.zipIdx_cons, List.zipIdx_nil, leafA, innerA, nodeA, patchA, Leaf.cells, Inner.cells, Node.cells, r194_c, r194_ask, r195_c, r195_ask, r165_c, r165_ask, decide_true, decide_false, hb, h1, he, o1, h2, hf, o2, h3, hg, m1, ok, hc, go_sem, Nat.reduceEqDiff, reduceIte, Nat.reduceAdd, Nat.reduceLeDiff, Nat.reduceLT, Nat.reduceSub]
noncomputable def r182 : Reg seat := .of told182 (ask1 (fun a0' => isO a0' ∧ Oct (dO a0') ∧ (dO a0').length ≤ 4294967295) fun a0' => .fn (.tup [innerA (iget (dO a0')).1, octs (iget (dO a0')).2.1, .int .i64 (iget (dO a0')).2.2])) (ask1_ok fun a0' h => SaidOk.fn (Fun.weak (.cons (isO.weak h.1) .nil) (refIget_spec _ h.2.1 h.2.2)))
theorem r182_c : r182.c = 182 := rfl
open Classical in
theorem r182_ask (a0' : AV) : r182.ask [a0'] = if isO a0' ∧ Oct (dO a0') ∧ (dO a0').length ≤ 4294967295 then some (Said.fn (.tup [innerA (iget (dO a0')).1, octs (iget (dO a0')).2.1, .int .i64 (iget (dO a0')).2.2])) else none := by unfold r182 Reg.of ask1; exact ite_cl
end Go.Proofs.YtlehcigcaihoaaaGreat.Al
