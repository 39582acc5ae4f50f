/-
  SPECS: leaves and nodes laid behind octets.
-/
import Derived.Test.YtlehcigcaihoaaaGreatAlQ9
set_option linter.unusedSimpArgs false
set_option linter.unusedVariables false
namespace Go.Proofs.YtlehcigcaihoaaaGreat.Al
open Go
attribute [local go_sem] W_mv W_pick W_alloc W_box W_build W_bslice W_load W_store W_nilck W_bin W_isnil W_un W_convI W_convS W_mkiface W_mkfunc W_mkslice W_slice W_faddr W_field W_iaddr W_iaddrA W_idxA W_extract W_len W_lenS W_lenA W_min W_max W_append W_appendZ W_copy W_clear W_tassert W_invoke thenQ_normal thenQ_exit thenQ_goto thenQ_ret blockQ_normal blockQ_ret blockQ_goto blockQ_exit wpc_skip wpc_region wpc_draw wpc_seq wpc_cond wpc_block wpc_exit wpc_goto wpc_label wpc_ret wpc_loop wpc_range wpc_scope condW_true condW_false condW_dec condW_any W_nil W_call resW_some evalOp Opd.ev updo_envL updo_none setL_cons setL_nil envL_cons Option.map_some Option.bind_some evBin evInt List.map_cons List.map_nil Option.pure_def Option.bind_eq_bind W_grd' grdW_tt grdW_ff grdW_tf grdW_ft grdW_tup grdW_dt grdW_df lgrdW_tt lgrdW_ff lgrdW_tf lgrdW_ft lgrdW_tup lgrdW_dt lgrdW_df L_mv L_pick L_alloc L_box L_build L_bslice L_load L_store L_nilck L_bin L_isnil L_un L_convI L_convS L_mkiface L_mkfunc L_mkslice L_slice L_faddr L_field L_iaddr L_iaddrA L_idxA L_extract L_len L_lenS L_lenA L_min L_max L_append L_appendZ L_copy L_clear L_tassert L_nil L_call L_grd lresW_some upd_envL evUn beq_dec bne_dec leaves_ret1 leaves_end1 leaves_ret0 leaves_end0 leaves_ret2 leaves_ret3 rowLen_ints load_iptr0 not_dec heap_get0 heap_get1 heap_set0 heap_set1 heap_len1 heap_len2 heap_app heap_app2 bslice1_int seen_ints seen_one0 seen_one1 seen_one2 rowLen_own0 bslice0_int rowLen_own1 Nat.sub_zero Bool.not_true Bool.not_false List.length_nil List.length_cons List.nil_append List.cons_append Nat.zero_add load_iptrA canon_ptrI canon_bool canon_tup canon_agg canon_leafA canon_innerA canon_nodeA canon_ints' rowLen_ints0 seen_ints0 canon_ints0 rowLen_ints1 seen_ints1 canon_ints1 rowLen_ints2 seen_ints2 canon_ints2 rowLen_ints3 seen_ints3 canon_ints3 rowLen_octs seen_octs canon_octs' szOk_octs rowLen_octs0 seen_octs0 canon_octs0 rowLen_octs1 seen_octs1 canon_octs1 rowLen_octs2 seen_octs2 canon_octs2 rowLen_octs3 seen_octs3 canon_octs3 rowLen_intss seen_intss canon_intss' szOk_intss rowLen_intss0 seen_intss0 canon_intss0 rowLen_intss1 seen_intss1 canon_intss1 rowLen_intss2 seen_intss2 canon_intss2 rowLen_intss3 seen_intss3 canon_intss3 rowLen_octss seen_octss canon_octss' szOk_octss rowLen_octss0 seen_octss0 canon_octss0 rowLen_octss1 seen_octss1 canon_octss1 rowLen_octss2 seen_octss2 canon_octss2 rowLen_octss3 seen_octss3 canon_octss3 rowLen_nodes seen_nodes canon_nodes' szOk_nodes rowLen_nodes0 seen_nodes0 canon_nodes0 rowLen_nodes1 seen_nodes1 canon_nodes1 rowLen_nodes2 seen_nodes2 canon_nodes2 rowLen_nodes3 seen_nodes3 canon_nodes3 seen_list cells_int oneIn_int cells_bool oneIn_bool cells_str oneIn_str cells_list oneIn_list cells_func oneIn_func cells_nilfunc oneIn_nilfunc cells_iptr oneIn_iptr cells_iface oneIn_iface cells_nilIface oneIn_nilIface cells_own cells_ptr cells_anybool oneIn_anybool cells_agg oneIn_own0 oneIn_ptr0 seenL0 seenM0 oneIn_own1 oneIn_ptr1 seenL1 seenM1 oneIn_own2 oneIn_ptr2 seenL2 seenM2 oneIn_own3 oneIn_ptr3 seenL3 seenM3 oneIn_own4 oneIn_ptr4 seenL4 seenM4 oneIn_own5 oneIn_ptr5 seenL5 seenM5 cells_ints oneIn_ints cells_octs oneIn_octs cells_intss oneIn_intss cells_octss oneIn_octss cells_nodes oneIn_nodes ldB0 ldA0 adB0 stB0 ldB1 ldA1 adB1 stB1 ldB2 ldA2 adB2 stB2 ldB3 ldA3 adB3 stB3 ldB4 ldA4 adB4 stB4 ldB5 ldA5 adB5 stB5 List.getElem?_cons_zero List.getElem?_cons_succ beq_self_eq_true splice List.take_zero List.take_succ_cons List.drop_zero List.drop_succ_cons List.append_nil List.set_cons_zero List.set_cons_succ List.all_cons List.all_nil Bool.and_self and_self and_true true_and Nat.lt_irrefl Nat.zero_lt_one Nat.le_refl fillA evNil notA Bool.false_eq_true evMin_int evMax_int Option.map_none freezeP_all_nil freezeP_all_cons frzE_box frzE_arr frzE_dead foldA List.foldlM_cons List.foldlM_nil callW_f lcallW_f ansW_fn ansW_own lansW_fn lansW_own ansW_none lansW_none tab_cons tab_nil dI_int dB_bool dO_octs dO_ints dO_list dO_nil dOs_octss dOs_intss dOs_nil dLf_leafA dIn_innerA dN_nodeA dLf_agg dIn_agg dN_agg dNs_nodes dNs_list dNs_nil isI_int isU_int isB_bool isO_octs isO_nil isO_list isS_ints isS_nil isS_list isOs_octss isSs_intss isOs_nil isSs_nil isNs_nodes isNs_list isNs_nil isLf_leafA isIn_innerA isN_nodeA isLf_agg isIn_agg isN_agg leaf_eta inner_eta node_eta leaf_zero inner_zero node_zero dP_patchA dP_agg isP_patchA isP_agg patch_eta decide_eq_true_eq decide_eq_false_iff_not eq_self forall_const true_implies false_implies Bool.not_eq_true' Bool.not_eq_false' Bool.true_eq_false implies_true ne_eq ldI ldIA adI AV.tup.injEq AV.agg.injEq List.cons.injEq AV.int.injEq AV.bool.injEq nodes_inj octs_inj ints_inj nil_nodes nil_octs nil_ints canon_nilL decide_eq_decide two_ne four_ne b256_ne lendA_fn lendA_own lendA_none llendA_fn llendA_none plain_bool plain_int plain_tup2 isNs_own isO_own isS_own isOs_own false_and and_false Q_nil Q_l Q_g Q_h Q_grd qgrdW_b qgrdW_tup lightD_some heavyD_some readD_some fnD_some fnD_own fnD_none callL_f ownH_some callH_f litD_some litE_some Q_call Q_bslice H_call pendOk_nil pendOk_cons pastOk_nil pastOk_cons Q_mv Q_pick Q_bin Q_un Q_convI Q_mkfunc Q_extract Q_min Q_max Q_lenS Q_lenA Q_field Q_idxA Q_mkiface Q_tassert Q_alloc Q_box Q_store Q_mkslice Q_append Q_appendZ Q_copy Q_clear Q_build Q_load Q_nilck Q_isnil Q_convS Q_slice Q_faddr Q_iaddr Q_iaddrA Q_len H_alloc H_box H_bslice H_store H_mkslice H_append H_appendZ H_copy H_clear free_mv free_pick free_bin free_un free_convI free_mkfunc free_extract free_min free_max free_lenS free_lenA free_field free_idxA free_mkiface free_tassert free_build free_load free_nilck free_isnil free_convS free_slice free_faddr free_iaddr free_iaddrA free_len callW_y List.length_map List.length_set leaves_r evR_some evRess1 evRess2 evRess3 evRes_t evRes_c nz_kind nz_enc nz_cred nz_source nz_parent nz_ienc nz_hash nz_un true_or or_true bsl_node idbs_node idbs_int appN appI appO ixo_nodes canon_row canon_rowI canon_rowO not_false_eq_true not_true_eq_false ldE_a ldE_c adE_b stE_b onE_a onP_b bsl_zero idbs_zero appN_zero
attribute [local go_sem low] condW_b grdW_b lgrdW_b ldP adP stP onO onPt
attribute [local simp] envL_cons envL_nil idb_int idb_bool idb_str idb_ints idb_nil idb_own idb_ptr entB_ints' idb_octs entB_octs idb_intss entB_intss idb_octss entB_octss idb_nodes entB_nodes idb_leafA idb_innerA idb_nodeA idb_agg idb_tup idb_iptr idb_fn idb_undef entB_dead entB_box

def lput (b : List Int) (l : Leaf) : List Int := if leafCheck l ≠ 0 then b else if l.source = 3 then pbytes (pbytes (pbytes b l.enc) l.cred ++ beK 1 l.source) l.parent else pbytes (pbytes b l.enc) l.cred ++ beK 1 l.source
def fput (b : List Int) (f : Bool) : List Int := b ++ beK 1 (if f then 1 else 0)
def knownN (n : Node) : Node := if nodeCheck n ≠ 0 then .zero else n
def laidI (k : Int) (n : Node) (b : List Int) : List Int := if n.kind = k then iput (fput b true) n.inner else fput b false
def laidL (k : Int) (n : Node) (b : List Int) : List Int := if n.kind = k then lput (fput b true) n.leaf else fput b false
def nput (b : List Int) (n : Node) : List Int :=
  if (knownN n).kind = 2 then iput (fput b true ++ beK 1 2) (knownN n).inner else if (knownN n).kind = 1 then lput (fput b true ++ beK 1 1) (knownN n).leaf else fput b false
theorem clamp1 : (clampK 1).toNat = 1 := rfl
theorem beK1_len (n : Int) : (beK 1 n).length = 1 := beK_len 1 n
theorem fput_len (b : List Int) (f : Bool) : (fput b f).length = b.length + 1 := by unfold fput; rw [List.length_append, beK1_len]

set_option maxHeartbeats 1000000 in
theorem lput_spec (b : List Int) (l : Leaf) (hb : b.length ≤ 4270000000) (hl : l.Ok) : Fun seat 225 [octs b, leafA l] (octs (lput b l)) := by
  have b0 : b.length ≤ 4294967295 := by omega
  by_cases hc : leafCheck l = 0
  rotate_left
  · have e : lput b l = b := if_pos hc
    rw [e]
    refine Fun.of0R [r146, r196f] told225 (by simp [il225]) (by simp [idb_patchA]) (by simp [idb_patchA]) 4 ?_
    simp -implicitDefEqProofs only [il225, List.zipIdx_cons, List.zipIdx_nil, leafA, innerA, nodeA, patchA, Leaf.cells, Inner.cells, Node.cells, r146_c, r146_ask, r196f_c, r196f_ask, decide_true, decide_false, hl, hc, b0, go_sem, Nat.reduceEqDiff, reduceIte, Nat.reduceAdd, Nat.reduceLeDiff, Nat.reduceLT, Nat.reduceSub]
  have l1 := pbytes_len b l.enc
  have l2 := pbytes_len (pbytes b l.enc) l.cred
  have b1 : b.length ≤ 4290000000 := by omega
  have b2 : (pbytes b l.enc).length ≤ 4290000000 := by omega
  have b3 : (pbytes (pbytes b l.enc) l.cred).length ≤ 4294960000 := by omega
  have b4 : (pbytes (pbytes b l.enc) l.cred ++ beK 1 l.source).length ≤ 4290000000 := by rw [List.length_append, beK1_len]; omega
  have e : lput b l = if l.source = 3 then pbytes (pbytes (pbytes b l.enc) l.cred ++ beK 1 l.source) l.parent else pbytes (pbytes b l.enc) l.cred ++ beK 1 l.source := if_neg (not_not_intro hc)
  rw [e]
  by_cases hs : l.source = 3
  · rw [if_pos hs]
    refine Fun.of0R [r146, r198f] told225 (by simp [il225]) (by simp [idb_patchA]) (by simp [idb_patchA]) 4 ?_
    simp -implicitDefEqProofs only [il225, List.zipIdx_cons, List.zipIdx_nil, leafA, innerA, nodeA, patchA, Leaf.cells, Inner.cells, Node.cells, r146_c, r146_ask, r198f_c, r198f_ask, decide_true, decide_false, hl, hc, go_sem, Nat.reduceEqDiff, reduceIte, Nat.reduceAdd, Nat.reduceLeDiff, Nat.reduceLT, Nat.reduceSub]
    refine WP.drawQ [r198f, r214f] [.l, .g 0 0, .g 0 0, .l, .g 0 0, .g 0 0, .l, .g 0 0, .g 0 0, .l, .l] mixed (by decide) ?_
    rw [hs] at b4
    simp -implicitDefEqProofs only [leafA, innerA, nodeA, patchA, Leaf.cells, Inner.cells, Node.cells, r198f_c, r198f_ask, r214f_c, r214f_ask, r146_c, r146_ask, decide_true, decide_false, b1, b2, b3, b4, clamp1, hs, go_sem, Nat.reduceEqDiff, reduceIte, Nat.reduceAdd, Nat.reduceLeDiff, Nat.reduceLT, Nat.reduceSub]
  · rw [if_neg hs]
    refine Fun.of0R [r146, r198f] told225 (by simp [il225]) (by simp [idb_patchA]) (by simp [idb_patchA]) 4 ?_
    simp -implicitDefEqProofs only [il225, List.zipIdx_cons, List.zipIdx_nil, leafA, innerA, nodeA, patchA, Leaf.cells, Inner.cells, Node.cells, r146_c, r146_ask, r198f_c, r198f_ask, decide_true, decide_false, hl, hc, go_sem, Nat.reduceEqDiff, reduceIte, Nat.reduceAdd, Nat.reduceLeDiff, Nat.reduceLT, Nat.reduceSub]
    refine WP.drawQ [r198f, r214f] [.l, .g 0 0, .g 0 0, .l, .g 0 0, .g 0 0, .l, .g 0 0, .g 0 0, .l, .l] mixed (by decide) ?_
    simp -implicitDefEqProofs only [leafA, innerA, nodeA, patchA, Leaf.cells, Inner.cells, Node.cells, r198f_c, r198f_ask, r214f_c, r214f_ask, r146_c, r146_ask, decide_true, decide_false, b1, b2, b3, b4, clamp1, hs, go_sem, Nat.reduceEqDiff, reduceIte, Nat.reduceAdd, Nat.reduceLeDiff, Nat.reduceLT, Nat.reduceSub]
noncomputable def r225 : Reg seat := .of told225 (ask2 (fun a0' a1' => isO a0' ∧ isLf a1' ∧ (dO a0').length ≤ 4270000000 ∧ (dLf a1').Ok) fun a0' a1' => .fn (octs (lput (dO a0') (dLf a1')))) (ask2_ok fun a0' a1' h => SaidOk.fn (Fun.weak (.cons (isO.weak h.1) (.cons (isLf.weak h.2.1) .nil)) (lput_spec _ _ h.2.2.1 h.2.2.2)))
theorem r225_c : r225.c = 225 := rfl
open Classical in
theorem r225_ask (a0' a1' : AV) : r225.ask [a0', a1'] = if isO a0' ∧ isLf a1' ∧ (dO a0').length ≤ 4270000000 ∧ (dLf a1').Ok then some (Said.fn (octs (lput (dO a0') (dLf a1')))) else none := by unfold r225 Reg.of ask2; exact ite_cl
theorem fput_spec (b : List Int) (f : Bool) (hb : b.length ≤ 4294960000) : Fun seat 223 [octs b, .bool f] (octs (fput b f)) := by
  unfold fput
  cases f with
  | true =>
    refine Fun.of0R [r214f] told223 (by simp [il223]) (by simp [idb_patchA]) (by simp [idb_patchA]) 4 ?_
    simp -implicitDefEqProofs only [il223, List.zipIdx_cons, List.zipIdx_nil, leafA, innerA, nodeA, patchA, Leaf.cells, Inner.cells, Node.cells, r214f_c, r214f_ask, decide_true, decide_false, hb, clamp1, go_sem, Nat.reduceEqDiff, reduceIte, Nat.reduceAdd, Nat.reduceLeDiff, Nat.reduceLT, Nat.reduceSub]
  | false =>
    refine Fun.of0R [r214f] told223 (by simp [il223]) (by simp [idb_patchA]) (by simp [idb_patchA]) 4 ?_
    simp -implicitDefEqProofs only [il223, List.zipIdx_cons, List.zipIdx_nil, leafA, innerA, nodeA, patchA, Leaf.cells, Inner.cells, Node.cells, r214f_c, r214f_ask, decide_true, decide_false, hb, clamp1, go_sem, Nat.reduceEqDiff, reduceIte, Nat.reduceAdd, Nat.reduceLeDiff, Nat.reduceLT, Nat.reduceSub]
noncomputable def r223 : Reg seat := .of told223 (ask2 (fun a0' a1' => isO a0' ∧ isB a1' ∧ (dO a0').length ≤ 4294960000) fun a0' a1' => .fn (octs (fput (dO a0') (dB a1')))) (ask2_ok fun a0' a1' h => SaidOk.fn (Fun.weak (.cons (isO.weak h.1) (.cons (isB.weak h.2.1) .nil)) (fput_spec _ _ h.2.2)))
theorem r223_c : r223.c = 223 := rfl
open Classical in
theorem r223_ask (a0' a1' : AV) : r223.ask [a0', a1'] = if isO a0' ∧ isB a1' ∧ (dO a0').length ≤ 4294960000 then some (Said.fn (octs (fput (dO a0') (dB a1')))) else none := by unfold r223 Reg.of ask2; exact ite_cl
theorem knownN_spec (n : Node) (hn : n.Ok) : Fun seat 206 [nodeA n] (nodeA (knownN n)) := by
  unfold knownN
  by_cases hc : nodeCheck n = 0
  · rw [if_neg (not_not_intro hc)]
    refine Fun.of0R [r124] told206 (by simp [il206]) (by simp [idb_patchA]) (by simp [idb_patchA]) 4 ?_
    simp -implicitDefEqProofs only [il206, List.zipIdx_cons, List.zipIdx_nil, leafA, innerA, nodeA, patchA, Leaf.cells, Inner.cells, Node.cells, r124_c, r124_ask, decide_true, decide_false, hn, hc, go_sem, Nat.reduceEqDiff, reduceIte, Nat.reduceAdd, Nat.reduceLeDiff, Nat.reduceLT, Nat.reduceSub]
  · rw [if_pos hc]
    refine Fun.of0R [r124] told206 (by simp [il206]) (by simp [idb_patchA]) (by simp [idb_patchA]) 4 ?_
    simp -implicitDefEqProofs only [il206, List.zipIdx_cons, List.zipIdx_nil, leafA, innerA, nodeA, patchA, Leaf.cells, Inner.cells, Node.cells, r124_c, r124_ask, decide_true, decide_false, hn, hc, go_sem, Nat.reduceEqDiff, reduceIte, Nat.reduceAdd, Nat.reduceLeDiff, Nat.reduceLT, Nat.reduceSub]
noncomputable def r206 : Reg seat := .of told206 (ask1 (fun a0' => isN a0' ∧ (dN a0').Ok) fun a0' => .fn (nodeA (knownN (dN a0')))) (ask1_ok fun a0' h => SaidOk.fn (Fun.weak (.cons (isN.weak h.1) .nil) (knownN_spec _ h.2)))
theorem r206_c : r206.c = 206 := rfl
open Classical in
theorem r206_ask (a0' : AV) : r206.ask [a0'] = if isN a0' ∧ (dN a0').Ok then some (Said.fn (nodeA (knownN (dN a0')))) else none := by unfold r206 Reg.of ask1; exact ite_cl
theorem knownN_ok {n : Node} (h : n.Ok) : (knownN n).Ok := by
  unfold knownN
  split
  · exact .zero
  · exact h
theorem itemInner_spec (n : Node) (b : List Int) (hb : b.length ≤ 4280000000) (hn : n.Ok) : Fun seat 209 [nodeA n, octs b] (octs (iput b n.inner)) := by
  have hi := hn.inner
  refine Fun.of0R [r183] told209 (by simp [il209]) (by simp [idb_patchA]) (by simp [idb_patchA]) 4 ?_
  simp -implicitDefEqProofs only [il209, List.zipIdx_cons, List.zipIdx_nil, leafA, innerA, nodeA, patchA, Leaf.cells, Inner.cells, Node.cells, r183_c, r183_ask, decide_true, decide_false, hb, hi, go_sem, Nat.reduceEqDiff, reduceIte, Nat.reduceAdd, Nat.reduceLeDiff, Nat.reduceLT, Nat.reduceSub]
noncomputable def r209 : Reg seat := .of told209 (ask2 (fun a0' a1' => isN a0' ∧ isO a1' ∧ (dO a1').length ≤ 4280000000 ∧ (dN a0').Ok) fun a0' a1' => .fn (octs (iput (dO a1') (dN a0').inner))) (ask2_ok fun a0' a1' h => SaidOk.fn (Fun.weak (.cons (isN.weak h.1) (.cons (isO.weak h.2.1) .nil)) (itemInner_spec _ _ h.2.2.1 h.2.2.2)))
theorem r209_c : r209.c = 209 := rfl
open Classical in
theorem r209_ask (a0' a1' : AV) : r209.ask [a0', a1'] = if isN a0' ∧ isO a1' ∧ (dO a1').length ≤ 4280000000 ∧ (dN a0').Ok then some (Said.fn (octs (iput (dO a1') (dN a0').inner))) else none := by unfold r209 Reg.of ask2; exact ite_cl
theorem itemLeaf_spec (n : Node) (b : List Int) (hb : b.length ≤ 4270000000) (hn : n.Ok) : Fun seat 210 [nodeA n, octs b] (octs (lput b n.leaf)) := by
  have hi := hn.leaf
  refine Fun.of0R [r225] told210 (by simp [il210]) (by simp [idb_patchA]) (by simp [idb_patchA]) 4 ?_
  simp -implicitDefEqProofs only [il210, List.zipIdx_cons, List.zipIdx_nil, leafA, innerA, nodeA, patchA, Leaf.cells, Inner.cells, Node.cells, r225_c, r225_ask, decide_true, decide_false, hb, hi, go_sem, Nat.reduceEqDiff, reduceIte, Nat.reduceAdd, Nat.reduceLeDiff, Nat.reduceLT, Nat.reduceSub]
noncomputable def r210 : Reg seat := .of told210 (ask2 (fun a0' a1' => isN a0' ∧ isO a1' ∧ (dO a1').length ≤ 4270000000 ∧ (dN a0').Ok) fun a0' a1' => .fn (octs (lput (dO a1') (dN a0').leaf))) (ask2_ok fun a0' a1' h => SaidOk.fn (Fun.weak (.cons (isN.weak h.1) (.cons (isO.weak h.2.1) .nil)) (itemLeaf_spec _ _ h.2.2.1 h.2.2.2)))
theorem r210_c : r210.c = 210 := rfl
open Classical in
theorem r210_ask (a0' a1' : AV) : r210.ask [a0', a1'] = if isN a0' ∧ isO a1' ∧ (dO a1').length ≤ 4270000000 ∧ (dN a0').Ok then some (Said.fn (octs (lput (dO a1') (dN a0').leaf))) else none := by unfold r210 Reg.of ask2; exact ite_cl
theorem kindInner_spec (n : Node) (b : List Int) (hb : b.length ≤ 4270000000) (hn : n.Ok) : Fun seat 224 [nodeA n, octs b, .iptr [.func (.f 209) [] []] 0] (octs (iput (b ++ beK 1 n.kind) n.inner)) := by
  have b1 : b.length ≤ 4294960000 := by omega
  have b2 : (b ++ beK 1 n.kind).length ≤ 4280000000 := by rw [List.length_append, beK1_len]; omega
  refine Fun.of0R [r214f] told224 (by simp [il224]) (by simp [idb_patchA]) (by simp [idb_patchA]) 4 ?_
  simp -implicitDefEqProofs only [il224, List.zipIdx_cons, List.zipIdx_nil, leafA, innerA, nodeA, patchA, Leaf.cells, Inner.cells, Node.cells, r214f_c, r214f_ask, decide_true, decide_false, hn, go_sem, Nat.reduceEqDiff, reduceIte, Nat.reduceAdd, Nat.reduceLeDiff, Nat.reduceLT, Nat.reduceSub]
  refine WP.drawQ [r214f, r209] [.g 0 0, .g 0 0, .l, .g 0 0, .g 0 0, .l, .l, .l] mixed (by decide) ?_
  simp -implicitDefEqProofs only [leafA, innerA, nodeA, patchA, Leaf.cells, Inner.cells, Node.cells, r214f_c, r214f_ask, r209_c, r209_ask, decide_true, decide_false, b1, b2, hn, clamp1, go_sem, Nat.reduceEqDiff, reduceIte, Nat.reduceAdd, Nat.reduceLeDiff, Nat.reduceLT, Nat.reduceSub]
noncomputable def r224 : Reg seat := .of told224 (ask3 (fun a0' a1' a2' => isN a0' ∧ isO a1' ∧ a2' = .iptr [.func (.f 209) [] []] 0 ∧ (dO a1').length ≤ 4270000000 ∧ (dN a0').Ok) fun a0' a1' a2' => .fn (octs (iput ((dO a1') ++ beK 1 (dN a0').kind) (dN a0').inner))) (ask3_ok fun a0' a1' a2' h => SaidOk.fn (Fun.weak (.cons (isN.weak h.1) (.cons (isO.weak h.2.1) (.cons (Weak.of_eq h.2.2.1) .nil))) (kindInner_spec _ _ h.2.2.2.1 h.2.2.2.2)))
theorem r224_c : r224.c = 224 := rfl
open Classical in
theorem r224_ask (a0' a1' a2' : AV) : r224.ask [a0', a1', a2'] = if isN a0' ∧ isO a1' ∧ a2' = .iptr [.func (.f 209) [] []] 0 ∧ (dO a1').length ≤ 4270000000 ∧ (dN a0').Ok then some (Said.fn (octs (iput ((dO a1') ++ beK 1 (dN a0').kind) (dN a0').inner))) else none := by unfold r224 Reg.of ask3; exact ite_cl
theorem kindLeaf_spec (n : Node) (b : List Int) (hb : b.length ≤ 4260000000) (hn : n.Ok) : Fun seat 224 [nodeA n, octs b, .iptr [.func (.f 210) [] []] 0] (octs (lput (b ++ beK 1 n.kind) n.leaf)) := by
  have b1 : b.length ≤ 4294960000 := by omega
  have b2 : (b ++ beK 1 n.kind).length ≤ 4270000000 := by rw [List.length_append, beK1_len]; omega
  refine Fun.of0R [r214f] told224 (by simp [il224]) (by simp [idb_patchA]) (by simp [idb_patchA]) 4 ?_
  simp -implicitDefEqProofs only [il224, List.zipIdx_cons, List.zipIdx_nil, leafA, innerA, nodeA, patchA, Leaf.cells, Inner.cells, Node.cells, r214f_c, r214f_ask, decide_true, decide_false, hn, go_sem, Nat.reduceEqDiff, reduceIte, Nat.reduceAdd, Nat.reduceLeDiff, Nat.reduceLT, Nat.reduceSub]
  refine WP.drawQ [r214f, r210] [.g 0 0, .g 0 0, .l, .g 0 0, .g 0 0, .l, .l, .l] mixed (by decide) ?_
  simp -implicitDefEqProofs only [leafA, innerA, nodeA, patchA, Leaf.cells, Inner.cells, Node.cells, r214f_c, r214f_ask, r210_c, r210_ask, decide_true, decide_false, b1, b2, hn, clamp1, go_sem, Nat.reduceEqDiff, reduceIte, Nat.reduceAdd, Nat.reduceLeDiff, Nat.reduceLT, Nat.reduceSub]
noncomputable def r224l : Reg seat := .of told224 (ask3 (fun a0' a1' a2' => isN a0' ∧ isO a1' ∧ a2' = .iptr [.func (.f 210) [] []] 0 ∧ (dO a1').length ≤ 4260000000 ∧ (dN a0').Ok) fun a0' a1' a2' => .fn (octs (lput ((dO a1') ++ beK 1 (dN a0').kind) (dN a0').leaf))) (ask3_ok fun a0' a1' a2' h => SaidOk.fn (Fun.weak (.cons (isN.weak h.1) (.cons (isO.weak h.2.1) (.cons (Weak.of_eq h.2.2.1) .nil))) (kindLeaf_spec _ _ h.2.2.2.1 h.2.2.2.2)))
theorem r224l_c : r224l.c = 224 := rfl
open Classical in
theorem r224l_ask (a0' a1' a2' : AV) : r224l.ask [a0', a1', a2'] = if isN a0' ∧ isO a1' ∧ a2' = .iptr [.func (.f 210) [] []] 0 ∧ (dO a1').length ≤ 4260000000 ∧ (dN a0').Ok then some (Said.fn (octs (lput ((dO a1') ++ beK 1 (dN a0').kind) (dN a0').leaf))) else none := by unfold r224l Reg.of ask3; exact ite_cl
theorem kindOfI_spec : Fun seat 208 [.func (.f 209) [] []] (.func (.f 224) [] [.iptr [.func (.f 209) [] []] 0]) := by
  refine Fun.of0W told208 (by simp [il208]) (by simp ) (by simp ) 0 ?_
  simp only [il208, List.zipIdx_cons, List.zipIdx_nil, Nat.zero_add, List.map_cons, List.map_nil]
  refine WP.seqR [] fun K hK => ?_
  simp -implicitDefEqProofs only [leafA, innerA, nodeA, patchA, Leaf.cells, Inner.cells, Node.cells, decide_true, decide_false, go_sem, Nat.reduceEqDiff, reduceIte, Nat.reduceAdd, Nat.reduceLeDiff, Nat.reduceLT, Nat.reduceSub]
  refine hK _ (WP.sealB 1 0 rfl rfl ?_)
  clear hK K
  refine wpc_soundR [] ?_
  simp -implicitDefEqProofs only [leafA, innerA, nodeA, patchA, Leaf.cells, Inner.cells, Node.cells, decide_true, decide_false, go_sem, Nat.reduceEqDiff, reduceIte, Nat.reduceAdd, Nat.reduceLeDiff, Nat.reduceLT, Nat.reduceSub]
  rfl
noncomputable def r208i : Reg seat := .of told208 (ask1 (fun a0' => a0' = .func (.f 209) [] []) fun a0' => .fn (.func (.f 224) [] [.iptr [.func (.f 209) [] []] 0])) (ask1_ok fun a0' h => SaidOk.fn (Fun.weak (.cons (Weak.of_eq h) .nil) (kindOfI_spec)))
theorem r208i_c : r208i.c = 208 := rfl
open Classical in
theorem r208i_ask (a0' : AV) : r208i.ask [a0'] = if a0' = .func (.f 209) [] [] then some (Said.fn (.func (.f 224) [] [.iptr [.func (.f 209) [] []] 0])) else none := by unfold r208i Reg.of ask1; exact ite_cl
theorem kindOfL_spec : Fun seat 208 [.func (.f 210) [] []] (.func (.f 224) [] [.iptr [.func (.f 210) [] []] 0]) := by
  refine Fun.of0W told208 (by simp [il208]) (by simp ) (by simp ) 0 ?_
  simp only [il208, List.zipIdx_cons, List.zipIdx_nil, Nat.zero_add, List.map_cons, List.map_nil]
  refine WP.seqR [] fun K hK => ?_
  simp -implicitDefEqProofs only [leafA, innerA, nodeA, patchA, Leaf.cells, Inner.cells, Node.cells, decide_true, decide_false, go_sem, Nat.reduceEqDiff, reduceIte, Nat.reduceAdd, Nat.reduceLeDiff, Nat.reduceLT, Nat.reduceSub]
  refine hK _ (WP.sealB 1 0 rfl rfl ?_)
  clear hK K
  refine wpc_soundR [] ?_
  simp -implicitDefEqProofs only [leafA, innerA, nodeA, patchA, Leaf.cells, Inner.cells, Node.cells, decide_true, decide_false, go_sem, Nat.reduceEqDiff, reduceIte, Nat.reduceAdd, Nat.reduceLeDiff, Nat.reduceLT, Nat.reduceSub]
  rfl

noncomputable def r208l : Reg seat := .of told208 (ask1 (fun a0' => a0' = .func (.f 210) [] []) fun a0' => .fn (.func (.f 224) [] [.iptr [.func (.f 210) [] []] 0])) (ask1_ok fun a0' h => SaidOk.fn (Fun.weak (.cons (Weak.of_eq h) .nil) (kindOfL_spec)))
theorem r208l_c : r208l.c = 208 := rfl
open Classical in
theorem r208l_ask (a0' : AV) : r208l.ask [a0'] = if a0' = .func (.f 210) [] [] then some (Said.fn (.func (.f 224) [] [.iptr [.func (.f 210) [] []] 0])) else none := by unfold r208l Reg.of ask1; exact ite_cl
theorem iput_len (b : List Int) (n : Inner) : (iput b n).length ≤ b.length + 4000000 := by
  unfold iput
  split
  · omega
  · have a1 := pbytes_len b n.enc
    have a2 := pbytes_len (pbytes b n.enc) n.hash
    have a3 := pbytes_len (pbytes (pbytes b n.enc) n.hash) (n.unmerged.flatMap be4)
    rw [pnums]; omega
theorem lput_len (b : List Int) (l : Leaf) : (lput b l).length ≤ b.length + 4000000 := by
  unfold lput
  have a1 := pbytes_len b l.enc
  have a2 := pbytes_len (pbytes b l.enc) l.cred
  have a3 := pbytes_len (pbytes (pbytes b l.enc) l.cred ++ beK 1 l.source) l.parent
  rw [List.length_append, beK1_len] at a3
  split
  · omega
  · split
    · omega
    · rw [List.length_append, beK1_len]; omega
def kputI (k : Int) (n : Node) (b : List Int) : List Int := if n.kind = k then iput (fput b true ++ beK 1 n.kind) n.inner else fput b false
def kputL (k : Int) (n : Node) (b : List Int) : List Int := if n.kind = k then lput (fput b true ++ beK 1 n.kind) n.leaf else fput b false
theorem laidI_spec (n : Node) (b : List Int) (k : Int) (hb : b.length ≤ 4200000000) (hn : n.Ok) : Fun seat 207 [nodeA n, octs b, .int .i64 k, .func (.f 209) [] []] (octs (laidI k n b)) := by
  have b1 : b.length ≤ 4294960000 := by omega
  have b2 : (fput b true).length ≤ 4280000000 := by rw [fput_len]; omega
  unfold laidI
  by_cases hk : n.kind = k
  · subst hk
    rw [if_pos rfl]
    refine Fun.of0R [r223, r209] told207 (by simp [il207]) (by simp [idb_patchA]) (by simp [idb_patchA]) 4 ?_
    simp -implicitDefEqProofs only [il207, List.zipIdx_cons, List.zipIdx_nil, leafA, innerA, nodeA, patchA, Leaf.cells, Inner.cells, Node.cells, r223_c, r223_ask, r209_c, r209_ask, decide_true, decide_false, hn, b1, b2, go_sem, Nat.reduceEqDiff, reduceIte, Nat.reduceAdd, Nat.reduceLeDiff, Nat.reduceLT, Nat.reduceSub]
  · rw [if_neg hk]
    refine Fun.of0R [r223, r209] told207 (by simp [il207]) (by simp [idb_patchA]) (by simp [idb_patchA]) 4 ?_
    simp -implicitDefEqProofs only [il207, List.zipIdx_cons, List.zipIdx_nil, leafA, innerA, nodeA, patchA, Leaf.cells, Inner.cells, Node.cells, r223_c, r223_ask, r209_c, r209_ask, decide_true, decide_false, hn, hk, b1, b2, go_sem, Nat.reduceEqDiff, reduceIte, Nat.reduceAdd, Nat.reduceLeDiff, Nat.reduceLT, Nat.reduceSub]
noncomputable def r207i : Reg seat := .of told207 (ask4 (fun a0' a1' a2' a3' => isN a0' ∧ isO a1' ∧ isI a2' ∧ a3' = .func (.f 209) [] [] ∧ (dO a1').length ≤ 4200000000 ∧ (dN a0').Ok) fun a0' a1' a2' a3' => .fn (octs (laidI (dI a2') (dN a0') (dO a1')))) (ask4_ok fun a0' a1' a2' a3' h => SaidOk.fn (Fun.weak (.cons (isN.weak h.1) (.cons (isO.weak h.2.1) (.cons (isI.weak h.2.2.1) (.cons (Weak.of_eq h.2.2.2.1) .nil)))) (laidI_spec _ _ _ h.2.2.2.2.1 h.2.2.2.2.2)))
theorem r207i_c : r207i.c = 207 := rfl
open Classical in
theorem r207i_ask (a0' a1' a2' a3' : AV) : r207i.ask [a0', a1', a2', a3'] = if isN a0' ∧ isO a1' ∧ isI a2' ∧ a3' = .func (.f 209) [] [] ∧ (dO a1').length ≤ 4200000000 ∧ (dN a0').Ok then some (Said.fn (octs (laidI (dI a2') (dN a0') (dO a1')))) else none := by unfold r207i Reg.of ask4; exact ite_cl
theorem laidL_spec (n : Node) (b : List Int) (k : Int) (hb : b.length ≤ 4200000000) (hn : n.Ok) : Fun seat 207 [nodeA n, octs b, .int .i64 k, .func (.f 210) [] []] (octs (laidL k n b)) := by
  have b1 : b.length ≤ 4294960000 := by omega
  have b2 : (fput b true).length ≤ 4270000000 := by rw [fput_len]; omega
  unfold laidL
  by_cases hk : n.kind = k
  · subst hk
    rw [if_pos rfl]
    refine Fun.of0R [r223, r210] told207 (by simp [il207]) (by simp [idb_patchA]) (by simp [idb_patchA]) 4 ?_
    simp -implicitDefEqProofs only [il207, List.zipIdx_cons, List.zipIdx_nil, leafA, innerA, nodeA, patchA, Leaf.cells, Inner.cells, Node.cells, r223_c, r223_ask, r210_c, r210_ask, decide_true, decide_false, hn, b1, b2, go_sem, Nat.reduceEqDiff, reduceIte, Nat.reduceAdd, Nat.reduceLeDiff, Nat.reduceLT, Nat.reduceSub]
  · rw [if_neg hk]
    refine Fun.of0R [r223, r210] told207 (by simp [il207]) (by simp [idb_patchA]) (by simp [idb_patchA]) 4 ?_
    simp -implicitDefEqProofs only [il207, List.zipIdx_cons, List.zipIdx_nil, leafA, innerA, nodeA, patchA, Leaf.cells, Inner.cells, Node.cells, r223_c, r223_ask, r210_c, r210_ask, decide_true, decide_false, hn, hk, b1, b2, go_sem, Nat.reduceEqDiff, reduceIte, Nat.reduceAdd, Nat.reduceLeDiff, Nat.reduceLT, Nat.reduceSub]
noncomputable def r207l : Reg seat := .of told207 (ask4 (fun a0' a1' a2' a3' => isN a0' ∧ isO a1' ∧ isI a2' ∧ a3' = .func (.f 210) [] [] ∧ (dO a1').length ≤ 4200000000 ∧ (dN a0').Ok) fun a0' a1' a2' a3' => .fn (octs (laidL (dI a2') (dN a0') (dO a1')))) (ask4_ok fun a0' a1' a2' a3' h => SaidOk.fn (Fun.weak (.cons (isN.weak h.1) (.cons (isO.weak h.2.1) (.cons (isI.weak h.2.2.1) (.cons (Weak.of_eq h.2.2.2.1) .nil)))) (laidL_spec _ _ _ h.2.2.2.2.1 h.2.2.2.2.2)))
theorem r207l_c : r207l.c = 207 := rfl
open Classical in
theorem r207l_ask (a0' a1' a2' a3' : AV) : r207l.ask [a0', a1', a2', a3'] = if isN a0' ∧ isO a1' ∧ isI a2' ∧ a3' = .func (.f 210) [] [] ∧ (dO a1').length ≤ 4200000000 ∧ (dN a0').Ok then some (Said.fn (octs (laidL (dI a2') (dN a0') (dO a1')))) else none := by unfold r207l Reg.of ask4; exact ite_cl
theorem kputI_spec (n : Node) (b : List Int) (k : Int) (hb : b.length ≤ 4200000000) (hn : n.Ok) : Fun seat 207 [nodeA n, octs b, .int .i64 k, .func (.f 224) [] [.iptr [.func (.f 209) [] []] 0]] (octs (kputI k n b)) := by
  have b1 : b.length ≤ 4294960000 := by omega
  have b2 : (fput b true).length ≤ 4270000000 := by rw [fput_len]; omega
  unfold kputI
  by_cases hk : n.kind = k
  · subst hk
    rw [if_pos rfl]
    refine Fun.of0R [r223, r224] told207 (by simp [il207]) (by simp [idb_patchA]) (by simp [idb_patchA]) 4 ?_
    simp -implicitDefEqProofs only [il207, List.zipIdx_cons, List.zipIdx_nil, leafA, innerA, nodeA, patchA, Leaf.cells, Inner.cells, Node.cells, r223_c, r223_ask, r224_c, r224_ask, decide_true, decide_false, hn, b1, b2, go_sem, Nat.reduceEqDiff, reduceIte, Nat.reduceAdd, Nat.reduceLeDiff, Nat.reduceLT, Nat.reduceSub]
  · rw [if_neg hk]
    refine Fun.of0R [r223, r224] told207 (by simp [il207]) (by simp [idb_patchA]) (by simp [idb_patchA]) 4 ?_
    simp -implicitDefEqProofs only [il207, List.zipIdx_cons, List.zipIdx_nil, leafA, innerA, nodeA, patchA, Leaf.cells, Inner.cells, Node.cells, r223_c, r223_ask, r224_c, r224_ask, decide_true, decide_false, hn, hk, b1, b2, go_sem, Nat.reduceEqDiff, reduceIte, Nat.reduceAdd, Nat.reduceLeDiff, Nat.reduceLT, Nat.reduceSub]
noncomputable def r207ki : Reg seat := .of told207 (ask4 (fun a0' a1' a2' a3' => isN a0' ∧ isO a1' ∧ isI a2' ∧ a3' = .func (.f 224) [] [.iptr [.func (.f 209) [] []] 0] ∧ (dO a1').length ≤ 4200000000 ∧ (dN a0').Ok) fun a0' a1' a2' a3' => .fn (octs (kputI (dI a2') (dN a0') (dO a1')))) (ask4_ok fun a0' a1' a2' a3' h => SaidOk.fn (Fun.weak (.cons (isN.weak h.1) (.cons (isO.weak h.2.1) (.cons (isI.weak h.2.2.1) (.cons (Weak.of_eq h.2.2.2.1) .nil)))) (kputI_spec _ _ _ h.2.2.2.2.1 h.2.2.2.2.2)))
theorem r207ki_c : r207ki.c = 207 := rfl
open Classical in
theorem r207ki_ask (a0' a1' a2' a3' : AV) : r207ki.ask [a0', a1', a2', a3'] = if isN a0' ∧ isO a1' ∧ isI a2' ∧ a3' = .func (.f 224) [] [.iptr [.func (.f 209) [] []] 0] ∧ (dO a1').length ≤ 4200000000 ∧ (dN a0').Ok then some (Said.fn (octs (kputI (dI a2') (dN a0') (dO a1')))) else none := by unfold r207ki Reg.of ask4; exact ite_cl
theorem kputL_spec (n : Node) (b : List Int) (k : Int) (hb : b.length ≤ 4200000000) (hn : n.Ok) : Fun seat 207 [nodeA n, octs b, .int .i64 k, .func (.f 224) [] [.iptr [.func (.f 210) [] []] 0]] (octs (kputL k n b)) := by
  have b1 : b.length ≤ 4294960000 := by omega
  have b2 : (fput b true).length ≤ 4260000000 := by rw [fput_len]; omega
  unfold kputL
  by_cases hk : n.kind = k
  · subst hk
    rw [if_pos rfl]
    refine Fun.of0R [r223, r224l] told207 (by simp [il207]) (by simp [idb_patchA]) (by simp [idb_patchA]) 4 ?_
    simp -implicitDefEqProofs only [il207, List.zipIdx_cons, List.zipIdx_nil, leafA, innerA, nodeA, patchA, Leaf.cells, Inner.cells, Node.cells, r223_c, r223_ask, r224l_c, r224l_ask, decide_true, decide_false, hn, b1, b2, go_sem, Nat.reduceEqDiff, reduceIte, Nat.reduceAdd, Nat.reduceLeDiff, Nat.reduceLT, Nat.reduceSub]
  · rw [if_neg hk]
    refine Fun.of0R [r223, r224l] told207 (by simp [il207]) (by simp [idb_patchA]) (by simp [idb_patchA]) 4 ?_
    simp -implicitDefEqProofs only [il207, List.zipIdx_cons, List.zipIdx_nil, leafA, innerA, nodeA, patchA, Leaf.cells, Inner.cells, Node.cells, r223_c, r223_ask, r224l_c, r224l_ask, decide_true, decide_false, hn, hk, b1, b2, go_sem, Nat.reduceEqDiff, reduceIte, Nat.reduceAdd, Nat.reduceLeDiff, Nat.reduceLT, Nat.reduceSub]
noncomputable def r207kl : Reg seat := .of told207 (ask4 (fun a0' a1' a2' a3' => isN a0' ∧ isO a1' ∧ isI a2' ∧ a3' = .func (.f 224) [] [.iptr [.func (.f 210) [] []] 0] ∧ (dO a1').length ≤ 4200000000 ∧ (dN a0').Ok) fun a0' a1' a2' a3' => .fn (octs (kputL (dI a2') (dN a0') (dO a1')))) (ask4_ok fun a0' a1' a2' a3' h => SaidOk.fn (Fun.weak (.cons (isN.weak h.1) (.cons (isO.weak h.2.1) (.cons (isI.weak h.2.2.1) (.cons (Weak.of_eq h.2.2.2.1) .nil)))) (kputL_spec _ _ _ h.2.2.2.2.1 h.2.2.2.2.2)))
theorem r207kl_c : r207kl.c = 207 := rfl
open Classical in
theorem r207kl_ask (a0' a1' a2' a3' : AV) : r207kl.ask [a0', a1', a2', a3'] = if isN a0' ∧ isO a1' ∧ isI a2' ∧ a3' = .func (.f 224) [] [.iptr [.func (.f 210) [] []] 0] ∧ (dO a1').length ≤ 4200000000 ∧ (dN a0').Ok then some (Said.fn (octs (kputL (dI a2') (dN a0') (dO a1')))) else none := by unfold r207kl Reg.of ask4; exact ite_cl

theorem nput_eq (b : List Int) (n : Node) : nput b n = if (knownN n).kind = 2 then kputI 2 (knownN n) b else kputL 1 (knownN n) b := by
  unfold nput kputI kputL
  by_cases h : (knownN n).kind = 2
  · rw [if_pos h, if_pos h, if_pos h, h]
  · rw [if_neg h, if_neg h]
    by_cases h1 : (knownN n).kind = 1
    · rw [if_pos h1, if_pos h1, h1]
    · rw [if_neg h1, if_neg h1]
theorem nput_spec (b : List Int) (n : Node) (hb : b.length ≤ 4200000000) (hn : n.Ok) : Fun seat 188 [octs b, nodeA n] (octs (nput b n)) := by
  have hk := knownN_ok hn
  rw [nput_eq]
  by_cases h : (knownN n).kind = 2
  · rw [if_pos h]
    have h' : ((knownN n).kind = 2) = True := eq_true h
    refine Fun.of0R [r206] told188 (by simp [il188]) (by simp [idb_patchA]) (by simp [idb_patchA]) 4 ?_
    simp -implicitDefEqProofs only [il188, List.zipIdx_cons, List.zipIdx_nil, leafA, innerA, nodeA, patchA, Leaf.cells, Inner.cells, Node.cells, r206_c, r206_ask, decide_true, decide_false, hn, h', go_sem, Nat.reduceEqDiff, reduceIte, Nat.reduceAdd, Nat.reduceLeDiff, Nat.reduceLT, Nat.reduceSub]
    refine WP.drawQ [r208i, r207ki] [.g 0 0, .l, .l, .l, .l] mixed (by decide) ?_
    simp -implicitDefEqProofs only [leafA, innerA, nodeA, patchA, Leaf.cells, Inner.cells, Node.cells, r208i_c, r208i_ask, r207ki_c, r207ki_ask, decide_true, decide_false, hb, hk, go_sem, Nat.reduceEqDiff, reduceIte, Nat.reduceAdd, Nat.reduceLeDiff, Nat.reduceLT, Nat.reduceSub]
  · rw [if_neg h]
    refine Fun.of0R [r206] told188 (by simp [il188]) (by simp [idb_patchA]) (by simp [idb_patchA]) 4 ?_
    simp -implicitDefEqProofs only [il188, List.zipIdx_cons, List.zipIdx_nil, leafA, innerA, nodeA, patchA, Leaf.cells, Inner.cells, Node.cells, r206_c, r206_ask, decide_true, decide_false, hn, h, go_sem, Nat.reduceEqDiff, reduceIte, Nat.reduceAdd, Nat.reduceLeDiff, Nat.reduceLT, Nat.reduceSub]
    refine WP.drawQ [r208l, r207kl] [.g 0 0, .l, .l, .l, .l] mixed (by decide) ?_
    simp -implicitDefEqProofs only [leafA, innerA, nodeA, patchA, Leaf.cells, Inner.cells, Node.cells, r208l_c, r208l_ask, r207kl_c, r207kl_ask, decide_true, decide_false, hb, hk, go_sem, Nat.reduceEqDiff, reduceIte, Nat.reduceAdd, Nat.reduceLeDiff, Nat.reduceLT, Nat.reduceSub]
noncomputable def r188 : Reg seat := .of told188 (ask2 (fun a0' a1' => isO a0' ∧ isN a1' ∧ (dO a0').length ≤ 4200000000 ∧ (dN a1').Ok) fun a0' a1' => .fn (octs (nput (dO a0') (dN a1')))) (ask2_ok fun a0' a1' h => SaidOk.fn (Fun.weak (.cons (isO.weak h.1) (.cons (isN.weak h.2.1) .nil)) (nput_spec _ _ h.2.2.1 h.2.2.2)))
theorem r188_c : r188.c = 188 := rfl
open Classical in
theorem r188_ask (a0' a1' : AV) : r188.ask [a0', a1'] = if isO a0' ∧ isN a1' ∧ (dO a0').length ≤ 4200000000 ∧ (dN a1').Ok then some (Said.fn (octs (nput (dO a0') (dN a1')))) else none := by unfold r188 Reg.of ask2; exact ite_cl

/-! What is summed up -/
def ofLeaf (i : Int) (n : Node) : List Int := laidL 1 (knownN n) (beK 1 1 ++ beK 4 i)
def ofInner (n : Node) (l r : List Int) : List Int := pbytes (pbytes (laidI 2 (knownN n) (beK 1 2)) l) r
def ofParent (n : Inner) (s : List Int) : List Int := pbytes (pbytes (pbytes [] n.enc) n.hash) s
theorem ofLeaf_spec (i : Int) (n : Node) (hn : n.Ok) : Fun seat 190 [.int .i64 i, nodeA n] (octs (ofLeaf i n)) := by
  have hk := knownN_ok hn
  have l0 : ([] : List Int).length ≤ 4294960000 := by decide
  have l1 : (beK 1 1).length ≤ 4294960000 := by rw [beK1_len]; decide
  have l2 : (beK 1 1 ++ beK 4 i).length ≤ 4200000000 := by rw [List.length_append, beK1_len, beK_len]; decide
  unfold ofLeaf
  refine Fun.of0R [r206, r214f, r207l] told190 (by simp [il190]) (by simp [idb_patchA]) (by simp [idb_patchA]) 4 ?_
  simp -implicitDefEqProofs only [il190, List.zipIdx_cons, List.zipIdx_nil, leafA, innerA, nodeA, patchA, Leaf.cells, Inner.cells, Node.cells, r206_c, r206_ask, r214f_c, r214f_ask, r207l_c, r207l_ask, decide_true, decide_false, hn, hk, l0, l1, l2, clamp1, clamp4, List.nil_append, go_sem, Nat.reduceEqDiff, reduceIte, Nat.reduceAdd, Nat.reduceLeDiff, Nat.reduceLT, Nat.reduceSub]
noncomputable def r190 : Reg seat := .of told190 (ask2 (fun a0' a1' => isI a0' ∧ isN a1' ∧ (dN a1').Ok) fun a0' a1' => .fn (octs (ofLeaf (dI a0') (dN a1')))) (ask2_ok fun a0' a1' h => SaidOk.fn (Fun.weak (.cons (isI.weak h.1) (.cons (isN.weak h.2.1) .nil)) (ofLeaf_spec _ _ h.2.2)))
theorem r190_c : r190.c = 190 := rfl
open Classical in
theorem r190_ask (a0' a1' : AV) : r190.ask [a0', a1'] = if isI a0' ∧ isN a1' ∧ (dN a1').Ok then some (Said.fn (octs (ofLeaf (dI a0') (dN a1')))) else none := by unfold r190 Reg.of ask2; exact ite_cl
theorem ofInner_spec (n : Node) (l r : List Int) (hn : n.Ok) : Fun seat 191 [nodeA n, octs l, octs r] (octs (ofInner n l r)) := by
  have hk := knownN_ok hn
  have l0 : ([] : List Int).length ≤ 4294960000 := by decide
  have l1 : (beK 1 2).length ≤ 4200000000 := by rw [beK1_len]; decide
  have a1 : (laidI 2 (knownN n) (beK 1 2)).length ≤ 4290000000 := by
    unfold laidI
    split
    · have := iput_len (fput (beK 1 2) true) (knownN n).inner
      rw [fput_len, beK1_len] at this; omega
    · rw [fput_len, beK1_len]; decide
  have a3 : (laidI 2 (knownN n) (beK 1 2)).length ≤ 4280000000 := by
    unfold laidI
    split
    · have := iput_len (fput (beK 1 2) true) (knownN n).inner
      rw [fput_len, beK1_len] at this; omega
    · rw [fput_len, beK1_len]; decide
  have a2 : (pbytes (laidI 2 (knownN n) (beK 1 2)) l).length ≤ 4290000000 := by
    have := pbytes_len (laidI 2 (knownN n) (beK 1 2)) l
    omega
  unfold ofInner
  refine Fun.of0R [r206, r214f, r207i, r198f] told191 (by simp [il191]) (by simp [idb_patchA]) (by simp [idb_patchA]) 4 ?_
  simp -implicitDefEqProofs only [il191, List.zipIdx_cons, List.zipIdx_nil, leafA, innerA, nodeA, patchA, Leaf.cells, Inner.cells, Node.cells, r206_c, r206_ask, r214f_c, r214f_ask, r207i_c, r207i_ask, r198f_c, r198f_ask, decide_true, decide_false, hn, hk, l0, l1, a1, a2, clamp1, List.nil_append, go_sem, Nat.reduceEqDiff, reduceIte, Nat.reduceAdd, Nat.reduceLeDiff, Nat.reduceLT, Nat.reduceSub]
noncomputable def r191 : Reg seat := .of told191 (ask3 (fun a0' a1' a2' => isN a0' ∧ isO a1' ∧ isO a2' ∧ (dN a0').Ok) fun a0' a1' a2' => .fn (octs (ofInner (dN a0') (dO a1') (dO a2')))) (ask3_ok fun a0' a1' a2' h => SaidOk.fn (Fun.weak (.cons (isN.weak h.1) (.cons (isO.weak h.2.1) (.cons (isO.weak h.2.2.1) .nil))) (ofInner_spec _ _ _ h.2.2.2)))
theorem r191_c : r191.c = 191 := rfl
open Classical in
theorem r191_ask (a0' a1' a2' : AV) : r191.ask [a0', a1', a2'] = if isN a0' ∧ isO a1' ∧ isO a2' ∧ (dN a0').Ok then some (Said.fn (octs (ofInner (dN a0') (dO a1') (dO a2')))) else none := by unfold r191 Reg.of ask3; exact ite_cl
theorem ofParent_spec (n : Inner) (s : List Int) (hn : n.Ok) : Fun seat 205 [innerA n, octs s] (octs (ofParent n s)) := by
  have l0 : ([] : List Int).length ≤ 4290000000 := by decide
  have p1 := pbytes_len [] n.enc
  have p2 := pbytes_len (pbytes [] n.enc) n.hash
  simp only [List.length_nil] at p1
  have l1 : (pbytes [] n.enc).length ≤ 4290000000 := by omega
  have l2 : (pbytes (pbytes [] n.enc) n.hash).length ≤ 4290000000 := by omega
  unfold ofParent
  refine Fun.of0R [r198f] told205 (by simp [il205]) (by simp [idb_patchA]) (by simp [idb_patchA]) 4 ?_
  simp -implicitDefEqProofs only [il205, List.zipIdx_cons, List.zipIdx_nil, leafA, innerA, nodeA, patchA, Leaf.cells, Inner.cells, Node.cells, r198f_c, r198f_ask, decide_true, decide_false, go_sem, Nat.reduceEqDiff, reduceIte, Nat.reduceAdd, Nat.reduceLeDiff, Nat.reduceLT, Nat.reduceSub]
  refine WP.drawQ [r198f] [.g 0 0, .g 0 0, .l, .g 0 0, .g 0 0, .l, .l, .l, .l] mixed (by decide) ?_
  simp -implicitDefEqProofs only [leafA, innerA, nodeA, patchA, Leaf.cells, Inner.cells, Node.cells, r198f_c, r198f_ask, decide_true, decide_false, l0, l1, l2, go_sem, Nat.reduceEqDiff, reduceIte, Nat.reduceAdd, Nat.reduceLeDiff, Nat.reduceLT, Nat.reduceSub]
noncomputable def r205 : Reg seat := .of told205 (ask2 (fun a0' a1' => isIn a0' ∧ isO a1' ∧ (dIn a0').Ok) fun a0' a1' => .fn (octs (ofParent (dIn a0') (dO a1')))) (ask2_ok fun a0' a1' h => SaidOk.fn (Fun.weak (.cons (isIn.weak h.1) (.cons (isO.weak h.2.1) .nil)) (ofParent_spec _ _ h.2.2)))
theorem r205_c : r205.c = 205 := rfl
open Classical in
theorem r205_ask (a0' a1' : AV) : r205.ask [a0', a1'] = if isIn a0' ∧ isO a1' ∧ (dIn a0').Ok then some (Said.fn (octs (ofParent (dIn a0') (dO a1')))) else none := by unfold r205 Reg.of ask2; exact ite_cl

/-- Whether something is there, and the rest. -/
def gflag (b : List Int) : Bool × List Int × Int := if (gnum 1 b).2.2 ≠ 0 then (false, [], (gnum 1 b).2.2) else if (gnum 1 b).1 > 1 then (false, [], 2) else (decide ((gnum 1 b).1 = 1), (gnum 1 b).2.1, 0)
theorem gflag_spec (b : List Int) (hb : Oct b) : Fun seat 211 [octs b] (.tup [.bool (gflag b).1, octs (gflag b).2.1, .int .i64 (gflag b).2.2]) := by
  unfold gflag
  rcases hg : gnum 1 b with ⟨n, r, e⟩
  simp only
  by_cases he : e = 0
  rotate_left
  · rw [if_pos he]
    refine Fun.of0R [r212] told211 (by simp [il211]) (by simp [idb_patchA]) (by simp [idb_patchA]) 4 ?_
    simp -implicitDefEqProofs only [il211, List.zipIdx_cons, List.zipIdx_nil, leafA, innerA, nodeA, patchA, Leaf.cells, Inner.cells, Node.cells, r212_c, r212_ask, decide_true, decide_false, hb, clamp1, hg, he, go_sem, Nat.reduceEqDiff, reduceIte, Nat.reduceAdd, Nat.reduceLeDiff, Nat.reduceLT, Nat.reduceSub]
  rw [if_neg (not_not_intro he)]
  by_cases hn : n > 1
  · rw [if_pos hn]
    refine Fun.of0R [r212] told211 (by simp [il211]) (by simp [idb_patchA]) (by simp [idb_patchA]) 4 ?_
    simp -implicitDefEqProofs only [il211, List.zipIdx_cons, List.zipIdx_nil, leafA, innerA, nodeA, patchA, Leaf.cells, Inner.cells, Node.cells, r212_c, r212_ask, decide_true, decide_false, hb, clamp1, hg, he, hn, go_sem, Nat.reduceEqDiff, reduceIte, Nat.reduceAdd, Nat.reduceLeDiff, Nat.reduceLT, Nat.reduceSub]
  · rw [if_neg hn]
    refine Fun.of0R [r212] told211 (by simp [il211]) (by simp [idb_patchA]) (by simp [idb_patchA]) 4 ?_
    simp -implicitDefEqProofs only [il211, List.zipIdx_cons, List.zipIdx_nil, leafA, innerA, nodeA, patchA, Leaf.cells, Inner.cells, Node.cells, r212_c, r212_ask, decide_true, decide_false, hb, clamp1, hg, he, hn, go_sem, Nat.reduceEqDiff, reduceIte, Nat.reduceAdd, Nat.reduceLeDiff, Nat.reduceLT, Nat.reduceSub]
noncomputable def r211 : Reg seat := .of told211 (ask1 (fun a0' => isO a0' ∧ Oct (dO a0')) fun a0' => .fn (.tup [.bool (gflag (dO a0')).1, octs (gflag (dO a0')).2.1, .int .i64 (gflag (dO a0')).2.2])) (ask1_ok fun a0' h => SaidOk.fn (Fun.weak (.cons (isO.weak h.1) .nil) (gflag_spec _ h.2)))
theorem r211_c : r211.c = 211 := rfl
open Classical in
theorem r211_ask (a0' : AV) : r211.ask [a0'] = if isO a0' ∧ Oct (dO a0') then some (Said.fn (.tup [.bool (gflag (dO a0')).1, octs (gflag (dO a0')).2.1, .int .i64 (gflag (dO a0')).2.2])) else none := by unfold r211 Reg.of ask1; exact ite_cl
end Go.Proofs.YtlehcigcaihoaaaGreat.Al
