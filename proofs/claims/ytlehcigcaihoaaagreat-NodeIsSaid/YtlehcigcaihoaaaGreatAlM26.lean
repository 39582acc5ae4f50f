/-
  SPECS: the document's nodes as octets, and what is summed up.
-/
import Derived.Test.YtlehcigcaihoaaaGreatAlM25
set_option linter.unusedSimpArgs false
set_option linter.unusedVariables false
namespace Go.Proofs.YtlehcigcaihoaaaGreat.Al
open Go
attribute [local go_sem] W_mv W_pick W_alloc W_box W_build W_bslice W_load W_store W_nilck W_bin W_isnil W_un W_convI W_convS W_mkiface W_mkfunc W_mkslice W_slice W_faddr W_field W_iaddr W_iaddrA W_idxA W_extract W_len W_lenS W_lenA W_min W_max W_append W_appendZ W_copy W_clear W_tassert W_invoke thenQ_normal thenQ_exit thenQ_goto thenQ_ret blockQ_normal blockQ_ret blockQ_goto blockQ_exit wpc_skip wpc_region wpc_draw wpc_seq wpc_cond wpc_block wpc_exit wpc_goto wpc_label wpc_ret wpc_loop wpc_range wpc_scope condW_true condW_false condW_dec condW_any W_nil W_call resW_some evalOp Opd.ev updo_envL updo_none setL_cons setL_nil envL_cons Option.map_some Option.bind_some evBin evInt List.map_cons List.map_nil Option.pure_def Option.bind_eq_bind W_grd' grdW_tt grdW_ff grdW_tf grdW_ft grdW_tup grdW_dt grdW_df lgrdW_tt lgrdW_ff lgrdW_tf lgrdW_ft lgrdW_tup lgrdW_dt lgrdW_df L_mv L_pick L_alloc L_box L_build L_bslice L_load L_store L_nilck L_bin L_isnil L_un L_convI L_convS L_mkiface L_mkfunc L_mkslice L_slice L_faddr L_field L_iaddr L_iaddrA L_idxA L_extract L_len L_lenS L_lenA L_min L_max L_append L_appendZ L_copy L_clear L_tassert L_nil L_call L_grd lresW_some upd_envL evUn beq_dec bne_dec leaves_ret1 leaves_end1 leaves_ret0 leaves_end0 leaves_ret2 leaves_ret3 rowLen_ints load_iptr0 not_dec heap_get0 heap_get1 heap_set0 heap_set1 heap_len1 heap_len2 heap_app heap_app2 bslice1_int seen_ints seen_one0 seen_one1 seen_one2 rowLen_own0 bslice0_int rowLen_own1 Nat.sub_zero Bool.not_true Bool.not_false List.length_nil List.length_cons List.nil_append List.cons_append Nat.zero_add load_iptrA canon_ptrI canon_bool canon_tup canon_agg canon_leafA canon_innerA canon_nodeA canon_ints' rowLen_ints0 seen_ints0 canon_ints0 rowLen_ints1 seen_ints1 canon_ints1 rowLen_ints2 seen_ints2 canon_ints2 rowLen_ints3 seen_ints3 canon_ints3 rowLen_octs seen_octs canon_octs' szOk_octs rowLen_octs0 seen_octs0 canon_octs0 rowLen_octs1 seen_octs1 canon_octs1 rowLen_octs2 seen_octs2 canon_octs2 rowLen_octs3 seen_octs3 canon_octs3 rowLen_intss seen_intss canon_intss' szOk_intss rowLen_intss0 seen_intss0 canon_intss0 rowLen_intss1 seen_intss1 canon_intss1 rowLen_intss2 seen_intss2 canon_intss2 rowLen_intss3 seen_intss3 canon_intss3 rowLen_octss seen_octss canon_octss' szOk_octss rowLen_octss0 seen_octss0 canon_octss0 rowLen_octss1 seen_octss1 canon_octss1 rowLen_octss2 seen_octss2 canon_octss2 rowLen_octss3 seen_octss3 canon_octss3 rowLen_nodes seen_nodes canon_nodes' szOk_nodes rowLen_nodes0 seen_nodes0 canon_nodes0 rowLen_nodes1 seen_nodes1 canon_nodes1 rowLen_nodes2 seen_nodes2 canon_nodes2 rowLen_nodes3 seen_nodes3 canon_nodes3 seen_list cells_int oneIn_int cells_bool oneIn_bool cells_str oneIn_str cells_list oneIn_list cells_func oneIn_func cells_nilfunc oneIn_nilfunc cells_iptr oneIn_iptr cells_iface oneIn_iface cells_nilIface oneIn_nilIface cells_own cells_ptr cells_anybool oneIn_anybool cells_agg oneIn_own0 oneIn_ptr0 seenL0 seenM0 oneIn_own1 oneIn_ptr1 seenL1 seenM1 oneIn_own2 oneIn_ptr2 seenL2 seenM2 oneIn_own3 oneIn_ptr3 seenL3 seenM3 oneIn_own4 oneIn_ptr4 seenL4 seenM4 oneIn_own5 oneIn_ptr5 seenL5 seenM5 cells_ints oneIn_ints cells_octs oneIn_octs cells_intss oneIn_intss cells_octss oneIn_octss cells_nodes oneIn_nodes ldB0 ldA0 adB0 stB0 ldB1 ldA1 adB1 stB1 ldB2 ldA2 adB2 stB2 ldB3 ldA3 adB3 stB3 ldB4 ldA4 adB4 stB4 ldB5 ldA5 adB5 stB5 List.getElem?_cons_zero List.getElem?_cons_succ beq_self_eq_true splice List.take_zero List.take_succ_cons List.drop_zero List.drop_succ_cons List.append_nil List.set_cons_zero List.set_cons_succ List.all_cons List.all_nil Bool.and_self and_self and_true true_and Nat.lt_irrefl Nat.zero_lt_one Nat.le_refl fillA evNil notA Bool.false_eq_true evMin_int evMax_int Option.map_none freezeP_all_nil freezeP_all_cons frzE_box frzE_arr frzE_dead foldA List.foldlM_cons List.foldlM_nil callW_f lcallW_f ansW_fn ansW_own lansW_fn lansW_own ansW_none lansW_none tab_cons tab_nil dI_int dB_bool dO_octs dO_ints dO_list dO_nil dOs_octss dOs_intss dOs_nil dLf_leafA dIn_innerA dN_nodeA dLf_agg dIn_agg dN_agg dNs_nodes dNs_list dNs_nil isI_int isU_int isB_bool isO_octs isO_nil isO_list isS_ints isS_nil isS_list isOs_octss isSs_intss isOs_nil isSs_nil isNs_nodes isNs_list isNs_nil isLf_leafA isIn_innerA isN_nodeA isLf_agg isIn_agg isN_agg leaf_eta inner_eta node_eta leaf_zero inner_zero node_zero dP_patchA dP_agg isP_patchA isP_agg patch_eta decide_eq_true_eq decide_eq_false_iff_not eq_self forall_const true_implies false_implies Bool.not_eq_true' Bool.not_eq_false' Bool.true_eq_false implies_true ne_eq ldI ldIA adI AV.tup.injEq AV.agg.injEq List.cons.injEq AV.int.injEq AV.bool.injEq nodes_inj octs_inj ints_inj nil_nodes nil_octs nil_ints canon_nilL decide_eq_decide two_ne four_ne b256_ne lendA_fn lendA_own lendA_none llendA_fn llendA_none plain_bool plain_int plain_tup2 isNs_own isO_own isS_own isOs_own false_and and_false Q_nil Q_l Q_g Q_h Q_grd qgrdW_b qgrdW_tup lightD_some heavyD_some readD_some fnD_some fnD_own fnD_none callL_f ownH_some callH_f litD_some litE_some Q_call Q_bslice H_call pendOk_nil pendOk_cons pastOk_nil pastOk_cons Q_mv Q_pick Q_bin Q_un Q_convI Q_mkfunc Q_extract Q_min Q_max Q_lenS Q_lenA Q_field Q_idxA Q_mkiface Q_tassert Q_alloc Q_box Q_store Q_mkslice Q_append Q_appendZ Q_copy Q_clear Q_build Q_load Q_nilck Q_isnil Q_convS Q_slice Q_faddr Q_iaddr Q_iaddrA Q_len H_alloc H_box H_bslice H_store H_mkslice H_append H_appendZ H_copy H_clear free_mv free_pick free_bin free_un free_convI free_mkfunc free_extract free_min free_max free_lenS free_lenA free_field free_idxA free_mkiface free_tassert free_build free_load free_nilck free_isnil free_convS free_slice free_faddr free_iaddr free_iaddrA free_len callW_y List.length_map List.length_set leaves_r evR_some evRess1 evRess2 evRess3 evRes_t evRes_c nz_kind nz_enc nz_cred nz_source nz_parent nz_ienc nz_hash nz_un true_or or_true bsl_node idbs_node idbs_int appN appI appO ixo_nodes canon_row canon_rowI canon_rowO not_false_eq_true not_true_eq_false ldE_a ldE_c adE_b stE_b onE_a onP_b bsl_zero idbs_zero appN_zero
attribute [local go_sem low] condW_b grdW_b lgrdW_b ldP adP stP onO onPt
attribute [local simp] envL_cons envL_nil idb_int idb_bool idb_str idb_ints idb_nil idb_own idb_ptr entB_ints' idb_octs entB_octs idb_intss entB_intss idb_octss entB_octss idb_nodes entB_nodes idb_leafA idb_innerA idb_nodeA idb_agg idb_tup idb_iptr idb_fn idb_undef entB_dead entB_box
attribute [local go_sem high] qgrdW_tt qgrdW_ff qgrdW_tf qgrdW_ft

theorem refKnownN_spec (n : Node) (hn : n.Ok) : Fun seat 244 [nodeA n] (nodeA (knownN n)) := by
  unfold knownN
  by_cases hc : nodeCheck n = 0
  · rw [if_neg (not_not_intro hc)]
    refine Fun.of0R [r153] told244 (by simp [il244]) (by simp [idb_patchA]) (by simp [idb_patchA]) 4 ?_
    simp -implicitDefEqProofs only [il244, List.zipIdx_cons, List.zipIdx_nil, leafA, innerA, nodeA, patchA, Leaf.cells, Inner.cells, Node.cells, r153_c, r153_ask, decide_true, decide_false, hn, hc, go_sem, Nat.reduceEqDiff, reduceIte, Nat.reduceAdd, Nat.reduceLeDiff, Nat.reduceLT, Nat.reduceSub]
    try exact ⟨rfl, rfl, rfl, rfl, rfl, rfl, rfl, rfl⟩
  · rw [if_pos hc]
    refine Fun.of0R [r153] told244 (by simp [il244]) (by simp [idb_patchA]) (by simp [idb_patchA]) 4 ?_
    simp -implicitDefEqProofs only [il244, List.zipIdx_cons, List.zipIdx_nil, leafA, innerA, nodeA, patchA, Leaf.cells, Inner.cells, Node.cells, r153_c, r153_ask, decide_true, decide_false, hn, hc, go_sem, Nat.reduceEqDiff, reduceIte, Nat.reduceAdd, Nat.reduceLeDiff, Nat.reduceLT, Nat.reduceSub]
    try exact ⟨rfl, rfl, rfl, rfl, rfl, rfl, rfl, rfl⟩
noncomputable def r244 : Reg seat := .of told244 (ask1 (fun a0' => isN a0' ∧ (dN a0').Ok) fun a0' => .fn (nodeA (knownN (dN a0')))) (ask1_ok fun a0' h => SaidOk.fn (Fun.weak (.cons (isN.weak h.1) .nil) (refKnownN_spec _ h.2)))
theorem r244_c : r244.c = 244 := rfl
open Classical in
theorem r244_ask (a0' : AV) : r244.ask [a0'] = if isN a0' ∧ (dN a0').Ok then some (Said.fn (nodeA (knownN (dN a0')))) else none := by unfold r244 Reg.of ask1; exact ite_cl
theorem knownN_kind (n : Node) : (knownN n).kind = 0 ∨ (knownN n).kind = 1 ∨ (knownN n).kind = 2 := by
  unfold knownN
  split
  · exact .inl rfl
  · rename_i h
    have h := Classical.not_not.1 h
    unfold nodeCheck at h
    split at h
    · cases h
    · omega
set_option maxHeartbeats 1000000 in
theorem refNput_spec (b : List Int) (n : Node) (hb : b.length ≤ 4200000000) (hn : n.Ok) : Fun seat 238 [octs b, nodeA n] (octs (nput b n)) := by
  have hk := knownN_ok hn
  have hi := hk.inner
  have hl := hk.leaf
  have b1 : b.length ≤ 4294960000 := by omega
  have b2 : (fput b true).length ≤ 4294960000 := by rw [fput_len]; omega
  have b3 : (fput b true ++ beK 1 (knownN n).kind).length ≤ 4280000000 := by rw [List.length_append, fput_len, beK1_len]; omega
  have b4 : (fput b true ++ beK 1 (knownN n).kind).length ≤ 4270000000 := by rw [List.length_append, fput_len, beK1_len]; omega
  rcases knownN_kind n with h | h | h
  · have h' : ((knownN n).kind = 0) = True := eq_true h
    have h1 : ¬ (knownN n).kind = 1 := by omega
    have h2 : ¬ (knownN n).kind = 2 := by omega
    have e : nput b n = fput b false := by unfold nput; rw [if_neg h2, if_neg h1]
    rw [e]
    refine Fun.of0R [r244, r245] told238 (by simp [il238]) (by simp [idb_patchA]) (by simp [idb_patchA]) 4 ?_
    simp -implicitDefEqProofs only [il238, List.zipIdx_cons, List.zipIdx_nil, leafA, innerA, nodeA, patchA, Leaf.cells, Inner.cells, Node.cells, r244_c, r244_ask, r245_c, r245_ask, decide_true, decide_false, hn, h', h1, h2, b1, not_true_eq_false, go_sem, Nat.reduceEqDiff, reduceIte, Nat.reduceAdd, Nat.reduceLeDiff, Nat.reduceLT, Nat.reduceSub]
  · have h' : ((knownN n).kind = 1) = True := eq_true h
    have h1 : ¬ (knownN n).kind = 0 := by omega
    have h2 : ¬ (knownN n).kind = 2 := by omega
    have e : nput b n = lput (fput b true ++ beK 1 (knownN n).kind) (knownN n).leaf := by unfold nput; rw [if_neg h2, if_pos h, h]
    rw [e]
    refine Fun.of0R [r244, r245, r221f, r246] told238 (by simp [il238]) (by simp [idb_patchA]) (by simp [idb_patchA]) 4 ?_
    simp -implicitDefEqProofs only [il238, List.zipIdx_cons, List.zipIdx_nil, leafA, innerA, nodeA, patchA, Leaf.cells, Inner.cells, Node.cells, r244_c, r244_ask, r245_c, r245_ask, r221f_c, r221f_ask, r246_c, r246_ask, decide_true, decide_false, hn, h', h1, h2, b1, b2, b4, hl, clamp1, not_false_eq_true, go_sem, Nat.reduceEqDiff, reduceIte, Nat.reduceAdd, Nat.reduceLeDiff, Nat.reduceLT, Nat.reduceSub]
  · have h' : ((knownN n).kind = 2) = True := eq_true h
    have h1 : ¬ (knownN n).kind = 0 := by omega
    have h2 : ¬ (knownN n).kind = 1 := by omega
    have e : nput b n = iput (fput b true ++ beK 1 (knownN n).kind) (knownN n).inner := by unfold nput; rw [if_pos h, h]
    rw [e]
    refine Fun.of0R [r244, r245, r221f, r184] told238 (by simp [il238]) (by simp [idb_patchA]) (by simp [idb_patchA]) 4 ?_
    simp -implicitDefEqProofs only [il238, List.zipIdx_cons, List.zipIdx_nil, leafA, innerA, nodeA, patchA, Leaf.cells, Inner.cells, Node.cells, r244_c, r244_ask, r245_c, r245_ask, r221f_c, r221f_ask, r184_c, r184_ask, decide_true, decide_false, hn, h', h1, h2, b1, b2, b3, hi, clamp1, not_false_eq_true, go_sem, Nat.reduceEqDiff, reduceIte, Nat.reduceAdd, Nat.reduceLeDiff, Nat.reduceLT, Nat.reduceSub]
noncomputable def r238 : Reg seat := .of told238 (ask2 (fun a0' a1' => isO a0' ∧ isN a1' ∧ (dO a0').length ≤ 4200000000 ∧ (dN a1').Ok) fun a0' a1' => .fn (octs (nput (dO a0') (dN a1')))) (ask2_ok fun a0' a1' h => SaidOk.fn (Fun.weak (.cons (isO.weak h.1) (.cons (isN.weak h.2.1) .nil)) (refNput_spec _ _ h.2.2.1 h.2.2.2)))
theorem r238_c : r238.c = 238 := rfl
open Classical in
theorem r238_ask (a0' a1' : AV) : r238.ask [a0', a1'] = if isO a0' ∧ isN a1' ∧ (dO a0').length ≤ 4200000000 ∧ (dN a1').Ok then some (Said.fn (octs (nput (dO a0') (dN a1')))) else none := by unfold r238 Reg.of ask2; exact ite_cl
theorem refOfLeaf_spec (i : Int) (n : Node) (hn : n.Ok) : Fun seat 239 [.int .i64 i, nodeA n] (octs (ofLeaf i n)) := by
  have hk := knownN_ok hn
  have hl := hk.leaf
  have l0 : ([] : List Int).length ≤ 4294960000 := by decide
  have l1 : (beK 1 1).length ≤ 4294960000 := by rw [beK1_len]; decide
  have l2 : (beK 1 1 ++ beK 4 i).length ≤ 4294960000 := by rw [List.length_append, beK1_len, beK_len]; decide
  have l3 : (fput (beK 1 1 ++ beK 4 i) true).length ≤ 4270000000 := by rw [fput_len, List.length_append, beK1_len, beK_len]; decide
  unfold ofLeaf laidL
  by_cases h : (knownN n).kind = 1
  · have h' : ((knownN n).kind = 1) = True := eq_true h
    rw [if_pos h]
    refine Fun.of0R [r244, r221f, r245, r246] told239 (by simp [il239]) (by simp [idb_patchA]) (by simp [idb_patchA]) 4 ?_
    simp -implicitDefEqProofs only [il239, List.zipIdx_cons, List.zipIdx_nil, leafA, innerA, nodeA, patchA, Leaf.cells, Inner.cells, Node.cells, r244_c, r244_ask, r221f_c, r221f_ask, r245_c, r245_ask, r246_c, r246_ask, decide_true, decide_false, hn, hl, h', l0, l1, l2, l3, clamp1, clamp4, List.nil_append, go_sem, Nat.reduceEqDiff, reduceIte, Nat.reduceAdd, Nat.reduceLeDiff, Nat.reduceLT, Nat.reduceSub]
  · rw [if_neg h]
    refine Fun.of0R [r244, r221f, r245, r246] told239 (by simp [il239]) (by simp [idb_patchA]) (by simp [idb_patchA]) 4 ?_
    simp -implicitDefEqProofs only [il239, List.zipIdx_cons, List.zipIdx_nil, leafA, innerA, nodeA, patchA, Leaf.cells, Inner.cells, Node.cells, r244_c, r244_ask, r221f_c, r221f_ask, r245_c, r245_ask, r246_c, r246_ask, decide_true, decide_false, hn, hl, h, l0, l1, l2, l3, clamp1, clamp4, List.nil_append, go_sem, Nat.reduceEqDiff, reduceIte, Nat.reduceAdd, Nat.reduceLeDiff, Nat.reduceLT, Nat.reduceSub]
noncomputable def r239 : Reg seat := .of told239 (ask2 (fun a0' a1' => isI a0' ∧ isN a1' ∧ (dN a1').Ok) fun a0' a1' => .fn (octs (ofLeaf (dI a0') (dN a1')))) (ask2_ok fun a0' a1' h => SaidOk.fn (Fun.weak (.cons (isI.weak h.1) (.cons (isN.weak h.2.1) .nil)) (refOfLeaf_spec _ _ h.2.2)))
theorem r239_c : r239.c = 239 := rfl
open Classical in
theorem r239_ask (a0' a1' : AV) : r239.ask [a0', a1'] = if isI a0' ∧ isN a1' ∧ (dN a1').Ok then some (Said.fn (octs (ofLeaf (dI a0') (dN a1')))) else none := by unfold r239 Reg.of ask2; exact ite_cl
theorem refOfInner_spec (n : Node) (l r : List Int) (hn : n.Ok) : Fun seat 240 [nodeA n, octs l, octs r] (octs (ofInner n l r)) := by
  have hk := knownN_ok hn
  have hi := hk.inner
  have l0 : ([] : List Int).length ≤ 4294960000 := by decide
  have l1 : (beK 1 2).length ≤ 4294960000 := by rw [beK1_len]; decide
  have l2 : (fput (beK 1 2) true).length ≤ 4280000000 := by rw [fput_len, beK1_len]; decide
  have a1 : (laidI 2 (knownN n) (beK 1 2)).length ≤ 4280000000 := by
    unfold laidI
    split
    · have := iput_len (fput (beK 1 2) true) (knownN n).inner
      rw [fput_len, beK1_len] at this; omega
    · rw [fput_len, beK1_len]; decide
  have a2 : (pbytes (laidI 2 (knownN n) (beK 1 2)) l).length ≤ 4290000000 := by
    have := pbytes_len (laidI 2 (knownN n) (beK 1 2)) l
    omega
  have a3 : (laidI 2 (knownN n) (beK 1 2)).length ≤ 4290000000 := by omega
  unfold ofInner
  by_cases h : (knownN n).kind = 2
  · have h' : ((knownN n).kind = 2) = True := eq_true h
    have e : laidI 2 (knownN n) (beK 1 2) = iput (fput (beK 1 2) true) (knownN n).inner := if_pos h
    rw [e] at a2 a3 ⊢
    refine Fun.of0R [r244, r184, r199f] told240 (by simp [il240]) (by simp [idb_patchA]) (by simp [idb_patchA]) 4 ?_
    simp -implicitDefEqProofs only [il240, List.zipIdx_cons, List.zipIdx_nil, leafA, innerA, nodeA, patchA, Leaf.cells, Inner.cells, Node.cells, r244_c, r244_ask, r184_c, r184_ask, r199f_c, r199f_ask, decide_true, decide_false, hn, go_sem, Nat.reduceEqDiff, reduceIte, Nat.reduceAdd, Nat.reduceLeDiff, Nat.reduceLT, Nat.reduceSub]
    refine WP.drawQ [r221f, r245] [.l, .g 0 0, .g 0 0, .l, .l, .l] mixed (by decide) ?_
    simp -implicitDefEqProofs only [leafA, innerA, nodeA, patchA, Leaf.cells, Inner.cells, Node.cells, r244_c, r244_ask, r221f_c, r221f_ask, r245_c, r245_ask, r184_c, r184_ask, r199f_c, r199f_ask, decide_true, decide_false, hi, h', l0, l1, l2, a2, a3, clamp1, List.nil_append, go_sem, Nat.reduceEqDiff, reduceIte, Nat.reduceAdd, Nat.reduceLeDiff, Nat.reduceLT, Nat.reduceSub]
  · have e : laidI 2 (knownN n) (beK 1 2) = fput (beK 1 2) false := if_neg h
    rw [e] at a2 a3 ⊢
    refine Fun.of0R [r244, r184, r199f] told240 (by simp [il240]) (by simp [idb_patchA]) (by simp [idb_patchA]) 4 ?_
    simp -implicitDefEqProofs only [il240, List.zipIdx_cons, List.zipIdx_nil, leafA, innerA, nodeA, patchA, Leaf.cells, Inner.cells, Node.cells, r244_c, r244_ask, r184_c, r184_ask, r199f_c, r199f_ask, decide_true, decide_false, hn, go_sem, Nat.reduceEqDiff, reduceIte, Nat.reduceAdd, Nat.reduceLeDiff, Nat.reduceLT, Nat.reduceSub]
    refine WP.drawQ [r221f, r245] [.l, .g 0 0, .g 0 0, .l, .l, .l] mixed (by decide) ?_
    simp -implicitDefEqProofs only [leafA, innerA, nodeA, patchA, Leaf.cells, Inner.cells, Node.cells, r244_c, r244_ask, r221f_c, r221f_ask, r245_c, r245_ask, r184_c, r184_ask, r199f_c, r199f_ask, decide_true, decide_false, hi, h, l0, l1, l2, a2, a3, clamp1, List.nil_append, go_sem, Nat.reduceEqDiff, reduceIte, Nat.reduceAdd, Nat.reduceLeDiff, Nat.reduceLT, Nat.reduceSub]
noncomputable def r240 : Reg seat := .of told240 (ask3 (fun a0' a1' a2' => isN a0' ∧ isO a1' ∧ isO a2' ∧ (dN a0').Ok) fun a0' a1' a2' => .fn (octs (ofInner (dN a0') (dO a1') (dO a2')))) (ask3_ok fun a0' a1' a2' h => SaidOk.fn (Fun.weak (.cons (isN.weak h.1) (.cons (isO.weak h.2.1) (.cons (isO.weak h.2.2.1) .nil))) (refOfInner_spec _ _ _ h.2.2.2)))
theorem r240_c : r240.c = 240 := rfl
open Classical in
theorem r240_ask (a0' a1' a2' : AV) : r240.ask [a0', a1', a2'] = if isN a0' ∧ isO a1' ∧ isO a2' ∧ (dN a0').Ok then some (Said.fn (octs (ofInner (dN a0') (dO a1') (dO a2')))) else none := by unfold r240 Reg.of ask3; exact ite_cl
theorem refOfParent_spec (n : Inner) (s : List Int) (hn : n.Ok) : Fun seat 241 [innerA n, octs s] (octs (ofParent n s)) := by
  have l0 : ([] : List Int).length ≤ 4290000000 := by decide
  have p1 := pbytes_len [] n.enc
  have p2 := pbytes_len (pbytes [] n.enc) n.hash
  simp only [List.length_nil] at p1
  have l1 : (pbytes [] n.enc).length ≤ 4290000000 := by omega
  have l2 : (pbytes (pbytes [] n.enc) n.hash).length ≤ 4290000000 := by omega
  unfold ofParent
  refine Fun.of0R [r199f] told241 (by simp [il241]) (by simp [idb_patchA]) (by simp [idb_patchA]) 4 ?_
  simp -implicitDefEqProofs only [il241, List.zipIdx_cons, List.zipIdx_nil, leafA, innerA, nodeA, patchA, Leaf.cells, Inner.cells, Node.cells, r199f_c, r199f_ask, decide_true, decide_false, go_sem, Nat.reduceEqDiff, reduceIte, Nat.reduceAdd, Nat.reduceLeDiff, Nat.reduceLT, Nat.reduceSub]
  refine WP.drawQ [r199f] [.g 0 0, .g 0 0, .l, .g 0 0, .g 0 0, .l, .l, .l, .l] mixed (by decide) ?_
  simp -implicitDefEqProofs only [leafA, innerA, nodeA, patchA, Leaf.cells, Inner.cells, Node.cells, r199f_c, r199f_ask, decide_true, decide_false, l0, l1, l2, go_sem, Nat.reduceEqDiff, reduceIte, Nat.reduceAdd, Nat.reduceLeDiff, Nat.reduceLT, Nat.reduceSub]
noncomputable def r241 : Reg seat := .of told241 (ask2 (fun a0' a1' => isIn a0' ∧ isO a1' ∧ (dIn a0').Ok) fun a0' a1' => .fn (octs (ofParent (dIn a0') (dO a1')))) (ask2_ok fun a0' a1' h => SaidOk.fn (Fun.weak (.cons (isIn.weak h.1) (.cons (isO.weak h.2.1) .nil)) (refOfParent_spec _ _ h.2.2)))
theorem r241_c : r241.c = 241 := rfl
open Classical in
theorem r241_ask (a0' a1' : AV) : r241.ask [a0', a1'] = if isIn a0' ∧ isO a1' ∧ (dIn a0').Ok then some (Said.fn (octs (ofParent (dIn a0') (dO a1')))) else none := by unfold r241 Reg.of ask2; exact ite_cl
end Go.Proofs.YtlehcigcaihoaaaGreat.Al
