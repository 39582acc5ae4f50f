/-
  THE LAW NodeApart.
-/
import Derived.Test.YtilhcglckgdbcaaAlQ8
set_option linter.unusedSimpArgs false
set_option linter.unusedVariables false
namespace Go.Proofs.Ytilhcglckgdbcaa.Al
open Go
attribute [local go_sem] W_mv W_pick W_alloc W_box W_build W_bslice W_load W_store W_nilck W_bin W_isnil W_un W_convI W_convS W_mkiface W_mkfunc W_mkslice W_slice W_faddr W_field W_iaddr W_iaddrA W_idxA W_extract W_len W_lenS W_lenA W_min W_max W_append W_appendZ W_copy W_clear W_tassert W_invoke thenQ_normal thenQ_exit thenQ_goto thenQ_ret blockQ_normal blockQ_ret blockQ_goto blockQ_exit wpc_skip wpc_region wpc_draw wpc_seq wpc_cond wpc_block wpc_exit wpc_goto wpc_label wpc_ret wpc_loop wpc_range wpc_scope condW_true condW_false condW_dec condW_any W_nil W_call resW_some evalOp Opd.ev updo_envL updo_none setL_cons setL_nil envL_cons Option.map_some Option.bind_some evBin evInt List.map_cons List.map_nil Option.pure_def Option.bind_eq_bind W_grd' grdW_tt grdW_ff grdW_tf grdW_ft grdW_tup grdW_dt grdW_df lgrdW_tt lgrdW_ff lgrdW_tf lgrdW_ft lgrdW_tup lgrdW_dt lgrdW_df L_mv L_pick L_alloc L_box L_build L_bslice L_load L_store L_nilck L_bin L_isnil L_un L_convI L_convS L_mkiface L_mkfunc L_mkslice L_slice L_faddr L_field L_iaddr L_iaddrA L_idxA L_extract L_len L_lenS L_lenA L_min L_max L_append L_appendZ L_copy L_clear L_tassert L_nil L_call L_grd lresW_some upd_envL evUn beq_dec bne_dec leaves_ret1 leaves_end1 leaves_ret0 leaves_end0 leaves_ret2 leaves_ret3 rowLen_ints load_iptr0 not_dec heap_get0 heap_get1 heap_set0 heap_set1 heap_len1 heap_len2 heap_app heap_app2 bslice1_int seen_ints seen_one0 seen_one1 seen_one2 rowLen_own0 bslice0_int rowLen_own1 Nat.sub_zero Bool.not_true Bool.not_false List.length_nil List.length_cons List.nil_append List.cons_append Nat.zero_add load_iptrA canon_ptrI canon_bool canon_tup canon_agg canon_leafA canon_innerA canon_nodeA canon_ints' rowLen_ints0 seen_ints0 canon_ints0 rowLen_ints1 seen_ints1 canon_ints1 rowLen_ints2 seen_ints2 canon_ints2 rowLen_ints3 seen_ints3 canon_ints3 rowLen_octs seen_octs canon_octs' szOk_octs rowLen_octs0 seen_octs0 canon_octs0 rowLen_octs1 seen_octs1 canon_octs1 rowLen_octs2 seen_octs2 canon_octs2 rowLen_octs3 seen_octs3 canon_octs3 rowLen_intss seen_intss canon_intss' szOk_intss rowLen_intss0 seen_intss0 canon_intss0 rowLen_intss1 seen_intss1 canon_intss1 rowLen_intss2 seen_intss2 canon_intss2 rowLen_intss3 seen_intss3 canon_intss3 rowLen_octss seen_octss canon_octss' szOk_octss rowLen_octss0 seen_octss0 canon_octss0 rowLen_octss1 seen_octss1 canon_octss1 rowLen_octss2 seen_octss2 canon_octss2 rowLen_octss3 seen_octss3 canon_octss3 rowLen_nodes seen_nodes canon_nodes' szOk_nodes rowLen_nodes0 seen_nodes0 canon_nodes0 rowLen_nodes1 seen_nodes1 canon_nodes1 rowLen_nodes2 seen_nodes2 canon_nodes2 rowLen_nodes3 seen_nodes3 canon_nodes3 seen_list cells_int oneIn_int cells_bool oneIn_bool cells_str oneIn_str cells_list oneIn_list cells_func oneIn_func cells_nilfunc oneIn_nilfunc cells_iptr oneIn_iptr cells_iface oneIn_iface cells_nilIface oneIn_nilIface cells_own cells_ptr cells_anybool oneIn_anybool cells_agg oneIn_own0 oneIn_ptr0 seenL0 seenM0 oneIn_own1 oneIn_ptr1 seenL1 seenM1 oneIn_own2 oneIn_ptr2 seenL2 seenM2 oneIn_own3 oneIn_ptr3 seenL3 seenM3 oneIn_own4 oneIn_ptr4 seenL4 seenM4 oneIn_own5 oneIn_ptr5 seenL5 seenM5 cells_ints oneIn_ints cells_octs oneIn_octs cells_intss oneIn_intss cells_octss oneIn_octss cells_nodes oneIn_nodes ldB0 ldA0 adB0 stB0 ldB1 ldA1 adB1 stB1 ldB2 ldA2 adB2 stB2 ldB3 ldA3 adB3 stB3 ldB4 ldA4 adB4 stB4 ldB5 ldA5 adB5 stB5 List.getElem?_cons_zero List.getElem?_cons_succ beq_self_eq_true splice List.take_zero List.take_succ_cons List.drop_zero List.drop_succ_cons List.append_nil List.set_cons_zero List.set_cons_succ List.all_cons List.all_nil Bool.and_self and_self and_true true_and Nat.lt_irrefl Nat.zero_lt_one Nat.le_refl fillA evNil notA Bool.false_eq_true evMin_int evMax_int Option.map_none freezeP_all_nil freezeP_all_cons frzE_box frzE_arr frzE_dead foldA List.foldlM_cons List.foldlM_nil callW_f lcallW_f ansW_fn ansW_own lansW_fn lansW_own ansW_none lansW_none tab_cons tab_nil dI_int dB_bool dO_octs dO_ints dO_list dO_nil dOs_octss dOs_intss dOs_nil dLf_leafA dIn_innerA dN_nodeA dLf_agg dIn_agg dN_agg dNs_nodes dNs_list dNs_nil isI_int isU_int isB_bool isO_octs isO_nil isO_list isS_ints isS_nil isS_list isOs_octss isSs_intss isOs_nil isSs_nil isNs_nodes isNs_list isNs_nil isLf_leafA isIn_innerA isN_nodeA isLf_agg isIn_agg isN_agg leaf_eta inner_eta node_eta leaf_zero inner_zero node_zero dP_patchA dP_agg isP_patchA isP_agg patch_eta decide_eq_true_eq decide_eq_false_iff_not eq_self forall_const true_implies false_implies Bool.not_eq_true' Bool.not_eq_false' Bool.true_eq_false implies_true ne_eq ldI ldIA adI AV.tup.injEq AV.agg.injEq List.cons.injEq AV.int.injEq AV.bool.injEq nodes_inj octs_inj ints_inj nil_nodes nil_octs nil_ints canon_nilL decide_eq_decide two_ne four_ne b256_ne lendA_fn lendA_own lendA_none llendA_fn llendA_none plain_bool plain_int plain_tup2 isNs_own isO_own isS_own isOs_own false_and and_false Q_nil Q_l Q_g Q_h Q_grd qgrdW_b qgrdW_tup lightD_some heavyD_some readD_some fnD_some fnD_own fnD_none callL_f ownH_some callH_f litD_some litE_some Q_call Q_bslice H_call pendOk_nil pendOk_cons pastOk_nil pastOk_cons Q_mv Q_pick Q_bin Q_un Q_convI Q_mkfunc Q_extract Q_min Q_max Q_lenS Q_lenA Q_field Q_idxA Q_mkiface Q_tassert Q_alloc Q_box Q_store Q_mkslice Q_append Q_appendZ Q_copy Q_clear Q_build Q_load Q_nilck Q_isnil Q_convS Q_slice Q_faddr Q_iaddr Q_iaddrA Q_len H_alloc H_box H_bslice H_store H_mkslice H_append H_appendZ H_copy H_clear free_mv free_pick free_bin free_un free_convI free_mkfunc free_extract free_min free_max free_lenS free_lenA free_field free_idxA free_mkiface free_tassert free_build free_load free_nilck free_isnil free_convS free_slice free_faddr free_iaddr free_iaddrA free_len callW_y List.length_map List.length_set leaves_r evR_some evRess1 evRess2 evRess3 evRes_t evRes_c nz_kind nz_enc nz_cred nz_source nz_parent nz_ienc nz_hash nz_un true_or or_true bsl_node idbs_node idbs_int appN appI appO ixo_nodes canon_row canon_rowI canon_rowO not_false_eq_true not_true_eq_false ldE_a ldE_c adE_b stE_b onE_a onP_b bsl_zero idbs_zero appN_zero
attribute [local go_sem low] condW_b grdW_b lgrdW_b ldP adP stP onO onPt
attribute [local simp] envL_cons envL_nil idb_int idb_bool idb_str idb_ints idb_nil idb_own idb_ptr entB_ints' idb_octs entB_octs idb_intss entB_intss idb_octss entB_octss idb_nodes entB_nodes idb_leafA idb_innerA idb_nodeA idb_agg idb_tup idb_iptr idb_fn idb_undef entB_dead entB_box
attribute [local go_sem high] qgrdW_tt qgrdW_ff qgrdW_tf qgrdW_ft

theorem evStr_neq (a b : List UInt8) : evStr .neq a b = some (.bool (decide (¬ a = b))) := by
  simp only [evStr]
  congr 2
  by_cases h : a = b <;> simp [h]
theorem lput_bytes' {l : Leaf} (hl : l.Ok) (h : leafCheck l = 0) : Bytes (lput [] l) := by
  obtain ⟨a, b, c, d, e, f, g⟩ := leafCheck_ok h
  have ff : ∀ v : List Int, Bytes v → Bytes (f1 v) := fun v hv => Bytes.app.2 ⟨vput_bytes (by omega), hv⟩
  rw [lput_eq h]
  refine Bytes.app.2 ⟨ff _ (bytes_of hl.enc), Bytes.app.2 ⟨ff _ (bytes_of hl.cred), fun x hx => ?_⟩⟩
  rcases List.mem_cons.1 hx with rfl | hx
  · omega
  · split at hx
    · exact ff _ (bytes_of hl.parent) x hx
    · cases hx
theorem iput_bytes' {n : Inner} (hn : n.Ok) (hc : innerCheck n = 0) : Bytes (iput [] n) := by
  rw [iput_eq hc, List.nil_append]
  have f : ∀ v : List Int, Bytes v → Bytes (f1 v) := fun v hv => Bytes.app.2 ⟨vput_bytes (by omega), hv⟩
  refine Bytes.app.2 ⟨f _ (bytes_of hn.enc), Bytes.app.2 ⟨f _ (bytes_of hn.hash), f _ fun x hx => ?_⟩⟩
  obtain ⟨y, _, hy⟩ := List.mem_flatMap.1 hx
  exact be4_bytes y x hy
theorem f1_le {b : List Int} (h : b.length ≤ 1048576) : (f1 b).length ≤ 4000000 := by
  have := pbytes_len [] b
  rw [pbytes_eq h, List.nil_append] at this
  simp only [List.length_nil] at this
  show (vput b.length ++ b).length ≤ _
  omega
theorem ofLeaf_oct {n : Node} (hn : n.Ok) (h : nodeCheck n = 0) (i : Int) : Oct (ofLeaf i n) := by
  rw [ofLeaf_eq h]
  have k : ∀ l : List Int, Bytes l → l.length ≤ 5000000 → Oct (1 :: (be4 i ++ l)) := fun l hl hk => oct_of (by
    intro x hx
    rcases List.mem_cons.1 hx with rfl | hx
    · omega
    · exact Bytes.app.2 ⟨be4_bytes i, hl⟩ x hx) (by simp only [List.length_cons, List.length_append, be4, List.length_nil]; omega)
  unfold tailL
  split
  · rename_i a
    refine k _ (fun x hx => ?_) ?_
    · rcases List.mem_cons.1 hx with rfl | hx
      · omega
      · exact lput_bytes' hn.leaf (leaf_of h a).1 x hx
    · have := lput_len [] n.leaf
      simp only [List.length_cons, List.length_nil] at this ⊢; omega
  · exact k _ (fun x hx => by simp at hx; omega) (by decide)
theorem ofInner_oct {n : Node} (hn : n.Ok) (h : nodeCheck n = 0) {b c : List Int} (hb : Oct b) (hc : Oct c) (lb : b.length ≤ 1048576) (lc : c.length ≤ 1048576) : Oct (ofInner n b c) := by
  rw [ofInner_eq h lb lc]
  have f : ∀ v : List Int, Bytes v → Bytes (f1 v) := fun v hv => Bytes.app.2 ⟨vput_bytes (by omega), hv⟩
  have e1 := f1_le lb
  have e2 := f1_le lc
  have k : ∀ l : List Int, Bytes l → l.length ≤ 5000000 → Oct (2 :: (l ++ (f1 b ++ f1 c))) := fun l hl hk => oct_of (by
    intro x hx
    rcases List.mem_cons.1 hx with rfl | hx
    · omega
    · exact Bytes.app.2 ⟨hl, Bytes.app.2 ⟨f _ (bytes_of hb), f _ (bytes_of hc)⟩⟩ x hx) (by simp only [List.length_cons, List.length_append]; omega)
  unfold tailI
  split
  · rename_i a
    refine k _ (fun x hx => ?_) ?_
    · rcases List.mem_cons.1 hx with rfl | hx
      · omega
      · exact iput_bytes' hn.inner (inner_of h a).1 x hx
    · have := iput_len [] n.inner
      simp only [List.length_cons, List.length_nil] at this ⊢; omega
  · exact k _ (fun x hx => by simp at hx; omega) (by decide)
set_option maxRecDepth 100000 in
set_option maxHeartbeats 2000000 in
theorem nodeApart_spec (n m : Node) (i j : Int) (b c : List Int) (hn : n.Ok) (hm : m.Ok) (hb : Oct b) (hc : Oct c) : Fun seat 177 [nodeA n, nodeA m, .int .i64 i, .int .i64 j, octs b, octs c] (.bool true) := by
  by_cases hf : nodeFew n
  rotate_left
  · refine Fun.of0R [r187, r122, r124] told177 (by simp [il177]) (by simp [idb_patchA]) (by simp [idb_patchA]) 4 ?_
    simp -implicitDefEqProofs only [il177, List.zipIdx_cons, List.zipIdx_nil, leafA, innerA, nodeA, patchA, Leaf.cells, Inner.cells, Node.cells, r187_c, r187_ask, r122_c, r122_ask, r124_c, r124_ask, decide_true, decide_false, hn, hm, hf, go_sem, Nat.reduceEqDiff, reduceIte, Nat.reduceAdd, Nat.reduceLeDiff, Nat.reduceLT, Nat.reduceSub]
  by_cases hg : nodeFew m
  rotate_left
  · refine Fun.of0R [r187, r122, r124] told177 (by simp [il177]) (by simp [idb_patchA]) (by simp [idb_patchA]) 4 ?_
    simp -implicitDefEqProofs only [il177, List.zipIdx_cons, List.zipIdx_nil, leafA, innerA, nodeA, patchA, Leaf.cells, Inner.cells, Node.cells, r187_c, r187_ask, r122_c, r122_ask, r124_c, r124_ask, decide_true, decide_false, hn, hm, hf, hg, go_sem, Nat.reduceEqDiff, reduceIte, Nat.reduceAdd, Nat.reduceLeDiff, Nat.reduceLT, Nat.reduceSub]
  by_cases h1 : (b.length : Int) > 1000
  · refine Fun.of0R [r187, r122, r124] told177 (by simp [il177]) (by simp [idb_patchA]) (by simp [idb_patchA]) 4 ?_
    simp -implicitDefEqProofs only [il177, List.zipIdx_cons, List.zipIdx_nil, leafA, innerA, nodeA, patchA, Leaf.cells, Inner.cells, Node.cells, r187_c, r187_ask, r122_c, r122_ask, r124_c, r124_ask, decide_true, decide_false, hn, hm, hf, hg, h1, go_sem, Nat.reduceEqDiff, reduceIte, Nat.reduceAdd, Nat.reduceLeDiff, Nat.reduceLT, Nat.reduceSub]
  by_cases h2 : (c.length : Int) > 1000
  · refine Fun.of0R [r187, r122, r124] told177 (by simp [il177]) (by simp [idb_patchA]) (by simp [idb_patchA]) 4 ?_
    simp -implicitDefEqProofs only [il177, List.zipIdx_cons, List.zipIdx_nil, leafA, innerA, nodeA, patchA, Leaf.cells, Inner.cells, Node.cells, r187_c, r187_ask, r122_c, r122_ask, r124_c, r124_ask, decide_true, decide_false, hn, hm, hf, hg, h1, h2, go_sem, Nat.reduceEqDiff, reduceIte, Nat.reduceAdd, Nat.reduceLeDiff, Nat.reduceLT, Nat.reduceSub]
  by_cases k1 : nodeCheck n = 0
  rotate_left
  · refine Fun.of0R [r187, r122, r124] told177 (by simp [il177]) (by simp [idb_patchA]) (by simp [idb_patchA]) 4 ?_
    simp -implicitDefEqProofs only [il177, List.zipIdx_cons, List.zipIdx_nil, leafA, innerA, nodeA, patchA, Leaf.cells, Inner.cells, Node.cells, r187_c, r187_ask, r122_c, r122_ask, r124_c, r124_ask, decide_true, decide_false, hn, hm, hf, hg, h1, h2, k1, go_sem, Nat.reduceEqDiff, reduceIte, Nat.reduceAdd, Nat.reduceLeDiff, Nat.reduceLT, Nat.reduceSub]
  by_cases k2 : nodeCheck m = 0
  rotate_left
  · refine Fun.of0R [r187, r122, r124] told177 (by simp [il177]) (by simp [idb_patchA]) (by simp [idb_patchA]) 4 ?_
    simp -implicitDefEqProofs only [il177, List.zipIdx_cons, List.zipIdx_nil, leafA, innerA, nodeA, patchA, Leaf.cells, Inner.cells, Node.cells, r187_c, r187_ask, r122_c, r122_ask, r124_c, r124_ask, decide_true, decide_false, hn, hm, hf, hg, h1, h2, k1, k2, go_sem, Nat.reduceEqDiff, reduceIte, Nat.reduceAdd, Nat.reduceLeDiff, Nat.reduceLT, Nat.reduceSub]
  have lb : b.length ≤ 1048576 := by omega
  have lc : c.length ≤ 1048576 := by omega
  obtain ⟨x, hx, hxb⟩ : ∃ x, i % 65536 = x ∧ 0 ≤ x ∧ x ≤ 65535 := ⟨i % 65536, rfl, by omega⟩
  obtain ⟨y, hy, hyb⟩ : ∃ y, j % 65536 = y ∧ 0 ≤ y ∧ y ≤ 65535 := ⟨j % 65536, rfl, by omega⟩
  have o1 := ofLeaf_oct hn k1 x
  have o2 := ofLeaf_oct hm k2 y
  have o3 := ofInner_oct hn k1 hb hc lb lc
  have o4 := ofInner_oct hm k2 hc hb lc lb
  obtain ⟨X, hX⟩ : ∃ X, decide (x = y) = X := ⟨_, rfl⟩
  obtain ⟨C, hC⟩ : ∃ C, decide (b = c) = C := ⟨_, rfl⟩
  obtain ⟨AL, hAL⟩ : ∃ AL, AL = decide ((n.kind ≠ 1 ∧ m.kind ≠ 1) ∨ n = m) := ⟨_, rfl⟩
  obtain ⟨AI, hAI⟩ : ∃ AI, AI = decide ((n.kind ≠ 2 ∧ m.kind ≠ 2) ∨ n = m) := ⟨_, rfl⟩
  have eL : decide (bytesOf (ofLeaf x n) = bytesOf (ofLeaf y m)) = (X && AL) := by
    rw [← hX, hAL, ← Bool.decide_and]
    exact decide_eq_decide.2 ⟨fun h => (ofLeaf_inj k1 k2 hxb hyb).1 (bytesOf_inj o1 o2 h), fun h => by rw [(ofLeaf_inj k1 k2 hxb hyb).2 h]⟩
  have eI : decide (bytesOf (ofInner n b c) = bytesOf (ofInner m c b)) = (C && AI) := by
    rw [← hC, hAI, ← Bool.decide_and]
    exact decide_eq_decide.2 ⟨fun h => (ofInner_inj k1 k2 lb lc).1 (bytesOf_inj o3 o4 h), fun h => by rw [(ofInner_inj k1 k2 lb lc).2 h]⟩
  have eB : decide (bytesOf b = bytesOf c) = C := by
    rw [← hC]
    exact decide_eq_decide.2 ⟨bytesOf_inj hb hc, fun h => by rw [h]⟩
  have eA : ¬ bytesOf (ofLeaf x n) = bytesOf (ofInner n b c) := fun h => of_apart k1 x lb lc (bytesOf_inj o1 o3 h)
  clear o1 o2 o3 o4
  refine Fun.of0W told177 (by simp [il177]) (by simp [leafA, innerA, nodeA, Leaf.cells, Inner.cells, Node.cells]) (by simp ) 4 ?_
  simp only [il177, List.zipIdx_cons, List.zipIdx_nil, List.map_cons, List.map_nil, Nat.zero_add, leafA, innerA, nodeA, Leaf.cells, Inner.cells, Node.cells]
  refine WP.seqR [] fun K hK => ?_
  simp -implicitDefEqProofs only [leafA, innerA, nodeA, patchA, Leaf.cells, Inner.cells, Node.cells, decide_true, decide_false, go_sem, Nat.reduceEqDiff, reduceIte, Nat.reduceAdd, Nat.reduceLeDiff, Nat.reduceLT, Nat.reduceSub]
  refine hK _ ?_
  clear hK K
  refine WP.seqR [r187] fun K hK => ?_
  simp -implicitDefEqProofs only [leafA, innerA, nodeA, patchA, Leaf.cells, Inner.cells, Node.cells, r187_c, r187_ask, decide_true, decide_false, go_sem, Nat.reduceEqDiff, reduceIte, Nat.reduceAdd, Nat.reduceLeDiff, Nat.reduceLT, Nat.reduceSub]
  refine hK _ ?_
  clear hK K
  refine WP.seqR [r187, r122, r124] fun K hK => ?_
  simp -implicitDefEqProofs only [leafA, innerA, nodeA, patchA, Leaf.cells, Inner.cells, Node.cells, r187_c, r187_ask, r122_c, r122_ask, r124_c, r124_ask, decide_true, decide_false, hn, hm, hf, hg, h1, h2, k1, k2, go_sem, Nat.reduceEqDiff, reduceIte, Nat.reduceAdd, Nat.reduceLeDiff, Nat.reduceLT, Nat.reduceSub]
  refine hK _ ?_
  clear hK K
  clear hf hg h1 h2 k1 k2
  refine WP.seqR [] fun K hK => ?_
  simp -implicitDefEqProofs only [leafA, innerA, nodeA, patchA, Leaf.cells, Inner.cells, Node.cells, decide_true, decide_false, and65535, hx, go_sem, Nat.reduceEqDiff, reduceIte, Nat.reduceAdd, Nat.reduceLeDiff, Nat.reduceLT, Nat.reduceSub]
  refine hK _ ?_
  clear hK K
  refine WP.seqR [] fun K hK => ?_
  simp -implicitDefEqProofs only [leafA, innerA, nodeA, patchA, Leaf.cells, Inner.cells, Node.cells, decide_true, decide_false, and65535, hy, go_sem, Nat.reduceEqDiff, reduceIte, Nat.reduceAdd, Nat.reduceLeDiff, Nat.reduceLT, Nat.reduceSub]
  refine hK _ ?_
  clear hK K
  refine WP.seqR [] fun K hK => ?_
  simp -implicitDefEqProofs only [leafA, innerA, nodeA, patchA, Leaf.cells, Inner.cells, Node.cells, decide_true, decide_false, go_sem, Nat.reduceEqDiff, reduceIte, Nat.reduceAdd, Nat.reduceLeDiff, Nat.reduceLT, Nat.reduceSub]
  refine WP.drawQ [r190] [.l, .g 0 0, .l, .l, .l, .g 0 0, .l, .l, .l, .l] (by decide) rfl ?_
  simp -implicitDefEqProofs only [leafA, innerA, nodeA, patchA, Leaf.cells, Inner.cells, Node.cells, r190_c, r190_ask, decide_true, decide_false, hn, hm, bytes_octs, evStr_eql, eL, go_sem, Nat.reduceEqDiff, reduceIte, Nat.reduceAdd, Nat.reduceLeDiff, Nat.reduceLT, Nat.reduceSub]
  refine hK _ ?_
  clear hK K
  refine WP.seqR [] fun K hK => ?_
  simp -implicitDefEqProofs only [leafA, innerA, nodeA, patchA, Leaf.cells, Inner.cells, Node.cells, decide_true, decide_false, go_sem, Nat.reduceEqDiff, reduceIte, Nat.reduceAdd, Nat.reduceLeDiff, Nat.reduceLT, Nat.reduceSub]
  refine WP.drawQ [r191] [.g 0 0, .l, .l, .l, .l, .g 0 0, .l, .l, .l, .l, .l, .l] (by decide) rfl ?_
  simp -implicitDefEqProofs only [leafA, innerA, nodeA, patchA, Leaf.cells, Inner.cells, Node.cells, r191_c, r191_ask, decide_true, decide_false, hn, hm, hb, hc, lb, lc, bytes_octs, evStr_eql, eI, go_sem, Nat.reduceEqDiff, reduceIte, Nat.reduceAdd, Nat.reduceLeDiff, Nat.reduceLT, Nat.reduceSub]
  refine hK _ ?_
  clear hK K
  refine WP.weakL [(6, .ptr 0 0), (7, .ptr 1 0), (4, octs b), (5, octs c), (13, .bool true), (14, .int .i64 x), (15, .int .i64 y), (16, .bool (X && AL)), (17, .bool (C && AI))] ?_ ?_
  · simp only [envL_cons, Nat.reduceEqDiff, reduceIte, List.mem_cons, List.not_mem_nil, or_false, forall_eq_or_imp, forall_eq, weak_refl, and_self]
  clear eL eI
  refine WP.seqR [r121] fun K hK => ?_
  have k18 : ∀ env', (∀ p ∈ [(6, .ptr 0 0), (7, .ptr 1 0), (4, octs b), (5, octs c), (13, .bool true), (14, .int .i64 x), (15, .int .i64 y), (16, .bool (X && AL)), (17, .bool (C && AI)), (18, .bool AL)], Weak (env' p.1) p.2) → K ⟨env', [.box [AV.int IntKind.i64 n.kind, octs n.leaf.enc, octs n.leaf.cred, AV.int IntKind.i64 n.leaf.source, octs n.leaf.parent, octs n.inner.enc, octs n.inner.hash, ints n.inner.unmerged], .box [AV.int IntKind.i64 m.kind, octs m.leaf.enc, octs m.leaf.cred, AV.int IntKind.i64 m.leaf.source, octs m.leaf.parent, octs m.inner.enc, octs m.inner.hash, ints m.inner.unmerged]]⟩ := by
    intro env' he
    refine hK _ (WP.weakL _ he ?_)
    clear hK K he
    refine WP.seqR [r121] fun K hK => ?_
    have k19 : ∀ env', (∀ p ∈ [(6, .ptr 0 0), (7, .ptr 1 0), (4, octs b), (5, octs c), (13, .bool true), (14, .int .i64 x), (15, .int .i64 y), (16, .bool (X && AL)), (17, .bool (C && AI)), (18, .bool AL), (19, .bool AI)], Weak (env' p.1) p.2) → K ⟨env', [.box [AV.int IntKind.i64 n.kind, octs n.leaf.enc, octs n.leaf.cred, AV.int IntKind.i64 n.leaf.source, octs n.leaf.parent, octs n.inner.enc, octs n.inner.hash, ints n.inner.unmerged], .box [AV.int IntKind.i64 m.kind, octs m.leaf.enc, octs m.leaf.cred, AV.int IntKind.i64 m.leaf.source, octs m.leaf.parent, octs m.inner.enc, octs m.inner.hash, ints m.inner.unmerged]]⟩ := by
      intro env' he
      refine hK _ (WP.weakL _ he ?_)
      clear hK K he hAL hAI
      refine WP.seqR [] fun K hK => ?_
      simp -implicitDefEqProofs only [leafA, innerA, nodeA, patchA, Leaf.cells, Inner.cells, Node.cells, decide_true, decide_false, go_sem, Nat.reduceEqDiff, reduceIte, Nat.reduceAdd, Nat.reduceLeDiff, Nat.reduceLT, Nat.reduceSub]
      cases X
      · have hxy : ¬ x = y := of_decide_eq_false hX
        cases C
        all_goals
          refine WP.drawQ [r190, r191] [.l, .l, .l, .l, .l, .l, .l, .l, .l, .l, .l, .l, .l, .l, .g 0 0, .l, .g 0 0, .l, .l, .l, .l, .l, .l, .l, .l, .g 0 0, .l, .g 0 0, .g 0 0, .l, .l, .l, .g 0 0, .l, .l, .l] (by decide) rfl ?_
          simp -implicitDefEqProofs only [leafA, innerA, nodeA, patchA, Leaf.cells, Inner.cells, Node.cells, r190_c, r190_ask, r191_c, r191_ask, decide_true, decide_false, hn, hb, hc, lb, lc, hxy, eA, eB, bytes_octs, evStr_eql, evStr_neq, Bool.false_and, Bool.true_and, go_sem, Nat.reduceEqDiff, reduceIte, Nat.reduceAdd, Nat.reduceLeDiff, Nat.reduceLT, Nat.reduceSub]
          refine hK _ (wpc_soundR [] ?_)
          simp -implicitDefEqProofs only [leafA, innerA, nodeA, patchA, Leaf.cells, Inner.cells, Node.cells, decide_true, decide_false, go_sem, Nat.reduceEqDiff, reduceIte, Nat.reduceAdd, Nat.reduceLeDiff, Nat.reduceLT, Nat.reduceSub]
      · have hxy : (x = y) = True := eq_true (of_decide_eq_true hX)
        cases C
        all_goals
          refine WP.drawQ [r190, r191] [.l, .l, .l, .l, .l, .l, .l, .l, .l, .l, .l, .l, .l, .l, .g 0 0, .l, .g 0 0, .l, .l, .l, .l, .l, .l, .l, .l, .g 0 0, .l, .g 0 0, .g 0 0, .l, .l, .l, .g 0 0, .l, .l, .l] (by decide) rfl ?_
          simp -implicitDefEqProofs only [leafA, innerA, nodeA, patchA, Leaf.cells, Inner.cells, Node.cells, r190_c, r190_ask, r191_c, r191_ask, decide_true, decide_false, hn, hb, hc, lb, lc, hxy, eA, eB, bytes_octs, evStr_eql, evStr_neq, Bool.false_and, Bool.true_and, go_sem, Nat.reduceEqDiff, reduceIte, Nat.reduceAdd, Nat.reduceLeDiff, Nat.reduceLT, Nat.reduceSub]
          refine hK _ (wpc_soundR [] ?_)
          simp -implicitDefEqProofs only [leafA, innerA, nodeA, patchA, Leaf.cells, Inner.cells, Node.cells, decide_true, decide_false, go_sem, Nat.reduceEqDiff, reduceIte, Nat.reduceAdd, Nat.reduceLeDiff, Nat.reduceLT, Nat.reduceSub]
    clear hK
    by_cases p : n.kind = 2
    · by_cases e : n = m
      · have hv : AI = true := by rw [hAI]; simp [e]
        subst e
        simp -implicitDefEqProofs only [leafA, innerA, nodeA, patchA, Leaf.cells, Inner.cells, Node.cells, r121_c, r121_ask, decide_true, decide_false, hn, eq_true p, go_sem, Nat.reduceEqDiff, reduceIte, Nat.reduceAdd, Nat.reduceLeDiff, Nat.reduceLT, Nat.reduceSub]
        refine k19 _ ?_
        rw [hv]
        simp only [envL_cons, Nat.reduceEqDiff, reduceIte, List.mem_cons, List.not_mem_nil, or_false, forall_eq_or_imp, forall_eq, weak_refl, and_self]
      · have hv : AI = false := by rw [hAI]; simp [p, e]
        simp -implicitDefEqProofs only [leafA, innerA, nodeA, patchA, Leaf.cells, Inner.cells, Node.cells, r121_c, r121_ask, decide_true, decide_false, hn, hm, eq_true p, e, go_sem, Nat.reduceEqDiff, reduceIte, Nat.reduceAdd, Nat.reduceLeDiff, Nat.reduceLT, Nat.reduceSub]
        refine k19 _ ?_
        rw [hv]
        simp only [envL_cons, Nat.reduceEqDiff, reduceIte, List.mem_cons, List.not_mem_nil, or_false, forall_eq_or_imp, forall_eq, weak_refl, and_self]
    · by_cases q : m.kind = 2
      · have e : n ≠ m := fun h => p (h ▸ q)
        have hv : AI = false := by rw [hAI]; simp [q, e]
        simp -implicitDefEqProofs only [leafA, innerA, nodeA, patchA, Leaf.cells, Inner.cells, Node.cells, r121_c, r121_ask, decide_true, decide_false, hn, hm, p, eq_true q, e, go_sem, Nat.reduceEqDiff, reduceIte, Nat.reduceAdd, Nat.reduceLeDiff, Nat.reduceLT, Nat.reduceSub]
        refine k19 _ ?_
        rw [hv]
        simp only [envL_cons, Nat.reduceEqDiff, reduceIte, List.mem_cons, List.not_mem_nil, or_false, forall_eq_or_imp, forall_eq, weak_refl, and_self]
      · have hv : AI = true := by rw [hAI]; simp [p, q]
        simp -implicitDefEqProofs only [leafA, innerA, nodeA, patchA, Leaf.cells, Inner.cells, Node.cells, r121_c, r121_ask, decide_true, decide_false, hn, hm, p, q, go_sem, Nat.reduceEqDiff, reduceIte, Nat.reduceAdd, Nat.reduceLeDiff, Nat.reduceLT, Nat.reduceSub]
        refine k19 _ ?_
        rw [hv]
        simp only [envL_cons, Nat.reduceEqDiff, reduceIte, List.mem_cons, List.not_mem_nil, or_false, forall_eq_or_imp, forall_eq, weak_refl, and_self]
  clear hK
  by_cases p : n.kind = 1
  · by_cases e : n = m
    · have hv : AL = true := by rw [hAL]; simp [e]
      subst e
      simp -implicitDefEqProofs only [leafA, innerA, nodeA, patchA, Leaf.cells, Inner.cells, Node.cells, r121_c, r121_ask, decide_true, decide_false, hn, eq_true p, go_sem, Nat.reduceEqDiff, reduceIte, Nat.reduceAdd, Nat.reduceLeDiff, Nat.reduceLT, Nat.reduceSub]
      refine k18 _ ?_
      rw [hv]
      simp only [envL_cons, Nat.reduceEqDiff, reduceIte, List.mem_cons, List.not_mem_nil, or_false, forall_eq_or_imp, forall_eq, weak_refl, and_self]
    · have hv : AL = false := by rw [hAL]; simp [p, e]
      simp -implicitDefEqProofs only [leafA, innerA, nodeA, patchA, Leaf.cells, Inner.cells, Node.cells, r121_c, r121_ask, decide_true, decide_false, hn, hm, eq_true p, e, go_sem, Nat.reduceEqDiff, reduceIte, Nat.reduceAdd, Nat.reduceLeDiff, Nat.reduceLT, Nat.reduceSub]
      refine k18 _ ?_
      rw [hv]
      simp only [envL_cons, Nat.reduceEqDiff, reduceIte, List.mem_cons, List.not_mem_nil, or_false, forall_eq_or_imp, forall_eq, weak_refl, and_self]
  · by_cases q : m.kind = 1
    · have e : n ≠ m := fun h => p (h ▸ q)
      have hv : AL = false := by rw [hAL]; simp [q, e]
      simp -implicitDefEqProofs only [leafA, innerA, nodeA, patchA, Leaf.cells, Inner.cells, Node.cells, r121_c, r121_ask, decide_true, decide_false, hn, hm, p, eq_true q, e, go_sem, Nat.reduceEqDiff, reduceIte, Nat.reduceAdd, Nat.reduceLeDiff, Nat.reduceLT, Nat.reduceSub]
      refine k18 _ ?_
      rw [hv]
      simp only [envL_cons, Nat.reduceEqDiff, reduceIte, List.mem_cons, List.not_mem_nil, or_false, forall_eq_or_imp, forall_eq, weak_refl, and_self]
    · have hv : AL = true := by rw [hAL]; simp [p, q]
      simp -implicitDefEqProofs only [leafA, innerA, nodeA, patchA, Leaf.cells, Inner.cells, Node.cells, r121_c, r121_ask, decide_true, decide_false, hn, hm, p, q, go_sem, Nat.reduceEqDiff, reduceIte, Nat.reduceAdd, Nat.reduceLeDiff, Nat.reduceLT, Nat.reduceSub]
      refine k18 _ ?_
      rw [hv]
      simp only [envL_cons, Nat.reduceEqDiff, reduceIte, List.mem_cons, List.not_mem_nil, or_false, forall_eq_or_imp, forall_eq, weak_refl, and_self]
end Go.Proofs.Ytilhcglckgdbcaa.Al
