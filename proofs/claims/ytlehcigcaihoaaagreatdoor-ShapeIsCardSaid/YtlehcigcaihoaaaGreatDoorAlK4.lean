/-
  SPECS: the document's answers of layer 10: what is done to trees.
-/
import Derived.Test.YtlehcigcaihoaaaGreatDoorAlK2L
import Derived.Test.YtlehcigcaihoaaaGreatDoorAlI5
import Derived.Test.YtlehcigcaihoaaaGreatDoorAlS2B
set_option linter.unusedSimpArgs false
set_option linter.unusedVariables false
namespace Go.Proofs.YtlehcigcaihoaaaGreatDoor.Al
open Go
attribute [local go_sem] W_mv W_pick W_alloc W_box W_build W_bslice W_load W_store W_nilck W_bin W_isnil W_un W_convI W_convS W_mkiface W_mkfunc W_mkslice W_slice W_faddr W_field W_iaddr W_iaddrA W_idxA W_extract W_len W_lenS W_lenA W_min W_max W_append W_appendZ W_copy W_clear W_tassert W_invoke thenQ_normal thenQ_exit thenQ_goto thenQ_ret blockQ_normal blockQ_ret blockQ_goto blockQ_exit wpc_skip wpc_region wpc_draw wpc_seq wpc_cond wpc_block wpc_exit wpc_goto wpc_label wpc_ret wpc_loop wpc_range wpc_scope condW_true condW_false condW_dec condW_any W_nil W_call resW_some evalOp Opd.ev updo_envL updo_none setL_cons setL_nil envL_cons Option.map_some Option.bind_some evBin evInt List.map_cons List.map_nil Option.pure_def Option.bind_eq_bind W_grd' grdW_tt grdW_ff grdW_tf grdW_ft grdW_tup grdW_dt grdW_df lgrdW_tt lgrdW_ff lgrdW_tf lgrdW_ft lgrdW_tup lgrdW_dt lgrdW_df L_mv L_pick L_alloc L_box L_build L_bslice L_load L_store L_nilck L_bin L_isnil L_un L_convI L_convS L_mkiface L_mkfunc L_mkslice L_slice L_faddr L_field L_iaddr L_iaddrA L_idxA L_extract L_len L_lenS L_lenA L_min L_max L_append L_appendZ L_copy L_clear L_tassert L_nil L_call L_grd lresW_some upd_envL evUn beq_dec bne_dec leaves_ret1 leaves_end1 leaves_ret0 leaves_end0 leaves_ret2 leaves_ret3 rowLen_ints load_iptr0 not_dec heap_get0 heap_get1 heap_set0 heap_set1 heap_len1 heap_len2 heap_app heap_app2 bslice1_int seen_ints seen_one0 seen_one1 seen_one2 rowLen_own0 bslice0_int rowLen_own1 Nat.sub_zero Bool.not_true Bool.not_false List.length_nil List.length_cons List.nil_append List.cons_append Nat.zero_add load_iptrA canon_ptrI canon_bool canon_tup canon_agg canon_leafA canon_innerA canon_nodeA canon_ints' rowLen_ints0 seen_ints0 canon_ints0 rowLen_ints1 seen_ints1 canon_ints1 rowLen_ints2 seen_ints2 canon_ints2 rowLen_ints3 seen_ints3 canon_ints3 rowLen_octs seen_octs canon_octs' szOk_octs rowLen_octs0 seen_octs0 canon_octs0 rowLen_octs1 seen_octs1 canon_octs1 rowLen_octs2 seen_octs2 canon_octs2 rowLen_octs3 seen_octs3 canon_octs3 rowLen_intss seen_intss canon_intss' szOk_intss rowLen_intss0 seen_intss0 canon_intss0 rowLen_intss1 seen_intss1 canon_intss1 rowLen_intss2 seen_intss2 canon_intss2 rowLen_intss3 seen_intss3 canon_intss3 rowLen_octss seen_octss canon_octss' szOk_octss rowLen_octss0 seen_octss0 canon_octss0 rowLen_octss1 seen_octss1 canon_octss1 rowLen_octss2 seen_octss2 canon_octss2 rowLen_octss3 seen_octss3 canon_octss3 rowLen_nodes seen_nodes canon_nodes' szOk_nodes rowLen_nodes0 seen_nodes0 canon_nodes0 rowLen_nodes1 seen_nodes1 canon_nodes1 rowLen_nodes2 seen_nodes2 canon_nodes2 rowLen_nodes3 seen_nodes3 canon_nodes3 seen_list cells_int oneIn_int cells_bool oneIn_bool cells_str oneIn_str cells_list oneIn_list cells_func oneIn_func cells_nilfunc oneIn_nilfunc cells_iptr oneIn_iptr cells_iface oneIn_iface cells_nilIface oneIn_nilIface cells_own cells_ptr cells_anybool oneIn_anybool cells_agg oneIn_own0 oneIn_ptr0 seenL0 seenM0 oneIn_own1 oneIn_ptr1 seenL1 seenM1 oneIn_own2 oneIn_ptr2 seenL2 seenM2 oneIn_own3 oneIn_ptr3 seenL3 seenM3 oneIn_own4 oneIn_ptr4 seenL4 seenM4 oneIn_own5 oneIn_ptr5 seenL5 seenM5 cells_ints oneIn_ints cells_octs oneIn_octs cells_intss oneIn_intss cells_octss oneIn_octss cells_nodes oneIn_nodes ldB0 ldA0 adB0 stB0 ldB1 ldA1 adB1 stB1 ldB2 ldA2 adB2 stB2 ldB3 ldA3 adB3 stB3 ldB4 ldA4 adB4 stB4 ldB5 ldA5 adB5 stB5 List.getElem?_cons_zero List.getElem?_cons_succ beq_self_eq_true splice List.take_zero List.take_succ_cons List.drop_zero List.drop_succ_cons List.append_nil List.set_cons_zero List.set_cons_succ List.all_cons List.all_nil Bool.and_self and_self and_true true_and Nat.lt_irrefl Nat.zero_lt_one Nat.le_refl fillA evNil notA Bool.false_eq_true evMin_int evMax_int Option.map_none freezeP_all_nil freezeP_all_cons frzE_box frzE_arr frzE_dead foldA List.foldlM_cons List.foldlM_nil callW_f lcallW_f ansW_fn ansW_own lansW_fn lansW_own ansW_none lansW_none tab_cons tab_nil dI_int dB_bool dO_octs dO_ints dO_list dO_nil dOs_octss dOs_intss dOs_nil dLf_leafA dIn_innerA dN_nodeA dLf_agg dIn_agg dN_agg dNs_nodes dNs_list dNs_nil isI_int isU_int isB_bool isO_octs isO_nil isO_list isS_ints isS_nil isS_list isOs_octss isSs_intss isOs_nil isSs_nil isNs_nodes isNs_list isNs_nil isLf_leafA isIn_innerA isN_nodeA isLf_agg isIn_agg isN_agg leaf_eta inner_eta node_eta leaf_zero inner_zero node_zero dP_patchA dP_agg isP_patchA isP_agg patch_eta decide_eq_true_eq decide_eq_false_iff_not eq_self forall_const true_implies false_implies Bool.not_eq_true' Bool.not_eq_false' Bool.true_eq_false implies_true ne_eq ldI ldIA adI AV.tup.injEq AV.agg.injEq List.cons.injEq AV.int.injEq AV.bool.injEq nodes_inj octs_inj ints_inj nil_nodes nil_octs nil_ints canon_nilL decide_eq_decide two_ne four_ne b256_ne lendA_fn lendA_own lendA_none llendA_fn llendA_none plain_bool plain_int plain_tup2 isNs_own isO_own isS_own isOs_own false_and and_false Q_nil Q_l Q_g Q_h Q_grd qgrdW_b qgrdW_tup lightD_some heavyD_some readD_some fnD_some fnD_own fnD_none callL_f ownH_some callH_f litD_some litE_some Q_call Q_bslice H_call pendOk_nil pendOk_cons pastOk_nil pastOk_cons Q_mv Q_pick Q_bin Q_un Q_convI Q_mkfunc Q_extract Q_min Q_max Q_lenS Q_lenA Q_field Q_idxA Q_mkiface Q_tassert Q_alloc Q_box Q_store Q_mkslice Q_append Q_appendZ Q_copy Q_clear Q_build Q_load Q_nilck Q_isnil Q_convS Q_slice Q_faddr Q_iaddr Q_iaddrA Q_len H_alloc H_box H_bslice H_store H_mkslice H_append H_appendZ H_copy H_clear free_mv free_pick free_bin free_un free_convI free_mkfunc free_extract free_min free_max free_lenS free_lenA free_field free_idxA free_mkiface free_tassert free_build free_load free_nilck free_isnil free_convS free_slice free_faddr free_iaddr free_iaddrA free_len callW_y List.length_map List.length_set leaves_r evR_some evRess1 evRess2 evRess3 evRes_t evRes_c nz_kind nz_enc nz_cred nz_source nz_parent nz_ienc nz_hash nz_un true_or or_true bsl_node idbs_node idbs_int appN appI appO ixo_nodes canon_row canon_rowI canon_rowO not_false_eq_true not_true_eq_false ldE_a ldE_c adE_b stE_b onE_a onP_b bsl_zero idbs_zero appN_zero
attribute [local go_sem low] condW_b grdW_b lgrdW_b ldP adP stP onO onPt
attribute [local simp] envL_cons envL_nil idb_int idb_bool idb_str idb_ints idb_nil idb_own idb_ptr entB_ints' idb_octs entB_octs idb_intss entB_intss idb_octss entB_octss idb_nodes entB_nodes idb_leafA idb_innerA idb_nodeA idb_agg idb_tup idb_iptr idb_fn idb_undef entB_dead entB_box

theorem refLeafless_spec (a : List Node) (k : Nat) (ha : a.length ≤ 300) : Fun seat 302 [nodes a, .int .i64 (k : Int)] (.bool (decide (Leafless a k))) := by
  refine Fun.of0R [] told302 (by simp [il302]) (by simp [idb_patchA]) (by simp [idb_patchA]) 4 ?_
  simp -implicitDefEqProofs only [il302, List.zipIdx_cons, List.zipIdx_nil, leafA, innerA, nodeA, patchA, Leaf.cells, Inner.cells, Node.cells, decide_true, decide_false, go_sem, Nat.reduceEqDiff, reduceIte, Nat.reduceAdd, Nat.reduceLeDiff, Nat.reduceLT, Nat.reduceSub]
  refine WP.loop0 (fun j => (k ≤ j ∧ (j ≤ a.length ∨ j = k)) ∧ ∀ x (h : x < a.length), k ≤ x → x < j → a[x].kind ≠ 1) (fun j => [(0, nodes a), (5, .int .i64 (j : Nat))]) (fun j => a.length - j) k ⟨⟨Nat.le_refl _, .inr rfl⟩, fun x _ h1 h2 => by omega⟩ (fun j _ => by simp ) (by simp ) ?_
  rintro j ⟨⟨h1, h2⟩, hno⟩
  refine wpc_soundR [] ?_
  by_cases hlt : (j : Int) < (a.length : Nat)
  · have hj : j < a.length := by omega
    by_cases hk : a[j].kind = 1
    · have hn : ¬ Leafless a k := fun h => h j hj h1 hk
      simp -implicitDefEqProofs only [leafA, innerA, nodeA, patchA, Leaf.cells, Inner.cells, Node.cells, decide_true, decide_false, hlt, fun H => ix_nodes H a j hj, eq_true hk, hn, go_sem, Nat.reduceEqDiff, reduceIte, Nat.reduceAdd, Nat.reduceLeDiff, Nat.reduceLT, Nat.reduceSub]
    · simp -implicitDefEqProofs only [leafA, innerA, nodeA, patchA, Leaf.cells, Inner.cells, Node.cells, decide_true, decide_false, hlt, fun H => ix_nodes H a j hj, hk, go_sem, Nat.reduceEqDiff, reduceIte, Nat.reduceAdd, Nat.reduceLeDiff, Nat.reduceLT, Nat.reduceSub]
      refine ⟨j + 1, ⟨⟨by omega, by omega⟩, fun x hx h3 h4 => ?_⟩, by omega, by simp [wrapS (show j < 9223372036854775807 by omega)]⟩
      by_cases e : x = j
      · subst e; exact hk
      · exact hno x hx h3 (by omega)
  · have hy : Leafless a k := fun x hx h => hno x hx h (by omega)
    simp -implicitDefEqProofs only [leafA, innerA, nodeA, patchA, Leaf.cells, Inner.cells, Node.cells, decide_true, decide_false, hlt, hy, go_sem, Nat.reduceEqDiff, reduceIte, Nat.reduceAdd, Nat.reduceLeDiff, Nat.reduceLT, Nat.reduceSub]
theorem refLeaflessI_spec (a : List Node) (k : Int) (ha : a.length ≤ 300) (h0 : 0 ≤ k) : Fun seat 302 [nodes a, .int .i64 k] (.bool (decide (Leafless a k.toNat))) := by
  obtain ⟨q, rfl⟩ : ∃ q : Nat, k = q := ⟨k.toNat, by omega⟩
  exact refLeafless_spec a q ha
noncomputable def r302 : Reg seat := .of told302 (ask2 (fun a0' a1' => isNs a0' ∧ isI a1' ∧ (dNs a0').length ≤ 300 ∧ 0 ≤ (dI a1')) fun a0' a1' => .fn (.bool (decide (Leafless (dNs a0') (dI a1').toNat)))) (ask2_ok fun a0' a1' h => SaidOk.fn (Fun.weak (.cons (isNs.weak h.1) (.cons (isI.weak h.2.1) .nil)) (refLeaflessI_spec _ _ h.2.2.1 h.2.2.2)))
theorem r302_c : r302.c = 302 := rfl
open Classical in
theorem r302_ask (a0' a1' : AV) : r302.ask [a0', a1'] = if isNs a0' ∧ isI a1' ∧ (dNs a0').length ≤ 300 ∧ 0 ≤ (dI a1') then some (Said.fn (.bool (decide (Leafless (dNs a0') (dI a1').toNat)))) else none := by unfold r302 Reg.of ask2; exact ite_cl

theorem refSet_spec (t : List Node) (x : Int) (n : Node) (ht : Tree.Ok t) (hn : n.Ok) : Fun seat 291 [nodes t, .int .i64 x, nodeA n] (.tup [nodes (setT t x n).1, .int .i64 (setT t x n).2]) := by
  have hl := known_len t
  have hb0 : ∀ e : Entry, evBslice [e] 8 0 (.agg [.int .i64 0, .list true [], .list true [], .int .i64 0, .list true [], .list true [], .list true [], .list true []]) [] = some (.own 1 0 0 0, [e, .arr 8 0 []]) := fun _ => rfl
  have cl : ∀ e : Entry, ∃ v, evAppend [e, Entry.arr 8 0 []] 8 160 (.own 1 0 0 0) ((known t).map nodeA) = some (.own 1 v 0 (known t).length, [e, .arr 8 v ((known t).map nodeA)]) := by
    intro e
    obtain ⟨v, hv⟩ := encNode.app_any (H := [e, Entry.arr 8 0 (([] : List Node).map nodeA)]) (id := 1) (ver := 0) (l := []) (ys := known t) (bytes := 160) rfl (by unfold maxRow; simp; omega) (by decide)
    exact ⟨v, by simpa [encNode] using hv⟩
  obtain ⟨v, cl⟩ := cl (.box [.int .i64 n.kind, octs n.leaf.enc, octs n.leaf.cred, .int .i64 n.leaf.source, octs n.leaf.parent, octs n.inner.enc, octs n.inner.hash, ints n.inner.unmerged])
  unfold setT
  by_cases h0 : x < 0
  · rw [if_pos (.inl h0)]
    refine Fun.of0R [r137] told291 (by simp [il291]) (by simp [idb_patchA]) (by simp [idb_patchA]) 4 ?_
    simp -implicitDefEqProofs only [il291, List.zipIdx_cons, List.zipIdx_nil, leafA, innerA, nodeA, patchA, Leaf.cells, Inner.cells, Node.cells, r137_c, r137_ask, decide_true, decide_false, ht, hn, hb0, cl, h0, go_sem, Nat.reduceEqDiff, reduceIte, Nat.reduceAdd, Nat.reduceLeDiff, Nat.reduceLT, Nat.reduceSub]
    try exact ⟨rfl, rfl⟩
  by_cases h1 : x ≥ (known t).length
  · rw [if_pos (.inr h1)]
    refine Fun.of0R [r137] told291 (by simp [il291]) (by simp [idb_patchA]) (by simp [idb_patchA]) 4 ?_
    simp -implicitDefEqProofs only [il291, List.zipIdx_cons, List.zipIdx_nil, leafA, innerA, nodeA, patchA, Leaf.cells, Inner.cells, Node.cells, r137_c, r137_ask, decide_true, decide_false, ht, hn, hb0, cl, h0, h1, go_sem, Nat.reduceEqDiff, reduceIte, Nat.reduceAdd, Nat.reduceLeDiff, Nat.reduceLT, Nat.reduceSub]
    try exact ⟨rfl, rfl⟩
  rw [if_neg (by omega)]
  by_cases hc : nodeCheck n = 0
  rotate_left
  · rw [if_pos hc]
    refine Fun.of0R [r137, r153] told291 (by simp [il291]) (by simp [idb_patchA]) (by simp [idb_patchA]) 4 ?_
    simp -implicitDefEqProofs only [il291, List.zipIdx_cons, List.zipIdx_nil, leafA, innerA, nodeA, patchA, Leaf.cells, Inner.cells, Node.cells, r137_c, r137_ask, r153_c, r153_ask, decide_true, decide_false, ht, hn, hb0, cl, h0, h1, hc, not_false_eq_true, go_sem, Nat.reduceEqDiff, reduceIte, Nat.reduceAdd, Nat.reduceLeDiff, Nat.reduceLT, Nat.reduceSub]
    try exact ⟨rfl, rfl⟩
  rw [if_neg (not_not_intro hc)]
  obtain ⟨k, rfl⟩ : ∃ k : Nat, x = k := ⟨x.toNat, by omega⟩
  have hk : k < (known t).length := by omega
  by_cases hs : Stands (k : Int) n.kind
  rotate_left
  · rw [if_pos hs]
    refine Fun.of0R [r137, r153, r154] told291 (by simp [il291]) (by simp [idb_patchA]) (by simp [idb_patchA]) 4 ?_
    simp -implicitDefEqProofs only [il291, List.zipIdx_cons, List.zipIdx_nil, leafA, innerA, nodeA, patchA, Leaf.cells, Inner.cells, Node.cells, r137_c, r137_ask, r153_c, r153_ask, r154_c, r154_ask, decide_true, decide_false, ht, hn, hb0, cl, h0, h1, hc, hs, not_true_eq_false, not_false_eq_true, go_sem, Nat.reduceEqDiff, reduceIte, Nat.reduceAdd, Nat.reduceLeDiff, Nat.reduceLT, Nat.reduceSub]
    try exact ⟨rfl, rfl⟩
  · rw [if_neg (not_not_intro hs)]
    refine Fun.of0R [r137, r153, r154] told291 (by simp [il291]) (by simp [idb_patchA]) (by simp [idb_patchA]) 4 ?_
    simp -implicitDefEqProofs only [il291, List.zipIdx_cons, List.zipIdx_nil, leafA, innerA, nodeA, patchA, Leaf.cells, Inner.cells, Node.cells, r137_c, r137_ask, r153_c, r153_ask, r154_c, r154_ask, decide_true, decide_false, ht, hn, hb0, cl, h0, h1, hc, hs, not_true_eq_false, ixo_nodes, hk, fun H h => st_rowA (H := H) (id := 1) (ver := v) (l := known t) n h hk, go_sem, Nat.reduceEqDiff, reduceIte, Nat.reduceAdd, Nat.reduceLeDiff, Nat.reduceLT, Nat.reduceSub]
    rw [canon_rowL (l := (known t).set k n) rfl (by simp)]
    try rfl
noncomputable def r291 : Reg seat := .of told291 (ask3 (fun a0' a1' a2' => isNs a0' ∧ isI a1' ∧ isN a2' ∧ Tree.Ok (dNs a0') ∧ (dN a2').Ok) fun a0' a1' a2' => .fn (.tup [nodes (setT (dNs a0') (dI a1') (dN a2')).1, .int .i64 (setT (dNs a0') (dI a1') (dN a2')).2])) (ask3_ok fun a0' a1' a2' h => SaidOk.fn (Fun.weak (.cons (isNs.weak h.1) (.cons (isI.weak h.2.1) (.cons (isN.weak h.2.2.1) .nil))) (refSet_spec _ _ _ h.2.2.2.1 h.2.2.2.2)))
theorem r291_c : r291.c = 291 := rfl
open Classical in
theorem r291_ask (a0' a1' a2' : AV) : r291.ask [a0', a1', a2'] = if isNs a0' ∧ isI a1' ∧ isN a2' ∧ Tree.Ok (dNs a0') ∧ (dN a2').Ok then some (Said.fn (.tup [nodes (setT (dNs a0') (dI a1') (dN a2')).1, .int .i64 (setT (dNs a0') (dI a1') (dN a2')).2])) else none := by unfold r291 Reg.of ask3; exact ite_cl

set_option maxRecDepth 100000 in
set_option maxHeartbeats 2000000 in
theorem refClear_spec (t : List Node) (i : Int) (ht : Tree.Ok t) : Fun seat 292 [nodes t, .int .i64 i] (.tup [nodes (clearT t i).1, .int .i64 (clearT t i).2]) := by
  have hl := known_len t
  have ok := known_ok ht
  have hb0 : evBslice ([] : List Entry) 8 0 (.agg [.int .i64 0, .list true [], .list true [], .int .i64 0, .list true [], .list true [], .list true [], .list true []]) [] = some (.own 0 0 0 0, [.arr 8 0 []]) := rfl
  have cl : ∃ v, evAppend [Entry.arr 8 0 []] 8 160 (.own 0 0 0 0) ((known t).map nodeA) = some (.own 0 v 0 (known t).length, [.arr 8 v ((known t).map nodeA)]) := by
    obtain ⟨v, hv⟩ := encNode.app_any (H := [Entry.arr 8 0 (([] : List Node).map nodeA)]) (id := 0) (ver := 0) (l := []) (ys := known t) (bytes := 160) rfl (by unfold maxRow; simp; omega) (by decide)
    exact ⟨v, by simpa [encNode] using hv⟩
  obtain ⟨v, cl⟩ := cl
  unfold clearT
  by_cases h0 : i < 0
  · rw [if_pos (.inl h0)]
    refine Fun.of0R [r137] told292 (by simp [il292]) (by simp [idb_patchA]) (by simp [idb_patchA]) 4 ?_
    simp -implicitDefEqProofs only [il292, List.zipIdx_cons, List.zipIdx_nil, leafA, innerA, nodeA, patchA, Leaf.cells, Inner.cells, Node.cells, r137_c, r137_ask, decide_true, decide_false, ht, hb0, cl, h0, go_sem, Nat.reduceEqDiff, reduceIte, Nat.reduceAdd, Nat.reduceLeDiff, Nat.reduceLT, Nat.reduceSub]
    try exact ⟨rfl, rfl⟩
  by_cases h1 : i ≥ leaves_ t
  · rw [if_pos (.inr h1)]
    refine Fun.of0R [r137, r295] told292 (by simp [il292]) (by simp [idb_patchA]) (by simp [idb_patchA]) 4 ?_
    simp -implicitDefEqProofs only [il292, List.zipIdx_cons, List.zipIdx_nil, leafA, innerA, nodeA, patchA, Leaf.cells, Inner.cells, Node.cells, r137_c, r137_ask, r295_c, r295_ask, decide_true, decide_false, ht, hb0, cl, h0, h1, go_sem, Nat.reduceEqDiff, reduceIte, Nat.reduceAdd, Nat.reduceLeDiff, Nat.reduceLT, Nat.reduceSub]
    try exact ⟨rfl, rfl⟩
  rw [if_neg (by omega)]
  obtain ⟨a, ha⟩ : ∃ a, known t = a := ⟨_, rfl⟩
  have hsn := known_sane t
  have lv : leaves_ t = (a.length + 1) / 2 := by unfold leaves_; rw [ha]
  rw [ha] at hl ok hsn cl ⊢
  have hne : ¬ a.length = 0 := by omega
  have hw : Whole a.length := hsn.2.resolve_left hne
  have hodd : (a.length : Int) % 2 = 1 := by unfold Whole at hw; omega
  have hN : IsN (2 * i) a.length := ⟨hw, by omega, by omega⟩
  have w1 : IntKind.i64.wrap (2 * i) = 2 * i := wrap64 _ (by omega) (by omega)
  have hdl := dir_len (2 * i) a.length
  obtain ⟨D, hD⟩ : ∃ D, directI (2 * i) a.length = D := ⟨_, rfl⟩
  have hDi : ∀ p ∈ D, IsN p a.length := by
    intro p hp
    rw [← hD] at hp
    exact ups_is (List.mem_of_mem_tail hp)
  have eZ : zeroAt a (directI (2 * i) a.length ++ [2 * i]) = zeroAt a (2 * i :: D) := by
    rw [hD]
    refine list_ext (by rw [zeroAt_len, zeroAt_len]) fun x hx => ?_
    rw [zeroAt_len] at hx
    rw [zeroAt_get _ _ _ hx (fun p hp => ?_), zeroAt_get _ _ _ hx (fun p hp => ?_)]
    · simp only [List.mem_append, List.mem_cons, List.not_mem_nil, or_false, or_comm, false_or]
    · rcases List.mem_cons.1 hp with h | h
      · omega
      · exact (hDi _ h).2.1
    · rcases List.mem_append.1 hp with h | h
      · exact (hDi _ h).2.1
      · rw [List.mem_singleton.1 h]; omega
  rw [eZ]
  rw [hD] at hdl
  obtain ⟨q, hq⟩ : ∃ q : Nat, 2 * i = q := ⟨(2 * i).toNat, by omega⟩
  have hqa : q < a.length := by have := hN.2; omega
  have r0 : a.map nodeA = rowZ (a.map nodeA) [] := rfl
  have ix0 : ∀ e : List Entry, evIndex (.arr 8 v (a.map nodeA) :: e) 8 (.own 0 v 0 a.length) (.int .i64 (q : Int)) = some (.eptr 0 v q 0) := fun _ => ix_rowZ rfl (by simpa using hqa) (by simp)
  have st0 : evStore [.arr 8 v (a.map nodeA)] 8 (.eptr 0 v q 0) (.agg [.int .i64 0, .list true [], .list true [], .int .i64 0, .list true [], .list true [], .list true [], .list true []]) =
      some [.arr 8 v (rowZ (a.map nodeA) [(q : Int)])] := by
    have := st_rowZ (H := [.arr 8 v (rowZ (a.map nodeA) [])]) (id := 0) (ver := v) (p := q) rfl hqa
    exact this
  refine Fun.of0W told292 (by simp [il292]) (by simp ) (by simp ) 4 ?_
  simp only [il292, List.zipIdx_cons, List.zipIdx_nil, Nat.zero_add]
  refine WP.seqR [] fun K hK => ?_
  simp -implicitDefEqProofs only [leafA, innerA, nodeA, patchA, Leaf.cells, Inner.cells, Node.cells, decide_true, decide_false, go_sem, Nat.reduceEqDiff, reduceIte, Nat.reduceAdd, Nat.reduceLeDiff, Nat.reduceLT, Nat.reduceSub]
  refine hK _ ?_
  clear hK K
  refine WP.seqR [r137] fun K hK => ?_
  simp -implicitDefEqProofs only [leafA, innerA, nodeA, patchA, Leaf.cells, Inner.cells, Node.cells, r137_c, r137_ask, decide_true, decide_false, ht, ha, hb0, cl, go_sem, Nat.reduceEqDiff, reduceIte, Nat.reduceAdd, Nat.reduceLeDiff, Nat.reduceLT, Nat.reduceSub]
  refine hK _ ?_
  clear hK K
  refine WP.seqR [r295] fun K hK => ?_
  simp -implicitDefEqProofs only [leafA, innerA, nodeA, patchA, Leaf.cells, Inner.cells, Node.cells, r295_c, r295_ask, decide_true, decide_false, ht, h0, h1, go_sem, Nat.reduceEqDiff, reduceIte, Nat.reduceAdd, Nat.reduceLeDiff, Nat.reduceLT, Nat.reduceSub]
  refine hK _ ?_
  clear hK K
  rw [hq] at w1 hN hD ⊢
  refine WP.seqR [] fun K hK => ?_
  simp -implicitDefEqProofs only [leafA, innerA, nodeA, patchA, Leaf.cells, Inner.cells, Node.cells, decide_true, decide_false, hq, w1, ix0, st0, go_sem, Nat.reduceEqDiff, reduceIte, Nat.reduceAdd, Nat.reduceLeDiff, Nat.reduceLT, Nat.reduceSub]
  refine hK _ ?_
  clear hK K
  refine WP.seqR [r301] fun K hK => ?_
  have rl : rowLen [.arr 8 v (rowZ (a.map nodeA) [(q : Int)])] (.own 0 v 0 a.length) = some a.length := by simp [rowLen, AV.oneIn, rowZ_len]
  simp -implicitDefEqProofs only [leafA, innerA, nodeA, patchA, Leaf.cells, Inner.cells, Node.cells, r301_c, r301_ask, decide_true, decide_false, hq, w1, hD, rl, Option.bind_some, go_sem, Nat.reduceEqDiff, reduceIte, Nat.reduceAdd, Nat.reduceLeDiff, Nat.reduceLT, Nat.reduceSub]
  refine hK _ ?_
  clear hK K
  refine WP.weakL [(6, .own 0 v 0 a.length), (7, ints D)] ?_ ?_
  · simp only [envL_cons, Nat.reduceEqDiff, reduceIte, List.mem_cons, List.not_mem_nil, or_false, forall_eq_or_imp, forall_eq, weak_refl, and_self]
  refine wpc_soundR [] ?_
  simp -implicitDefEqProofs only [leafA, innerA, nodeA, patchA, Leaf.cells, Inner.cells, Node.cells, decide_true, decide_false, go_sem, Nat.reduceEqDiff, reduceIte, Nat.reduceAdd, Nat.reduceLeDiff, Nat.reduceLT, Nat.reduceSub]
  refine WP.loopG (fun k => k ≤ D.length) (fun k => [(6, .own 0 v 0 a.length), (7, ints D), (8, .int .i64 (k : Nat))]) (fun k => [.arr 8 v (rowZ (a.map nodeA) ((q : Int) :: D.take k))]) (fun k => D.length - k) 0 (Nat.zero_le _)
    (fun k _ => ⟨by simp, by simp , fun e he => by
      simp only [List.mem_cons, List.not_mem_nil, or_false] at he
      subst he
      exact (entB_rowZ _ a _ : EntB _ (.arr 8 0 _))⟩) (by simp [rowZ]) ?_
  intro k hk
  refine wpc_soundR [] ?_
  by_cases hlt : (k : Int) < (D.length : Nat)
  · have hk' : k < D.length := by omega
    have hN' := hDi _ (List.getElem_mem hk')
    obtain ⟨p, hp⟩ : ∃ p : Nat, D[k] = p := ⟨D[k].toNat, by have := hN'.2; omega⟩
    rw [hp] at hN'
    have hpa : p < a.length := by have := hN'.2; omega
    have ixp : ∀ e : List Entry, evIndex (.arr 8 v (rowZ (a.map nodeA) ((q : Int) :: D.take k)) :: e) 8 (.own 0 v 0 a.length) (.int .i64 (p : Int)) = some (.eptr 0 v p 0) := fun _ => ix_rowZ rfl (by rw [rowZ_len]; simpa using hpa) (by rw [rowZ_len]; simp)
    have stp : evStore [.arr 8 v (rowZ (a.map nodeA) ((q : Int) :: D.take k))] 8 (.eptr 0 v p 0) (.agg [.int .i64 0, .list true [], .list true [], .int .i64 0, .list true [], .list true [], .list true [], .list true []]) =
        some [.arr 8 v (rowZ (a.map nodeA) ((q : Int) :: D.take (k + 1)))] := by
      have := st_rowZ (H := [.arr 8 v (rowZ (a.map nodeA) ((q : Int) :: D.take k))]) (id := 0) (ver := v) (p := p) rfl hpa
      have e := rowZ_snoc (a.map nodeA) ((q : Int) :: D) (k := k + 1) (by simp; omega)
      simp only [List.take_succ_cons, List.getElem_cons_succ, hp, Int.toNat_natCast] at e
      rw [e]
      exact this
    simp -implicitDefEqProofs only [leafA, innerA, nodeA, patchA, Leaf.cells, Inner.cells, Node.cells, decide_true, decide_false, hlt, fun H => index_ints H D k hk', hp, ixp, stp, go_sem, Nat.reduceEqDiff, reduceIte, Nat.reduceAdd, Nat.reduceLeDiff, Nat.reduceLT, Nat.reduceSub]
    exact ⟨k + 1, hk', by omega, by simp [wrapS (show k < 9223372036854775807 by omega)]⟩
  · have e : k = D.length := by omega
    subst e
    rw [List.take_length]
    simp -implicitDefEqProofs only [leafA, innerA, nodeA, patchA, Leaf.cells, Inner.cells, Node.cells, decide_true, decide_false, hlt, go_sem, Nat.reduceEqDiff, reduceIte, Nat.reduceAdd, Nat.reduceLeDiff, Nat.reduceLT, Nat.reduceSub]
    exact canon_rowZ rfl rfl
noncomputable def r292 : Reg seat := .of told292 (ask2 (fun a0' a1' => isNs a0' ∧ isI a1' ∧ Tree.Ok (dNs a0')) fun a0' a1' => .fn (.tup [nodes (clearT (dNs a0') (dI a1')).1, .int .i64 (clearT (dNs a0') (dI a1')).2])) (ask2_ok fun a0' a1' h => SaidOk.fn (Fun.weak (.cons (isNs.weak h.1) (.cons (isI.weak h.2.1) .nil)) (refClear_spec _ _ h.2.2)))
theorem r292_c : r292.c = 292 := rfl
open Classical in
theorem r292_ask (a0' a1' : AV) : r292.ask [a0', a1'] = if isNs a0' ∧ isI a1' ∧ Tree.Ok (dNs a0') then some (Said.fn (.tup [nodes (clearT (dNs a0') (dI a1')).1, .int .i64 (clearT (dNs a0') (dI a1')).2])) else none := by unfold r292 Reg.of ask2; exact ite_cl

theorem appZ1 (ver : Nat) (l : List Node) (k : Nat) (h : l.length + k + 1 ≤ 4294967296) : evAppend [.arr 8 ver (l.map nodeA ++ List.replicate k zeroA)] 8 160 (.own 0 ver 0 (l.length + k)) [.agg [.int .i64 0, .list true [], .list true [], .int .i64 0, .list true [], .list true [], .list true [], .list true []]] =
    some (.own 0 (ver + 1) 0 (l.length + k + 1), [.arr 8 (ver + 1) (l.map nodeA ++ List.replicate (k + 1) zeroA)]) := by
  have h1 : szOk [.arr 8 ver (l.map nodeA ++ List.replicate k zeroA)] 8 [zeroA] = true := rfl
  show evAppend _ _ _ _ [zeroA] = _
  have e : List.take (l.length + k) (l.map nodeA ++ List.replicate k zeroA) = l.map nodeA ++ List.replicate k zeroA := List.take_of_length_le (by simp)
  simp only [evAppend, h1, e, maxRow, List.length_append, List.length_map, List.length_replicate, List.length_cons, List.length_nil, reduceCtorEq, if_false, List.getElem?_cons_zero, show 160 ≤ 4096 by decide, show 0 < 8 by decide, Nat.le_refl, and_self, if_true, Nat.zero_add, h, List.set_cons_zero, List.append_assoc, List.replicate_succ']
theorem canonZv (ver : Nat) (l : List Node) (n : Nat) : canon [.arr 8 ver (l.map nodeA ++ List.replicate n zeroA)] 3 (.own 0 ver 0 (l.length + n)) = nodes (l ++ List.replicate n .zero) := by
  have h : ∀ x : Node, derefN (freezeP all [.arr 8 ver (l.map nodeA ++ List.replicate n zeroA)]) 2 (nodeA x) = nodeA x := fun x => encNode.norm _ _ x
  have h2 : derefN (freezeP all [.arr 8 ver (l.map nodeA ++ List.replicate n zeroA)]) 2 zeroA = nodeA .zero := zeroA_norm _ 0
  rw [canon, derefN]
  simp only [freezeP_all_cons, freezeP_all_nil, frzE_arr, List.getElem?_cons_zero] at h h2 ⊢
  simp only [List.length_append, List.length_map, List.length_replicate, Nat.le_refl, and_self, if_true, List.drop_zero]
  rw [List.take_of_length_le (by simp), List.map_append, List.map_map, List.map_replicate, h2, nodes, List.map_append, List.map_replicate]
  congr 2
  exact List.map_congr_left fun x _ => h x

theorem entB_Z (n ver : Nat) (l : List Node) (k : Nat) : EntB n (.arr 8 ver (l.map nodeA ++ List.replicate k zeroA)) := by
  intro x hx y hy
  rcases List.mem_append.1 hx with h | h
  · exact encNode.entB n 0 8 l x h y hy
  · rw [(List.mem_replicate.1 h).2] at hy
    simp only [zeroA, AV.cells, List.mem_cons, List.not_mem_nil, or_false] at hy
    rcases hy with rfl | rfl | rfl | rfl | rfl | rfl | rfl | rfl <;> simp 
theorem refGrow_spec (t : List Node) (ht : Tree.Ok t) : Fun seat 293 [nodes t] (.tup [nodes (growT t).1, .int .i64 (growT t).2]) := by
  have hl := known_len t
  have ok := known_ok ht
  have hsn := known_sane t
  have lk : leaves_ (known t) = ((known t).length + 1) / 2 := by unfold leaves_; rw [known_known]
  have hb0 : evBslice ([] : List Entry) 8 0 (.agg [.int .i64 0, .list true [], .list true [], .int .i64 0, .list true [], .list true [], .list true [], .list true []]) [] = some (.own 0 0 0 0, [.arr 8 0 []]) := rfl
  have cl : ∃ v, evAppend [Entry.arr 8 0 []] 8 160 (.own 0 0 0 0) ((known t).map nodeA) = some (.own 0 v 0 (known t).length, [.arr 8 v ((known t).map nodeA)]) := by
    obtain ⟨v, hv⟩ := encNode.app_any (H := [Entry.arr 8 0 (([] : List Node).map nodeA)]) (id := 0) (ver := 0) (l := []) (ys := known t) (bytes := 160) rfl (by unfold maxRow; simp; omega) (by decide)
    exact ⟨v, by simpa [encNode] using hv⟩
  obtain ⟨v, cl⟩ := cl
  have heq : (leaves_ (known t) = 64) ↔ (known t).length = 127 := by
    have : (known t).length = 0 ∨ Whole (known t).length := hsn.2
    rw [lk]
    rcases this with h | h
    · omega
    · have := h.odd; omega
  unfold growT
  by_cases hf : (known t).length = 127
  · rw [if_pos hf]
    have h64 := eq_true (heq.2 hf)
    refine Fun.of0R [r137, r295] told293 (by simp [il293]) (by simp [idb_patchA]) (by simp [idb_patchA]) 4 ?_
    simp -implicitDefEqProofs only [il293, List.zipIdx_cons, List.zipIdx_nil, leafA, innerA, nodeA, patchA, Leaf.cells, Inner.cells, Node.cells, r137_c, r137_ask, r295_c, r295_ask, decide_true, decide_false, ht, ok, h64, go_sem, Nat.reduceEqDiff, reduceIte, Nat.reduceAdd, Nat.reduceLeDiff, Nat.reduceLT, Nat.reduceSub]
    try exact ⟨rfl, rfl⟩
  rw [if_neg hf]
  have h64 : ¬ leaves_ (known t) = 64 := fun h => hf (heq.1 h)
  have w1 : IntKind.i64.wrap (((known t).length : Int) + 1) = (((known t).length + 1 : Nat) : Int) := by rw [wrap64 _ (by omega) (by omega)]; omega
  obtain ⟨a, ha⟩ : ∃ a, known t = a := ⟨_, rfl⟩
  rw [ha] at hl ok cl h64 w1 ⊢
  refine Fun.of0R [r137, r295] told293 (by simp [il293]) (by simp [idb_patchA]) (by simp [idb_patchA]) 4 ?_
  simp -implicitDefEqProofs only [il293, List.zipIdx_cons, List.zipIdx_nil, leafA, innerA, nodeA, patchA, Leaf.cells, Inner.cells, Node.cells, r137_c, r137_ask, r295_c, r295_ask, decide_true, decide_false, ht, ha, ok, h64, hb0, cl, go_sem, Nat.reduceEqDiff, reduceIte, Nat.reduceAdd, Nat.reduceLeDiff, Nat.reduceLT, Nat.reduceSub]
  refine WP.loopG (fun k => k ≤ a.length + 1) (fun k => [(4, nodes a), (5, .own 0 (v + k) 0 (a.length + k)), (6, .int .i64 (k : Nat))]) (fun k => [.arr 8 (v + k) (a.map nodeA ++ List.replicate k zeroA)]) (fun k => a.length + 1 - k) 0 (Nat.zero_le _)
    (fun k _ => ⟨by simp, by simp , fun e he => by simp only [List.mem_cons, List.not_mem_nil, or_false] at he; subst he; exact entB_Z _ _ _ _⟩) (by simp ) ?_
  intro k hk
  by_cases hlt : (k : Int) < ((a.length + 1 : Nat) : Int)
  · have hk' : k < a.length + 1 := by omega
    have ap := appZ1 (v + k) a k (by omega)
    refine WP.seqR [] fun K hK => ?_
    simp -implicitDefEqProofs only [leafA, innerA, nodeA, patchA, Leaf.cells, Inner.cells, Node.cells, decide_true, decide_false, w1, hlt, go_sem, Nat.reduceEqDiff, reduceIte, Nat.reduceAdd, Nat.reduceLeDiff, Nat.reduceLT, Nat.reduceSub]
    refine hK _ ?_
    clear hK K
    refine WP.seqV fun K hK => ?_
    refine WP.block (WP.regionAt [] 2 ?_)
    simp only [List.take_succ_cons, List.take_zero, List.drop_succ_cons, List.drop_zero]
    simp -implicitDefEqProofs only [leafA, innerA, nodeA, patchA, Leaf.cells, Inner.cells, Node.cells, decide_true, decide_false, go_sem, Nat.reduceEqDiff, reduceIte, Nat.reduceAdd, Nat.reduceLeDiff, Nat.reduceLT, Nat.reduceSub]
    refine SRun.lit (sz := 8) (xs := [zeroA]) rfl rfl (by simp [zeroA, AV.cells]) ?_
    unfold zeroA at ap
    refine runW_sound (T := []) ?_
    simp -implicitDefEqProofs only [leafA, innerA, nodeA, patchA, Leaf.cells, Inner.cells, Node.cells, decide_true, decide_false, zeroA, ap, go_sem, Nat.reduceEqDiff, reduceIte, Nat.reduceAdd, Nat.reduceLeDiff, Nat.reduceLT, Nat.reduceSub]
    refine hK _ (wpc_soundR [] ?_)
    simp -implicitDefEqProofs only [leafA, innerA, nodeA, patchA, Leaf.cells, Inner.cells, Node.cells, decide_true, decide_false, wrapS (show k < 9223372036854775807 by omega), go_sem, Nat.reduceEqDiff, reduceIte, Nat.reduceAdd, Nat.reduceLeDiff, Nat.reduceLT, Nat.reduceSub]
    exact ⟨k + 1, hk', by omega, by simp [Nat.add_assoc], by simp [Nat.add_assoc, zeroA]⟩
  · have e : k = a.length + 1 := by omega
    subst e
    refine wpc_soundR [] ?_
    simp -implicitDefEqProofs only [leafA, innerA, nodeA, patchA, Leaf.cells, Inner.cells, Node.cells, decide_true, decide_false, w1, hlt, go_sem, Nat.reduceEqDiff, reduceIte, Nat.reduceAdd, Nat.reduceLeDiff, Nat.reduceLT, Nat.reduceSub]
    try rw [canonZv]
    try rfl
noncomputable def r293 : Reg seat := .of told293 (ask1 (fun a0' => isNs a0' ∧ Tree.Ok (dNs a0')) fun a0' => .fn (.tup [nodes (growT (dNs a0')).1, .int .i64 (growT (dNs a0')).2])) (ask1_ok fun a0' h => SaidOk.fn (Fun.weak (.cons (isNs.weak h.1) .nil) (refGrow_spec _ h.2)))
theorem r293_c : r293.c = 293 := rfl
open Classical in
theorem r293_ask (a0' : AV) : r293.ask [a0'] = if isNs a0' ∧ Tree.Ok (dNs a0') then some (Said.fn (.tup [nodes (growT (dNs a0')).1, .int .i64 (growT (dNs a0')).2])) else none := by unfold r293 Reg.of ask1; exact ite_cl

theorem refTrim_spec (t : List Node) (ht : Tree.Ok t) : Fun seat 294 [nodes t] (nodes (trimT t)) := by
  have hl := known_len t
  have hk0 := known_ok ht
  unfold trimT
  obtain ⟨a0, ha⟩ : ∃ a, known t = a := ⟨_, rfl⟩
  rw [ha] at hl hk0 ⊢
  refine Fun.of0R [r137] told294 (by simp [il294]) (by simp [idb_patchA]) (by simp [idb_patchA]) 4 ?_
  simp -implicitDefEqProofs only [il294, List.zipIdx_cons, List.zipIdx_nil, leafA, innerA, nodeA, patchA, Leaf.cells, Inner.cells, Node.cells, r137_c, r137_ask, decide_true, decide_false, ht, ha, go_sem, Nat.reduceEqDiff, reduceIte, Nat.reduceAdd, Nat.reduceLeDiff, Nat.reduceLT, Nat.reduceSub]
  refine WP.loop0 (fun a : List Node => a.length ≤ 127 ∧ trimL a0 = trimL a) (fun a => [(3, nodes a)]) (fun a => a.length) a0 ⟨hl, rfl⟩ (fun a _ => by simp ) (by simp ) ?_
  rintro a ⟨hal, hat⟩
  refine wpc_soundR [r302] ?_
  have tn : ((a.length : Int) / 2).toNat = a.length / 2 := by omega
  have sT : ∀ H, evSlice H 8 (nodes a) none (some (.int .i64 ((a.length : Int) / 2))) none = some (nodes (a.take (a.length / 2))) := fun H => by
    have := sliceT_nodes H a ((a.length : Int) / 2) (by omega) (by omega)
    rwa [tn] at this
  have q2 := quo2 a.length (by omega)
  have la : a.length ≤ 300 := by omega
  have l0 : (0 : Int) ≤ (a.length : Int) / 2 := by omega
  by_cases h1 : (a.length : Int) > 1
  · by_cases hL : Leafless a (a.length / 2)
    · simp -implicitDefEqProofs only [leafA, innerA, nodeA, patchA, Leaf.cells, Inner.cells, Node.cells, r302_c, r302_ask, decide_true, decide_false, h1, q2, la, l0, tn, hL, sT, go_sem, Nat.reduceEqDiff, reduceIte, Nat.reduceAdd, Nat.reduceLeDiff, Nat.reduceLT, Nat.reduceSub]
      exact ⟨a.take (a.length / 2), ⟨by rw [List.length_take]; omega, by rw [hat, trimL_step (by omega) hL]⟩, by rw [List.length_take]; omega, by simp ⟩
    · have e : trimL a0 = a := by rw [hat, trimL_end fun h => hL h.2]
      have h2 : ¬ (a.length : Int) = 1 := by omega
      have h3 : ¬ (a.length = 1 ∧ (nodeAt a 0).kind = 0) := by omega
      rw [e, if_neg h3]
      simp -implicitDefEqProofs only [leafA, innerA, nodeA, patchA, Leaf.cells, Inner.cells, Node.cells, r302_c, r302_ask, decide_true, decide_false, h1, q2, la, l0, tn, hL, h2, go_sem, Nat.reduceEqDiff, reduceIte, Nat.reduceAdd, Nat.reduceLeDiff, Nat.reduceLT, Nat.reduceSub]
  · have e : trimL a0 = a := by rw [hat, trimL_end fun h => by omega]
    rw [e]
    by_cases h2 : (a.length : Int) = 1
    · have e0 : nodeAt a 0 = a[0] := nodeAt_lt (by omega)
      have i0 : ∀ H, evIndex H 8 (nodes a) (.int .i64 0) = _ := fun H => ix_nodes H a 0 (by omega)
      have a1 : a.length = 1 := by omega
      have h2' : ((a.length : Int) = 1) = True := eq_true h2
      by_cases hk : a[0].kind = 0
      · rw [if_pos ⟨a1, by rw [e0]; exact hk⟩]
        simp -implicitDefEqProofs only [leafA, innerA, nodeA, patchA, Leaf.cells, Inner.cells, Node.cells, r302_c, r302_ask, decide_true, decide_false, h1, h2', i0, eq_true hk, go_sem, Nat.reduceEqDiff, reduceIte, Nat.reduceAdd, Nat.reduceLeDiff, Nat.reduceLT, Nat.reduceSub]
        try rfl
      · rw [if_neg (by rw [e0]; exact fun h => hk h.2)]
        simp -implicitDefEqProofs only [leafA, innerA, nodeA, patchA, Leaf.cells, Inner.cells, Node.cells, r302_c, r302_ask, decide_true, decide_false, h1, h2', i0, hk, go_sem, Nat.reduceEqDiff, reduceIte, Nat.reduceAdd, Nat.reduceLeDiff, Nat.reduceLT, Nat.reduceSub]
    · have h3 : ¬ (a.length = 1 ∧ (nodeAt a 0).kind = 0) := by omega
      rw [if_neg h3]
      simp -implicitDefEqProofs only [leafA, innerA, nodeA, patchA, Leaf.cells, Inner.cells, Node.cells, r302_c, r302_ask, decide_true, decide_false, h1, h2, go_sem, Nat.reduceEqDiff, reduceIte, Nat.reduceAdd, Nat.reduceLeDiff, Nat.reduceLT, Nat.reduceSub]
noncomputable def r294 : Reg seat := .of told294 (ask1 (fun a0' => isNs a0' ∧ Tree.Ok (dNs a0')) fun a0' => .fn (nodes (trimT (dNs a0')))) (ask1_ok fun a0' h => SaidOk.fn (Fun.weak (.cons (isNs.weak h.1) .nil) (refTrim_spec _ h.2)))
theorem r294_c : r294.c = 294 := rfl
open Classical in
theorem r294_ask (a0' : AV) : r294.ask [a0'] = if isNs a0' ∧ Tree.Ok (dNs a0') then some (Said.fn (nodes (trimT (dNs a0')))) else none := by unfold r294 Reg.of ask1; exact ite_cl

theorem refFree_spec (t : List Node) (ht : Tree.Ok t) : Fun seat 296 [nodes t] (.int .i64 (freeT t)) := by
  have hl := known_len t
  have c0 : firstN (blankEven (known t)) (known t).length = none → freeT t = -1 := fun h => by rw [freeT, h]
  have c1 : ∀ k : Nat, firstN (blankEven (known t)) (known t).length = some k → freeT t = (k / 2 : Nat) := fun k h => by rw [freeT, h]
  obtain ⟨a, ha⟩ : ∃ a, known t = a := ⟨_, rfl⟩
  rw [ha] at hl c0 c1
  obtain ⟨r, hr⟩ : ∃ r, freeT t = r := ⟨_, rfl⟩
  rw [hr] at c0 c1 ⊢
  refine Fun.of0R [r137] told296 (by simp [il296]) (by simp [idb_patchA]) (by simp [idb_patchA]) 4 ?_
  simp -implicitDefEqProofs only [il296, List.zipIdx_cons, List.zipIdx_nil, leafA, innerA, nodeA, patchA, Leaf.cells, Inner.cells, Node.cells, r137_c, r137_ask, decide_true, decide_false, ht, ha, go_sem, Nat.reduceEqDiff, reduceIte, Nat.reduceAdd, Nat.reduceLeDiff, Nat.reduceLT, Nat.reduceSub]
  refine WP.loop0 (fun j => j ≤ a.length ∧ ∀ x, x < 2 * j → x < a.length → blankEven a x = false) (fun j => [(3, nodes a), (4, .int .i64 ((2 * j : Nat) : Int))]) (fun j => a.length - j) 0 ⟨Nat.zero_le _, fun x h => by omega⟩ (fun j _ => by simp ) (by simp ) ?_
  rintro j ⟨hj, hno⟩
  refine wpc_soundR [] ?_
  by_cases hlt : ((2 * j : Nat) : Int) < (a.length : Nat)
  · have hk' : 2 * j < a.length := by omega
    have w2 : IntKind.i64.wrap (((2 * j : Nat) : Int) + 2) = ((2 * (j + 1) : Nat) : Int) := by rw [wrap64 _ (by omega) (by omega)]; omega
    have q2 := quo2 ((2 * j : Nat) : Int) (by omega)
    have e := nodeAt_lt hk'
    by_cases hk : a[2 * j].kind = 0
    · have hz : r = ((2 * j / 2 : Nat) : Int) := c1 _ (firstN_some hk' (by rw [blankEven, e]; simp [hk]) fun x hx => hno x hx (by omega))
      have hz : r = ((2 * j : Nat) : Int) / 2 := by rw [hz]; omega
      rw [hz]
      simp -implicitDefEqProofs only [leafA, innerA, nodeA, patchA, Leaf.cells, Inner.cells, Node.cells, decide_true, decide_false, hlt, fun H => ix_nodes H a (2 * j) hk', eq_true hk, q2, go_sem, Nat.reduceEqDiff, reduceIte, Nat.reduceAdd, Nat.reduceLeDiff, Nat.reduceLT, Nat.reduceSub]
    · simp -implicitDefEqProofs only [leafA, innerA, nodeA, patchA, Leaf.cells, Inner.cells, Node.cells, decide_true, decide_false, hlt, fun H => ix_nodes H a (2 * j) hk', hk, w2, go_sem, Nat.reduceEqDiff, reduceIte, Nat.reduceAdd, Nat.reduceLeDiff, Nat.reduceLT, Nat.reduceSub]
      refine ⟨j + 1, ⟨by omega, fun x hx hxa => ?_⟩, by omega, by simp ⟩
      rcases (by omega : x < 2 * j ∨ x = 2 * j ∨ x = 2 * j + 1) with h | h | h
      · exact hno x h hxa
      · subst h; rw [blankEven, e]; simp [hk]
      · subst h; rw [blankEven]; simp
  · have := c0 (firstN_none fun x hx => hno x (by omega) hx)
    subst this
    simp -implicitDefEqProofs only [leafA, innerA, nodeA, patchA, Leaf.cells, Inner.cells, Node.cells, decide_true, decide_false, hlt, go_sem, Nat.reduceEqDiff, reduceIte, Nat.reduceAdd, Nat.reduceLeDiff, Nat.reduceLT, Nat.reduceSub]
noncomputable def r296 : Reg seat := .of told296 (ask1 (fun a0' => isNs a0' ∧ Tree.Ok (dNs a0')) fun a0' => .fn (.int .i64 (freeT (dNs a0')))) (ask1_ok fun a0' h => SaidOk.fn (Fun.weak (.cons (isNs.weak h.1) .nil) (refFree_spec _ h.2)))
theorem r296_c : r296.c = 296 := rfl
open Classical in
theorem r296_ask (a0' : AV) : r296.ask [a0'] = if isNs a0' ∧ Tree.Ok (dNs a0') then some (Said.fn (.int .i64 (freeT (dNs a0')))) else none := by unfold r296 Reg.of ask1; exact ite_cl

theorem refLast_spec (t : List Node) (ht : Tree.Ok t) : Fun seat 297 [nodes t] (.int .i64 (lastT t)) := by
  have hl := known_len t
  have c0 : lastN (fun x => decide ((nodeAt (known t) x).kind ≠ 0)) (known t).length = none → lastT t = -1 := fun h => by rw [lastT, h]; rfl
  have c1 : ∀ k : Nat, lastN (fun x => decide ((nodeAt (known t) x).kind ≠ 0)) (known t).length = some k → lastT t = k := fun k h => by rw [lastT, h]; rfl
  obtain ⟨a, ha⟩ : ∃ a, known t = a := ⟨_, rfl⟩
  rw [ha] at hl c0 c1
  obtain ⟨r, hr⟩ : ∃ r, lastT t = r := ⟨_, rfl⟩
  rw [hr] at c0 c1 ⊢
  have w1 : IntKind.i64.wrap ((a.length : Int) - 1) = (a.length : Int) - 1 - (0 : Nat) := by rw [wrap64 _ (by omega) (by omega)]; omega
  refine Fun.of0R [r137] told297 (by simp [il297]) (by simp [idb_patchA]) (by simp [idb_patchA]) 4 ?_
  simp -implicitDefEqProofs only [il297, List.zipIdx_cons, List.zipIdx_nil, leafA, innerA, nodeA, patchA, Leaf.cells, Inner.cells, Node.cells, r137_c, r137_ask, decide_true, decide_false, ht, ha, w1, go_sem, Nat.reduceEqDiff, reduceIte, Nat.reduceAdd, Nat.reduceLeDiff, Nat.reduceLT, Nat.reduceSub]
  refine WP.loop0 (fun j => j ≤ a.length ∧ ∀ x, a.length - j ≤ x → x < a.length → (nodeAt a x).kind = 0) (fun j => [(3, nodes a), (4, .int .i64 ((a.length : Int) - 1 - (j : Nat)))]) (fun j => a.length - j) 0 ⟨Nat.zero_le _, fun x h h2 => by omega⟩ (fun j _ => by simp ) (by simp ) ?_
  rintro j ⟨hj, hno⟩
  refine wpc_soundR [] ?_
  by_cases hlt : j < a.length
  · obtain ⟨p, hp⟩ : ∃ p : Nat, (a.length : Int) - 1 - (j : Nat) = p := ⟨a.length - 1 - j, by omega⟩
    have hpa : p < a.length := by omega
    have g0 : (p : Int) ≥ 0 := by omega
    have w2 : IntKind.i64.wrap ((p : Int) - 1) = (a.length : Int) - 1 - ((j + 1 : Nat) : Int) := by rw [wrap64 _ (by omega) (by omega)]; omega
    have e := nodeAt_lt hpa
    rw [hp]
    by_cases hk : a[p].kind = 0
    · simp -implicitDefEqProofs only [leafA, innerA, nodeA, patchA, Leaf.cells, Inner.cells, Node.cells, decide_true, decide_false, g0, fun H => ix_nodes H a p hpa, eq_true hk, ne_eq, not_true_eq_false, w2, go_sem, Nat.reduceEqDiff, reduceIte, Nat.reduceAdd, Nat.reduceLeDiff, Nat.reduceLT, Nat.reduceSub]
      refine ⟨j + 1, ⟨by omega, fun x h1 h2 => ?_⟩, by omega, by simp ⟩
      by_cases hx : x = p
      · subst hx; rw [e]; exact hk
      · exact hno x (by omega) h2
    · have hz : r = (p : Int) := c1 p (lastN_some (by rw [e]; simpa using hk) hpa fun x h1 h2 => by rw [hno x (by omega) h2]; rfl)
      rw [hz]
      simp -implicitDefEqProofs only [leafA, innerA, nodeA, patchA, Leaf.cells, Inner.cells, Node.cells, decide_true, decide_false, g0, fun H => ix_nodes H a p hpa, hk, ne_eq, not_false_eq_true, go_sem, Nat.reduceEqDiff, reduceIte, Nat.reduceAdd, Nat.reduceLeDiff, Nat.reduceLT, Nat.reduceSub]
  · have g0 : ¬ (a.length : Int) - 1 - (j : Nat) ≥ 0 := by omega
    have := c0 (lastN_none fun x hx => by rw [hno x (by omega) hx]; rfl)
    subst this
    simp -implicitDefEqProofs only [leafA, innerA, nodeA, patchA, Leaf.cells, Inner.cells, Node.cells, decide_true, decide_false, g0, go_sem, Nat.reduceEqDiff, reduceIte, Nat.reduceAdd, Nat.reduceLeDiff, Nat.reduceLT, Nat.reduceSub]
noncomputable def r297 : Reg seat := .of told297 (ask1 (fun a0' => isNs a0' ∧ Tree.Ok (dNs a0')) fun a0' => .fn (.int .i64 (lastT (dNs a0')))) (ask1_ok fun a0' h => SaidOk.fn (Fun.weak (.cons (isNs.weak h.1) .nil) (refLast_spec _ h.2)))
theorem r297_c : r297.c = 297 := rfl
open Classical in
theorem r297_ask (a0' : AV) : r297.ask [a0'] = if isNs a0' ∧ Tree.Ok (dNs a0') then some (Said.fn (.int .i64 (lastT (dNs a0')))) else none := by unfold r297 Reg.of ask1; exact ite_cl
end Go.Proofs.YtlehcigcaihoaaaGreatDoor.Al
