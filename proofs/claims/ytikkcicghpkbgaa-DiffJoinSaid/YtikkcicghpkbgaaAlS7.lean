/-
  SPECS: a patch's parts; the references' patches.
-/
import Derived.Test.YtikkcicghpkbgaaAlS6
set_option linter.unusedSimpArgs false
set_option linter.unusedVariables false
namespace Go.Proofs.Ytikkcicghpkbgaa.Al
open Go
attribute [local go_sem] W_mv W_pick W_alloc W_box W_build W_bslice W_load W_store W_nilck W_bin W_isnil W_un W_convI W_convS W_mkiface W_mkfunc W_mkslice W_slice W_faddr W_field W_iaddr W_iaddrA W_idxA W_extract W_len W_lenS W_lenA W_min W_max W_append W_appendZ W_copy W_clear W_tassert W_invoke thenQ_normal thenQ_exit thenQ_goto thenQ_ret blockQ_normal blockQ_ret blockQ_goto blockQ_exit wpc_skip wpc_region wpc_draw wpc_seq wpc_cond wpc_block wpc_exit wpc_goto wpc_label wpc_ret wpc_loop wpc_range wpc_scope condW_true condW_false condW_dec condW_any W_nil W_call resW_some evalOp Opd.ev updo_envL updo_none setL_cons setL_nil envL_cons Option.map_some Option.bind_some evBin evInt List.map_cons List.map_nil Option.pure_def Option.bind_eq_bind W_grd' grdW_tt grdW_ff grdW_tf grdW_ft grdW_tup grdW_dt grdW_df lgrdW_tt lgrdW_ff lgrdW_tf lgrdW_ft lgrdW_tup lgrdW_dt lgrdW_df L_mv L_pick L_alloc L_box L_build L_bslice L_load L_store L_nilck L_bin L_isnil L_un L_convI L_convS L_mkiface L_mkfunc L_mkslice L_slice L_faddr L_field L_iaddr L_iaddrA L_idxA L_extract L_len L_lenS L_lenA L_min L_max L_append L_appendZ L_copy L_clear L_tassert L_nil L_call L_grd lresW_some upd_envL evUn beq_dec bne_dec leaves_ret1 leaves_end1 leaves_ret0 leaves_end0 leaves_ret2 leaves_ret3 rowLen_ints load_iptr0 not_dec heap_get0 heap_get1 heap_set0 heap_set1 heap_len1 heap_len2 heap_app heap_app2 bslice1_int seen_ints seen_one0 seen_one1 seen_one2 rowLen_own0 bslice0_int rowLen_own1 Nat.sub_zero Bool.not_true Bool.not_false List.length_nil List.length_cons List.nil_append List.cons_append Nat.zero_add load_iptrA canon_ptrI canon_bool canon_tup canon_agg canon_leafA canon_innerA canon_nodeA canon_ints' rowLen_ints0 seen_ints0 canon_ints0 rowLen_ints1 seen_ints1 canon_ints1 rowLen_ints2 seen_ints2 canon_ints2 rowLen_ints3 seen_ints3 canon_ints3 rowLen_octs seen_octs canon_octs' szOk_octs rowLen_octs0 seen_octs0 canon_octs0 rowLen_octs1 seen_octs1 canon_octs1 rowLen_octs2 seen_octs2 canon_octs2 rowLen_octs3 seen_octs3 canon_octs3 rowLen_intss seen_intss canon_intss' szOk_intss rowLen_intss0 seen_intss0 canon_intss0 rowLen_intss1 seen_intss1 canon_intss1 rowLen_intss2 seen_intss2 canon_intss2 rowLen_intss3 seen_intss3 canon_intss3 rowLen_octss seen_octss canon_octss' szOk_octss rowLen_octss0 seen_octss0 canon_octss0 rowLen_octss1 seen_octss1 canon_octss1 rowLen_octss2 seen_octss2 canon_octss2 rowLen_octss3 seen_octss3 canon_octss3 rowLen_nodes seen_nodes canon_nodes' szOk_nodes rowLen_nodes0 seen_nodes0 canon_nodes0 rowLen_nodes1 seen_nodes1 canon_nodes1 rowLen_nodes2 seen_nodes2 canon_nodes2 rowLen_nodes3 seen_nodes3 canon_nodes3 seen_list cells_int oneIn_int cells_bool oneIn_bool cells_str oneIn_str cells_list oneIn_list cells_func oneIn_func cells_nilfunc oneIn_nilfunc cells_iptr oneIn_iptr cells_iface oneIn_iface cells_nilIface oneIn_nilIface cells_own cells_ptr cells_anybool oneIn_anybool cells_agg oneIn_own0 oneIn_ptr0 seenL0 seenM0 oneIn_own1 oneIn_ptr1 seenL1 seenM1 oneIn_own2 oneIn_ptr2 seenL2 seenM2 oneIn_own3 oneIn_ptr3 seenL3 seenM3 oneIn_own4 oneIn_ptr4 seenL4 seenM4 oneIn_own5 oneIn_ptr5 seenL5 seenM5 cells_ints oneIn_ints cells_octs oneIn_octs cells_intss oneIn_intss cells_octss oneIn_octss cells_nodes oneIn_nodes ldB0 ldA0 adB0 stB0 ldB1 ldA1 adB1 stB1 ldB2 ldA2 adB2 stB2 ldB3 ldA3 adB3 stB3 ldB4 ldA4 adB4 stB4 ldB5 ldA5 adB5 stB5 List.getElem?_cons_zero List.getElem?_cons_succ beq_self_eq_true splice List.take_zero List.take_succ_cons List.drop_zero List.drop_succ_cons List.append_nil List.set_cons_zero List.set_cons_succ List.all_cons List.all_nil Bool.and_self and_self and_true true_and Nat.lt_irrefl Nat.zero_lt_one Nat.le_refl fillA evNil notA Bool.false_eq_true evMin_int evMax_int Option.map_none freezeP_all_nil freezeP_all_cons frzE_box frzE_arr frzE_dead foldA List.foldlM_cons List.foldlM_nil callW_f lcallW_f ansW_fn ansW_own lansW_fn lansW_own ansW_none lansW_none tab_cons tab_nil dI_int dB_bool dO_octs dO_ints dO_list dO_nil dOs_octss dOs_intss dOs_nil dLf_leafA dIn_innerA dN_nodeA dLf_agg dIn_agg dN_agg dNs_nodes dNs_list dNs_nil isI_int isU_int isB_bool isO_octs isO_nil isO_list isS_ints isS_nil isS_list isOs_octss isSs_intss isOs_nil isSs_nil isNs_nodes isNs_list isNs_nil isLf_leafA isIn_innerA isN_nodeA isLf_agg isIn_agg isN_agg leaf_eta inner_eta node_eta leaf_zero inner_zero node_zero dP_patchA dP_agg isP_patchA isP_agg patch_eta decide_eq_true_eq decide_eq_false_iff_not eq_self forall_const true_implies false_implies Bool.not_eq_true' Bool.not_eq_false' Bool.true_eq_false implies_true ne_eq ldI ldIA adI AV.tup.injEq AV.agg.injEq List.cons.injEq AV.int.injEq AV.bool.injEq nodes_inj octs_inj ints_inj nil_nodes nil_octs nil_ints canon_nilL decide_eq_decide two_ne four_ne b256_ne lendA_fn lendA_own lendA_none llendA_fn llendA_none plain_bool plain_int plain_tup2 isNs_own isO_own isS_own isOs_own false_and and_false Q_nil Q_l Q_g Q_h Q_grd qgrdW_b qgrdW_tup lightD_some heavyD_some readD_some fnD_some fnD_own fnD_none callL_f ownH_some callH_f litD_some litE_some Q_call Q_bslice H_call pendOk_nil pendOk_cons pastOk_nil pastOk_cons Q_mv Q_pick Q_bin Q_un Q_convI Q_mkfunc Q_extract Q_min Q_max Q_lenS Q_lenA Q_field Q_idxA Q_mkiface Q_tassert Q_alloc Q_box Q_store Q_mkslice Q_append Q_appendZ Q_copy Q_clear Q_build Q_load Q_nilck Q_isnil Q_convS Q_slice Q_faddr Q_iaddr Q_iaddrA Q_len H_alloc H_box H_bslice H_store H_mkslice H_append H_appendZ H_copy H_clear free_mv free_pick free_bin free_un free_convI free_mkfunc free_extract free_min free_max free_lenS free_lenA free_field free_idxA free_mkiface free_tassert free_build free_load free_nilck free_isnil free_convS free_slice free_faddr free_iaddr free_iaddrA free_len callW_y List.length_map List.length_set leaves_r evR_some evRess1 evRess2 evRess3 evRes_t evRes_c nz_kind nz_enc nz_cred nz_source nz_parent nz_ienc nz_hash nz_un true_or or_true bsl_node idbs_node idbs_int appN appI appO ixo_nodes canon_row canon_rowI canon_rowO not_false_eq_true not_true_eq_false ldE_a ldE_c adE_b stE_b onE_a onP_b bsl_zero idbs_zero appN_zero
attribute [local go_sem low] condW_b grdW_b lgrdW_b ldP adP stP onO onPt
attribute [local simp] envL_cons envL_nil idb_int idb_bool idb_str idb_ints idb_nil idb_own idb_ptr entB_ints' idb_octs entB_octs idb_intss entB_intss idb_octss entB_octss idb_nodes entB_nodes idb_leafA idb_innerA idb_nodeA idb_agg idb_tup idb_iptr idb_fn idb_undef entB_dead entB_box

theorem at_spec (t : List Node) (x : Int) (h : 0 ≤ x) : Fun seat 138 [nodes t, .int .i64 x] (nodeA (nodeAt t x.toNat)) := by
  obtain ⟨k, rfl⟩ : ∃ k : Nat, x = k := ⟨x.toNat, by omega⟩
  by_cases hk : k < t.length
  · have e := nodeAt_lt hk
    refine Fun.of0R [] told138 (by simp [il138]) (by simp [idb_patchA]) (by simp [idb_patchA]) 4 ?_
    simp only [il138, List.zipIdx_cons, List.zipIdx_nil, leafA, innerA, nodeA, patchA, Leaf.cells, Inner.cells, Node.cells, fun H => ix_nodes H t k hk, Int.toNat_natCast, e, go_sem, Nat.reduceEqDiff, reduceIte, Nat.reduceAdd, Nat.reduceLeDiff, Nat.reduceLT, Nat.reduceSub]
    iterate 12 ((all_goals intros); (all_goals try refine And.intro ?_ ?_))
    all_goals first | (show WP _ _ _ _ _ _ _) | grind
  · have e := nodeAt_ge (Nat.le_of_not_lt hk)
    refine Fun.of0R [] told138 (by simp [il138]) (by simp [idb_patchA]) (by simp [idb_patchA]) 4 ?_
    simp only [il138, List.zipIdx_cons, List.zipIdx_nil, leafA, innerA, nodeA, patchA, Leaf.cells, Inner.cells, Node.cells, Int.toNat_natCast, e, go_sem, Nat.reduceEqDiff, reduceIte, Nat.reduceAdd, Nat.reduceLeDiff, Nat.reduceLT, Nat.reduceSub]
    iterate 12 ((all_goals intros); (all_goals try refine And.intro ?_ ?_))
    all_goals first | (show WP _ _ _ _ _ _ _) | grind
noncomputable def r138 : Reg seat := .of told138 (ask2 (fun a0' a1' => isNs a0' ∧ isI a1' ∧ 0 ≤ (dI a1')) fun a0' a1' => .fn (nodeA (nodeAt (dNs a0') (dI a1').toNat))) (ask2_ok fun a0' a1' h => SaidOk.fn (Fun.weak (.cons (isNs.weak h.1) (.cons (isI.weak h.2.1) .nil)) (at_spec _ _ h.2.2)))
theorem r138_c : r138.c = 138 := rfl
open Classical in
theorem r138_ask (a0' a1' : AV) : r138.ask [a0', a1'] = if isNs a0' ∧ isI a1' ∧ 0 ≤ (dI a1') then some (Said.fn (nodeA (nodeAt (dNs a0') (dI a1').toNat))) else none := by unfold r138 Reg.of ask2; exact ite_cl

theorem of_spec (p : Patch) (x : Int) (hp : p.Ok) (hn : p.n.length = p.x.length) : Fun seat 141 [patchA p, .int .i64 x] (.tup [nodeA ((ofP p x).getD .zero), .bool (ofP p x).isSome]) := by
  have hl := hp.x.len
  have c1 : ∀ k (hk : k < p.x.length), p.x[k] = x → (∀ j (h : j < p.x.length), j < k → p.x[j] ≠ x) → ofP p x = some (p.n[k]'(by omega)) := fun k hk h h1 => ofP_at hk (by omega) h h1
  have c0 : (∀ j (h : j < p.x.length), p.x[j] ≠ x) → ofP p x = none := ofP_none
  generalize ofP p x = r at *
  refine Fun.of0R [] told141 (by simp [il141]) (by simp [idb_patchA]) (by simp [idb_patchA]) 4 ?_
  simp only [il141, List.zipIdx_cons, List.zipIdx_nil, leafA, innerA, nodeA, patchA, Leaf.cells, Inner.cells, Node.cells, go_sem, Nat.reduceEqDiff, reduceIte, Nat.reduceAdd, Nat.reduceLeDiff, Nat.reduceLT, Nat.reduceSub]
  refine WP.loopG (fun k => k ≤ p.x.length ∧ ∀ j (h : j < p.x.length), j < k → p.x[j] ≠ x) (fun k => [(1, .int .i64 x), (2, .ptr 0 0), (4, .ptr 1 0), (6, .int .i64 k)]) (fun k => [.box [.int .i64 p.len, ints p.x, nodes p.n], .box [.int .i64 0, .list true [], .list true [], .int .i64 0, .list true [], .list true [], .list true [], .list true []]]) (fun k => p.x.length - k) 0 ⟨Nat.zero_le _, fun j _ h => absurd h (Nat.not_lt_zero j)⟩ (fun k _ => by simp [idb_patchA]) (by simp ) ?_
  rintro k ⟨hk, hno⟩
  refine wpc_soundR [] ?_
  simp only [leafA, innerA, nodeA, patchA, Leaf.cells, Inner.cells, Node.cells, go_sem, Nat.reduceEqDiff, reduceIte, Nat.reduceAdd, Nat.reduceLeDiff, Nat.reduceLT, Nat.reduceSub]
  refine ⟨fun hlt => ?_, fun hge => ?_⟩
  · have hk' : k < p.x.length := by omega
    have c := c1 k hk'
    simp only [leafA, innerA, nodeA, patchA, Leaf.cells, Inner.cells, Node.cells, fun H => index_ints H p.x k hk', fun H => ix_nodes H p.n k (by omega), go_sem, Nat.reduceEqDiff, reduceIte, Nat.reduceAdd, Nat.reduceLeDiff, Nat.reduceLT, Nat.reduceSub]
    refine ⟨fun h => ?_, fun h => ?_⟩
    · rw [c h fun j hj hjk => hno j hj hjk]
      simp only [Option.getD_some, Option.isSome_some, go_sem, Nat.reduceEqDiff, reduceIte, Nat.reduceAdd, Nat.reduceLeDiff, Nat.reduceLT, Nat.reduceSub]
    · clear c c1 c0
      iterate 12 ((all_goals intros); (all_goals try refine And.intro ?_ ?_))
      all_goals first | (show WP _ _ _ _ _ _ _) | exact ⟨k + 1, ⟨hk', scanS hno fun _ => by grind⟩, by omega, by simp [wrapS (show k < 9223372036854775807 by omega)]⟩ | grind
  · rw [c0 (scanE hno hge)]
    simp only [Option.getD_none, Option.isSome_none, go_sem, Nat.reduceEqDiff, reduceIte, Nat.reduceAdd, Nat.reduceLeDiff, Nat.reduceLT, Nat.reduceSub]
noncomputable def r141 : Reg seat := .of told141 (ask2 (fun a0' a1' => isP a0' ∧ isI a1' ∧ (dP a0').Ok ∧ (dP a0').n.length = (dP a0').x.length) fun a0' a1' => .fn (.tup [nodeA ((ofP (dP a0') (dI a1')).getD .zero), .bool (ofP (dP a0') (dI a1')).isSome])) (ask2_ok fun a0' a1' h => SaidOk.fn (Fun.weak (.cons (isP.weak h.1) (.cons (isI.weak h.2.1) .nil)) (of_spec _ _ h.2.2.1 h.2.2.2)))
theorem r141_c : r141.c = 141 := rfl
open Classical in
theorem r141_ask (a0' a1' : AV) : r141.ask [a0', a1'] = if isP a0' ∧ isI a1' ∧ (dP a0').Ok ∧ (dP a0').n.length = (dP a0').x.length then some (Said.fn (.tup [nodeA ((ofP (dP a0') (dI a1')).getD .zero), .bool (ofP (dP a0') (dI a1')).isSome])) else none := by unfold r141 Reg.of ask2; exact ite_cl

attribute [local simp] upI_zero upN_zero
theorem refPlaces_spec (a b : List Node) (ha : Tree.Ok a) (hb : Tree.Ok b) : Fun seat 117 [nodes a, nodes b] (ints (placesT a b)) := by
  have hka := known_ok ha
  have hkb := known_ok hb
  have hl := known_len b
  unfold placesT
  refine Fun.of0R [r137] told117 (by simp [il117]) (by simp [idb_patchA]) (by simp [idb_patchA]) 4 ?_
  simp only [il117, List.zipIdx_cons, List.zipIdx_nil, leafA, innerA, nodeA, patchA, Leaf.cells, Inner.cells, Node.cells, r137_c, r137_ask, ha, hb, go_sem, Nat.reduceEqDiff, reduceIte, Nat.reduceAdd, Nat.reduceLeDiff, Nat.reduceLT, Nat.reduceSub]
  generalize known a = A at *
  generalize known b = B at *
  refine WP.adopt 7 1 rfl ?_
  rw [upd_envL]
  refine WP.loopG (fun s : Nat × Nat => s.1 ≤ B.length) (fun s => [(5, nodes A), (6, nodes B), (7, .own 0 s.2 0 (upI (differ A B) s.1).length), (8, .int .i64 (s.1 : Nat))]) (fun s => [.arr 1 s.2 ((upI (differ A B) s.1).map (AV.int .i64))]) (fun s => B.length - s.1) (0, 0) (Nat.zero_le _)
    (fun k _ => by simp ) (by simp ) ?_
  rintro ⟨k, v⟩ hk
  simp only at hk
  refine wpc_soundR [] ?_
  simp only [leafA, innerA, nodeA, patchA, Leaf.cells, Inner.cells, Node.cells, go_sem, Nat.reduceEqDiff, reduceIte, Nat.reduceAdd, Nat.reduceLeDiff, Nat.reduceLT, Nat.reduceSub]
  refine ⟨fun hlt => ?_, fun hge => ?_⟩
  · have hk' : k < B.length := by omega
    have hkn := nodeAt_lt hk'
    have hul := upI_len (differ A B) k
    have dif : differ A B k = decide (nodeAt A k ≠ B[k]) := by rw [differ, hkn]
    refine WP.drawQ [r138, r130] [.l, .l, .l, .l, .l, .g 0 0, .g 0 0, .l, .l] mixed (by decide) ?_
    simp only [leafA, innerA, nodeA, patchA, Leaf.cells, Inner.cells, Node.cells, r138_c, r138_ask, r130_c, r130_ask, fun H => ix_nodes H B k hk', hkb.at hk', Int.toNat_natCast, nodeAt_ok hka k, show (0 : Int) ≤ (k : Int) by omega, fun G => app_ints0 (G := G) (ver := v) (l := upI (differ A B) k) (x := k) (bytes := 8) (by unfold maxRow; omega) (by decide), go_sem, Nat.reduceEqDiff, reduceIte, Nat.reduceAdd, Nat.reduceLeDiff, Nat.reduceLT, Nat.reduceSub]
    refine ⟨fun h => ⟨(k + 1, v + 1), hk', by omega, ?_⟩, fun h => ⟨(k + 1, v), hk', by omega, ?_⟩⟩
    · simp [upI_yes (show differ A B k = true by rw [dif]; simpa using h), wrapS (show k < 9223372036854775807 by omega)]
    · simp [upI_no (show differ A B k = false by rw [dif]; simpa using h), wrapS (show k < 9223372036854775807 by omega)]
  · have e : k = B.length := by omega
    rw [e]
noncomputable def r117 : Reg seat := .of told117 (ask2 (fun a0' a1' => isNs a0' ∧ isNs a1' ∧ Tree.Ok (dNs a0') ∧ Tree.Ok (dNs a1')) fun a0' a1' => .fn (ints (placesT (dNs a0') (dNs a1')))) (ask2_ok fun a0' a1' h => SaidOk.fn (Fun.weak (.cons (isNs.weak h.1) (.cons (isNs.weak h.2.1) .nil)) (refPlaces_spec _ _ h.2.2.1 h.2.2.2)))
theorem r117_c : r117.c = 117 := rfl
open Classical in
theorem r117_ask (a0' a1' : AV) : r117.ask [a0', a1'] = if isNs a0' ∧ isNs a1' ∧ Tree.Ok (dNs a0') ∧ Tree.Ok (dNs a1') then some (Said.fn (ints (placesT (dNs a0') (dNs a1')))) else none := by unfold r117 Reg.of ask2; exact ite_cl

theorem upI_at (p : Nat → Bool) (k j : Nat) (h : j < (upI p k).length) : ∃ x : Nat, (upI p k)[j] = (x : Int) ∧ x < k := by
  obtain ⟨x, e, hx, _⟩ := mem_upI.1 (List.getElem_mem h)
  exact ⟨x, e, hx⟩
theorem upN_take (f : Nat → Node) (p : Nat → Bool) (k j : Nat) (h : j < (upI p k).length) : (upN f p k).take (j + 1) = (upN f p k).take j ++ [f ((upI p k)[j]).toNat] := by
  have h' : j < (upTo p k).length := by simpa [upI] using h
  have e : (upI p k)[j] = ((upTo p k)[j] : Int) := by simp [upI]
  rw [e, Int.toNat_natCast, List.take_succ_eq_append_getElem (by simpa [upN] using h')]
  simp [upN]
theorem refMake_spec (a b : List Node) (ha : Tree.Ok a) (hb : Tree.Ok b) : Fun seat 120 [nodes a, nodes b] (patchA (makeT a b)) := by
  have hkb := known_ok hb
  have hl := known_len b
  have hul := upI_len (differ (known a) (known b)) (known b).length
  have hun : (upN (nodeAt (known b)) (differ (known a) (known b)) (known b).length).length = (upI (differ (known a) (known b)) (known b).length).length := by simp [upN, upI]
  have htk := upN_take (nodeAt (known b)) (differ (known a) (known b)) (known b).length
  have hix := upI_at (differ (known a) (known b)) (known b).length
  unfold makeT
  refine Fun.of0R [r117, r137] told120 (by simp [il120]) (by simp [idb_patchA]) (by simp [idb_patchA]) 4 ?_
  simp only [il120, List.zipIdx_cons, List.zipIdx_nil, leafA, innerA, nodeA, patchA, Leaf.cells, Inner.cells, Node.cells, r117_c, r117_ask, r137_c, r137_ask, ha, hb, go_sem, Nat.reduceEqDiff, reduceIte, Nat.reduceAdd, Nat.reduceLeDiff, Nat.reduceLT, Nat.reduceSub]
  unfold placesT
  generalize known b = B at *
  generalize upI (differ (known a) B) B.length = X at *
  generalize upN (nodeAt B) (differ (known a) B) B.length = M at *
  refine WP.adoptB 1 2 8 rfl rfl ?_
  refine WP.loopG (fun s : Nat × Nat => s.1 ≤ X.length) (fun s => [(5, nodes B), (4, .ptr 0 0), (6, .ptr 1 0), (7, .int .i64 (s.1 : Nat))]) (fun s => [.box [.int .i64 0, .list true [], .list true []], .box [.int .i64 B.length, ints X, .own 2 s.2 0 (M.take s.1).length], .arr 8 s.2 ((M.take s.1).map nodeA)]) (fun s => X.length - s.1) (0, 0) (Nat.zero_le _)
    (fun k _ => ⟨by simp, by simp [idb_patchA], fun e he => by (simp only [List.mem_cons, List.not_mem_nil, or_false] at he); (rcases he with rfl | rfl | rfl | rfl | rfl | rfl) <;> first | exact encNode.entB _ _ _ _ | exact encI64.entB _ _ _ _ | exact encU8.entB _ _ _ _ | simp ⟩) (by simp ) ?_
  rintro ⟨k, v⟩ hk
  simp only at hk
  refine wpc_soundR [] ?_
  simp only [leafA, innerA, nodeA, patchA, Leaf.cells, Inner.cells, Node.cells, go_sem, Nat.reduceEqDiff, reduceIte, Nat.reduceAdd, Nat.reduceLeDiff, Nat.reduceLT, Nat.reduceSub]
  refine ⟨fun hlt => ?_, fun hge => ?_⟩
  · have hk' : k < X.length := by omega
    obtain ⟨x, ex, hx⟩ := hix k hk'
    have htk := htk k hk'
    refine WP.drawQ [] [.g 0 0, .g 0 0, .l, .g 0 0, .g 0 0, .l, .g 0 0, .g 0 0, .g 0 0, .g 0 0, .l, .h 0, .g 1 1, .h 1] mixed (by decide) ?_
    rw [ex, Int.toNat_natCast, nodeAt_lt hx] at htk
    have hmx : (M.take k).length + 1 ≤ maxRow := by rw [List.length_take]; unfold maxRow; omega
    simp only [leafA, innerA, nodeA, patchA, Leaf.cells, Inner.cells, Node.cells, fun H => index_ints H X k hk', ex, fun H => ix_nodes H B x hx, hmx, go_sem, Nat.reduceEqDiff, reduceIte, Nat.reduceAdd, Nat.reduceLeDiff, Nat.reduceLT, Nat.reduceSub]
    exact ⟨(k + 1, v + 1), hk', by omega, by simp [htk, wrapS (show k < 9223372036854775807 by omega)]⟩
  · have e : M.take k = M := List.take_of_length_le (by omega)
    rw [e]
noncomputable def r120 : Reg seat := .of told120 (ask2 (fun a0' a1' => isNs a0' ∧ isNs a1' ∧ Tree.Ok (dNs a0') ∧ Tree.Ok (dNs a1')) fun a0' a1' => .fn (patchA (makeT (dNs a0') (dNs a1')))) (ask2_ok fun a0' a1' h => SaidOk.fn (Fun.weak (.cons (isNs.weak h.1) (.cons (isNs.weak h.2.1) .nil)) (refMake_spec _ _ h.2.2.1 h.2.2.2)))
theorem r120_c : r120.c = 120 := rfl
open Classical in
theorem r120_ask (a0' a1' : AV) : r120.ask [a0', a1'] = if isNs a0' ∧ isNs a1' ∧ Tree.Ok (dNs a0') ∧ Tree.Ok (dNs a1') then some (Said.fn (patchA (makeT (dNs a0') (dNs a1')))) else none := by unfold r120 Reg.of ask2; exact ite_cl
end Go.Proofs.Ytikkcicghpkbgaa.Al
