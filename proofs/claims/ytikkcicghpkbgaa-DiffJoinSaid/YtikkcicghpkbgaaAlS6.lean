/-
  SPECS: patches.
-/
import Derived.Test.YtikkcicghpkbgaaAlS5
import Derived.Test.YtikkcicghpkbgaaAlP8
set_option linter.unusedSimpArgs false
set_option linter.unusedVariables false
namespace Go.Proofs.Ytikkcicghpkbgaa.Al
open Go
attribute [local go_sem] W_mv W_pick W_alloc W_box W_build W_bslice W_load W_store W_nilck W_bin W_isnil W_un W_convI W_convS W_mkiface W_mkfunc W_mkslice W_slice W_faddr W_field W_iaddr W_iaddrA W_idxA W_extract W_len W_lenS W_lenA W_min W_max W_append W_appendZ W_copy W_clear W_tassert W_invoke thenQ_normal thenQ_exit thenQ_goto thenQ_ret blockQ_normal blockQ_ret blockQ_goto blockQ_exit wpc_skip wpc_region wpc_draw wpc_seq wpc_cond wpc_block wpc_exit wpc_goto wpc_label wpc_ret wpc_loop wpc_range wpc_scope condW_true condW_false condW_dec condW_any W_nil W_call resW_some evalOp Opd.ev updo_envL updo_none setL_cons setL_nil envL_cons Option.map_some Option.bind_some evBin evInt List.map_cons List.map_nil Option.pure_def Option.bind_eq_bind W_grd' grdW_tt grdW_ff grdW_tf grdW_ft grdW_tup grdW_dt grdW_df lgrdW_tt lgrdW_ff lgrdW_tf lgrdW_ft lgrdW_tup lgrdW_dt lgrdW_df L_mv L_pick L_alloc L_box L_build L_bslice L_load L_store L_nilck L_bin L_isnil L_un L_convI L_convS L_mkiface L_mkfunc L_mkslice L_slice L_faddr L_field L_iaddr L_iaddrA L_idxA L_extract L_len L_lenS L_lenA L_min L_max L_append L_appendZ L_copy L_clear L_tassert L_nil L_call L_grd lresW_some upd_envL evUn beq_dec bne_dec leaves_ret1 leaves_end1 leaves_ret0 leaves_end0 leaves_ret2 leaves_ret3 rowLen_ints load_iptr0 not_dec heap_get0 heap_get1 heap_set0 heap_set1 heap_len1 heap_len2 heap_app heap_app2 bslice1_int seen_ints seen_one0 seen_one1 seen_one2 rowLen_own0 bslice0_int rowLen_own1 Nat.sub_zero Bool.not_true Bool.not_false List.length_nil List.length_cons List.nil_append List.cons_append Nat.zero_add load_iptrA canon_ptrI canon_bool canon_tup canon_agg canon_leafA canon_innerA canon_nodeA canon_ints' rowLen_ints0 seen_ints0 canon_ints0 rowLen_ints1 seen_ints1 canon_ints1 rowLen_ints2 seen_ints2 canon_ints2 rowLen_ints3 seen_ints3 canon_ints3 rowLen_octs seen_octs canon_octs' szOk_octs rowLen_octs0 seen_octs0 canon_octs0 rowLen_octs1 seen_octs1 canon_octs1 rowLen_octs2 seen_octs2 canon_octs2 rowLen_octs3 seen_octs3 canon_octs3 rowLen_intss seen_intss canon_intss' szOk_intss rowLen_intss0 seen_intss0 canon_intss0 rowLen_intss1 seen_intss1 canon_intss1 rowLen_intss2 seen_intss2 canon_intss2 rowLen_intss3 seen_intss3 canon_intss3 rowLen_octss seen_octss canon_octss' szOk_octss rowLen_octss0 seen_octss0 canon_octss0 rowLen_octss1 seen_octss1 canon_octss1 rowLen_octss2 seen_octss2 canon_octss2 rowLen_octss3 seen_octss3 canon_octss3 rowLen_nodes seen_nodes canon_nodes' szOk_nodes rowLen_nodes0 seen_nodes0 canon_nodes0 rowLen_nodes1 seen_nodes1 canon_nodes1 rowLen_nodes2 seen_nodes2 canon_nodes2 rowLen_nodes3 seen_nodes3 canon_nodes3 seen_list cells_int oneIn_int cells_bool oneIn_bool cells_str oneIn_str cells_list oneIn_list cells_func oneIn_func cells_nilfunc oneIn_nilfunc cells_iptr oneIn_iptr cells_iface oneIn_iface cells_nilIface oneIn_nilIface cells_own cells_ptr cells_anybool oneIn_anybool cells_agg oneIn_own0 oneIn_ptr0 seenL0 seenM0 oneIn_own1 oneIn_ptr1 seenL1 seenM1 oneIn_own2 oneIn_ptr2 seenL2 seenM2 oneIn_own3 oneIn_ptr3 seenL3 seenM3 oneIn_own4 oneIn_ptr4 seenL4 seenM4 oneIn_own5 oneIn_ptr5 seenL5 seenM5 cells_ints oneIn_ints cells_octs oneIn_octs cells_intss oneIn_intss cells_octss oneIn_octss cells_nodes oneIn_nodes ldB0 ldA0 adB0 stB0 ldB1 ldA1 adB1 stB1 ldB2 ldA2 adB2 stB2 ldB3 ldA3 adB3 stB3 ldB4 ldA4 adB4 stB4 ldB5 ldA5 adB5 stB5 List.getElem?_cons_zero List.getElem?_cons_succ beq_self_eq_true splice List.take_zero List.take_succ_cons List.drop_zero List.drop_succ_cons List.append_nil List.set_cons_zero List.set_cons_succ List.all_cons List.all_nil Bool.and_self and_self and_true true_and Nat.lt_irrefl Nat.zero_lt_one Nat.le_refl fillA evNil notA Bool.false_eq_true evMin_int evMax_int Option.map_none freezeP_all_nil freezeP_all_cons frzE_box frzE_arr frzE_dead foldA List.foldlM_cons List.foldlM_nil callW_f lcallW_f ansW_fn ansW_own lansW_fn lansW_own ansW_none lansW_none tab_cons tab_nil dI_int dB_bool dO_octs dO_ints dO_list dO_nil dOs_octss dOs_intss dOs_nil dLf_leafA dIn_innerA dN_nodeA dLf_agg dIn_agg dN_agg dNs_nodes dNs_list dNs_nil isI_int isU_int isB_bool isO_octs isO_nil isO_list isS_ints isS_nil isS_list isOs_octss isSs_intss isOs_nil isSs_nil isNs_nodes isNs_list isNs_nil isLf_leafA isIn_innerA isN_nodeA isLf_agg isIn_agg isN_agg leaf_eta inner_eta node_eta leaf_zero inner_zero node_zero dP_patchA dP_agg isP_patchA isP_agg patch_eta decide_eq_true_eq decide_eq_false_iff_not eq_self forall_const true_implies false_implies Bool.not_eq_true' Bool.not_eq_false' Bool.true_eq_false implies_true ne_eq ldI ldIA adI AV.tup.injEq AV.agg.injEq List.cons.injEq AV.int.injEq AV.bool.injEq nodes_inj octs_inj ints_inj nil_nodes nil_octs nil_ints canon_nilL decide_eq_decide two_ne four_ne b256_ne lendA_fn lendA_own lendA_none llendA_fn llendA_none plain_bool plain_int plain_tup2 isNs_own isO_own isS_own isOs_own false_and and_false Q_nil Q_l Q_g Q_h Q_grd qgrdW_b qgrdW_tup lightD_some heavyD_some readD_some fnD_some fnD_own fnD_none callL_f ownH_some callH_f litD_some litE_some Q_call Q_bslice H_call pendOk_nil pendOk_cons pastOk_nil pastOk_cons Q_mv Q_pick Q_bin Q_un Q_convI Q_mkfunc Q_extract Q_min Q_max Q_lenS Q_lenA Q_field Q_idxA Q_mkiface Q_tassert Q_alloc Q_box Q_store Q_mkslice Q_append Q_appendZ Q_copy Q_clear Q_build Q_load Q_nilck Q_isnil Q_convS Q_slice Q_faddr Q_iaddr Q_iaddrA Q_len H_alloc H_box H_bslice H_store H_mkslice H_append H_appendZ H_copy H_clear free_mv free_pick free_bin free_un free_convI free_mkfunc free_extract free_min free_max free_lenS free_lenA free_field free_idxA free_mkiface free_tassert free_build free_load free_nilck free_isnil free_convS free_slice free_faddr free_iaddr free_iaddrA free_len callW_y List.length_map List.length_set leaves_r evR_some evRess1 evRess2 evRess3 evRes_t evRes_c nz_kind nz_enc nz_cred nz_source nz_parent nz_ienc nz_hash nz_un true_or or_true bsl_node idbs_node idbs_int appN appI appO ixo_nodes canon_row canon_rowI canon_rowO not_false_eq_true not_true_eq_false ldE_a ldE_c adE_b stE_b onE_a onP_b bsl_zero idbs_zero appN_zero
attribute [local go_sem low] condW_b grdW_b lgrdW_b ldP adP stP onO onPt
attribute [local simp] envL_cons envL_nil idb_int idb_bool idb_str idb_ints idb_nil idb_own idb_ptr entB_ints' idb_octs entB_octs idb_intss entB_intss idb_octss entB_octss idb_nodes entB_nodes idb_leafA idb_innerA idb_nodeA idb_agg idb_tup idb_iptr idb_fn idb_undef entB_dead entB_box

theorem patchSame_spec (p q : Patch) (hp : p.Ok) (hq : q.Ok) : Fun seat 118 [patchA p, patchA q] (.bool (decide (p = q))) := by
  refine Fun.of0R [r35, r106] told118 (by simp [il118]) (by simp [idb_patchA]) (by simp [idb_patchA]) 4 ?_
  simp only [il118, List.zipIdx_cons, List.zipIdx_nil, leafA, innerA, nodeA, patchA, Leaf.cells, Inner.cells, Node.cells, r35_c, r35_ask, r106_c, r106_ask, hp.n, hq.n, go_sem, Nat.reduceEqDiff, reduceIte, Nat.reduceAdd, Nat.reduceLeDiff, Nat.reduceLT, Nat.reduceSub]
  rcases p with ⟨a, b, c⟩
  rcases q with ⟨d, e, f⟩
  simp only [Patch.mk.injEq]
  iterate 12 ((all_goals intros); (all_goals try refine And.intro ?_ ?_))
  all_goals first | (show WP _ _ _ _ _ _ _) | grind
noncomputable def r118 : Reg seat := .of told118 (ask2 (fun a0' a1' => isP a0' ∧ isP a1' ∧ (dP a0').Ok ∧ (dP a1').Ok) fun a0' a1' => .fn (.bool (decide ((dP a0') = (dP a1'))))) (ask2_ok fun a0' a1' h => SaidOk.fn (Fun.weak (.cons (isP.weak h.1) (.cons (isP.weak h.2.1) .nil)) (patchSame_spec _ _ h.2.2.1 h.2.2.2)))
theorem r118_c : r118.c = 118 := rfl
open Classical in
theorem r118_ask (a0' a1' : AV) : r118.ask [a0', a1'] = if isP a0' ∧ isP a1' ∧ (dP a0').Ok ∧ (dP a1').Ok then some (Said.fn (.bool (decide ((dP a0') = (dP a1'))))) else none := by unfold r118 Reg.of ask2; exact ite_cl
def patchFew (p : Patch) : Prop := p.x.length ≤ 200 ∧ Few p.n
instance (p : Patch) : Decidable (patchFew p) := inferInstanceAs (Decidable (_ ∧ _))
theorem patchFew_spec (p : Patch) (hp : p.Ok) : Fun seat 111 [patchA p] (.bool (decide (patchFew p))) := by
  refine Fun.of0R [r100] told111 (by simp [il111]) (by simp [idb_patchA]) (by simp [idb_patchA]) 4 ?_
  simp only [il111, List.zipIdx_cons, List.zipIdx_nil, leafA, innerA, nodeA, patchA, Leaf.cells, Inner.cells, Node.cells, r100_c, r100_ask, hp.n, go_sem, Nat.reduceEqDiff, reduceIte, Nat.reduceAdd, Nat.reduceLeDiff, Nat.reduceLT, Nat.reduceSub]
  iterate 12 ((all_goals intros); (all_goals try refine And.intro ?_ ?_))
  all_goals first | (show WP _ _ _ _ _ _ _) | grind [patchFew]
noncomputable def r111 : Reg seat := .of told111 (ask1 (fun a0' => isP a0' ∧ (dP a0').Ok) fun a0' => .fn (.bool (decide (patchFew (dP a0'))))) (ask1_ok fun a0' h => SaidOk.fn (Fun.weak (.cons (isP.weak h.1) .nil) (patchFew_spec _ h.2)))
theorem r111_c : r111.c = 111 := rfl
open Classical in
theorem r111_ask (a0' : AV) : r111.ask [a0'] = if isP a0' ∧ (dP a0').Ok then some (Said.fn (.bool (decide (patchFew (dP a0'))))) else none := by unfold r111 Reg.of ask1; exact ite_cl

theorem dknown_spec (t : List Node) (ht : Tree.Ok t) : Fun seat 135 [nodes t] (nodes (known t)) := by
  refine Fun.of0R [r101] told135 (by simp [il135]) (by simp [idb_patchA]) (by simp [idb_patchA]) 4 ?_
  simp only [il135, List.zipIdx_cons, List.zipIdx_nil, leafA, innerA, nodeA, patchA, Leaf.cells, Inner.cells, Node.cells, r101_c, r101_ask, ht, go_sem, Nat.reduceEqDiff, reduceIte, Nat.reduceAdd, Nat.reduceLeDiff, Nat.reduceLT, Nat.reduceSub]
  iterate 12 ((all_goals intros); (all_goals try refine And.intro ?_ ?_))
  all_goals first | (show WP _ _ _ _ _ _ _) | grind [known]
noncomputable def r135 : Reg seat := .of told135 (ask1 (fun a0' => isNs a0' ∧ Tree.Ok (dNs a0')) fun a0' => .fn (nodes (known (dNs a0')))) (ask1_ok fun a0' h => SaidOk.fn (Fun.weak (.cons (isNs.weak h.1) .nil) (dknown_spec _ h.2)))
theorem r135_c : r135.c = 135 := rfl
open Classical in
theorem r135_ask (a0' : AV) : r135.ask [a0'] = if isNs a0' ∧ Tree.Ok (dNs a0') then some (Said.fn (nodes (known (dNs a0')))) else none := by unfold r135 Reg.of ask1; exact ite_cl

theorem copyZ (t : List Node) (n : Nat) : evCopy [.arr 8 0 (List.replicate n zeroA)] 8 (.own 0 0 0 n) (t.map nodeA) = some (.int .i64 (min t.length n : Nat), [.arr 8 0 ((t.take n).map nodeA ++ List.replicate (n - t.length) zeroA)]) := by
  have h1 : szOk [.arr 8 0 (List.replicate n zeroA)] 8 (t.map nodeA) = true := encNode.szOk _ t
  simp only [evCopy, List.getElem?_cons_zero, h1, List.length_replicate, Nat.zero_le, Nat.le_refl, and_self, if_true, List.length_map, Nat.sub_zero, List.take_zero, List.nil_append, Nat.zero_add, List.set_cons_zero, List.drop_replicate]
  congr 4
  · rw [List.map_take]; congr 1
    rcases Nat.le_total t.length n with h | h
    · rw [Nat.min_eq_left h, List.take_of_length_le (by simp), List.take_of_length_le (by simpa using h)]
    · rw [Nat.min_eq_right h]
    congr 1; omega

theorem derefZ (H : List Entry) (l : List Node) (n : Nat) : (l.map nodeA ++ List.replicate n zeroA).map (derefN H 2) = (l ++ List.replicate n Node.zero).map nodeA := by
  rw [List.map_append, List.map_map, List.map_replicate, zeroA_norm, List.map_append, List.map_replicate]
  congr 1
  exact List.map_congr_left fun x _ => encNode.norm H 2 x
theorem fitted_spec (t : List Node) (n : Int) (hn : 0 ≤ n ∧ n ≤ 4294967295) : FunOwn seat 134 [nodes t, .int .i64 n] 8 ((fitT t n.toNat).map nodeA) := by
  obtain ⟨k, rfl⟩ : ∃ k : Nat, n = k := ⟨n.toNat, by omega⟩
  have mk : evMkslice [] 8 160 zeroA (.int .i64 (k : Int)) (.int .i64 (k : Int)) = some (.own 0 0 0 k, [.arr 8 0 (List.replicate k zeroA)]) := by
    have h1 : szOk [] 8 [zeroA] = true := rfl
    simp only [evMkslice, h1, Int.toNat_natCast, List.length_nil, List.nil_append]
    rw [if_pos (by refine ⟨by omega, trivial, by unfold maxRow; omega, by decide, by decide, trivial⟩)]
  have cz := copyZ t k
  unfold zeroA at mk cz
  refine FunOwn.of0W told134 (by simp [il134]) (by simp ) (encNode.xs_idb _) ?_
  simp only [il134, List.zipIdx_cons, List.zipIdx_nil, Nat.zero_add, List.map_cons, List.map_nil]
  refine WP.seqR [] fun K hK => ?_
  simp only [go_sem, Nat.reduceEqDiff, reduceIte, Nat.reduceAdd, Nat.reduceLeDiff, Nat.reduceLT, Nat.reduceSub]
  refine hK _ (WP.seqR [] fun K hK => ?_)
  simp only [go_sem, Nat.reduceEqDiff, reduceIte, Nat.reduceAdd, Nat.reduceLeDiff, Nat.reduceLT, Nat.reduceSub, mk]
  refine hK _ (WP.seqR [] fun K hK => ?_)
  simp only [go_sem, Nat.reduceEqDiff, reduceIte, Nat.reduceAdd, Nat.reduceLeDiff, Nat.reduceLT, Nat.reduceSub, cz]
  refine hK _ (WP.derefRow 0 2 rfl ?_)
  have dz := fun H => derefZ H (t.take k) (k - t.length)
  unfold zeroA at dz
  simp only [List.set_cons_zero, dz]
  refine wpc_soundR [] ?_
  simp only [go_sem, Nat.reduceEqDiff, reduceIte, Nat.reduceAdd, Nat.reduceLeDiff, Nat.reduceLT, Nat.reduceSub]
  exact .inl ⟨0, 0, by rw [Int.toNat_natCast, fitT_len], by rw [Int.toNat_natCast]; rfl⟩
noncomputable def r134 : Reg seat := .of told134 (ask2 (fun a0' a1' => isNs a0' ∧ isI a1' ∧ 0 ≤ (dI a1') ∧ (dI a1') ≤ 4294967295) fun a0' a1' => .own 8 ((fitT (dNs a0') (dI a1').toNat).map nodeA)) (ask2_ok fun a0' a1' h => SaidOk.own (FunOwn.weak (.cons (isNs.weak h.1) (.cons (isI.weak h.2.1) .nil)) (fitted_spec _ _ h.2.2)) (by first | exact encU8.xs_idb _ | exact encI64.xs_idb _ | exact encNode.xs_idb _))
theorem r134_c : r134.c = 134 := rfl
open Classical in
theorem r134_ask (a0' a1' : AV) : r134.ask [a0', a1'] = if isNs a0' ∧ isI a1' ∧ 0 ≤ (dI a1') ∧ (dI a1') ≤ 4294967295 then some (Said.own 8 ((fitT (dNs a0') (dI a1').toNat).map nodeA)) else none := by unfold r134 Reg.of ask2; exact ite_cl

theorem may_iff (p : Patch) : May p ↔ (∀ j (h : j < p.x.length), (0 ≤ p.x[j] ∧ p.x[j] < p.len) ∧ ∀ i (hi : i + 1 = j), p.x[i] < p.x[j]) ∧ (p.len = 0 ∨ Whole p.len) ∧ p.n.length = p.x.length := by
  unfold May
  constructor
  · rintro ⟨⟨h1, h2⟩, h3⟩
    exact ⟨fun j hj => ⟨h2 _ (List.getElem_mem hj), fun i hi => List.pairwise_iff_getElem.1 h1 i j (by omega) hj (by omega)⟩, h3⟩
  · rintro ⟨h1, h3⟩
    refine ⟨⟨rises_iff_step.2 fun j hj => (h1 (j + 1) hj).2 j rfl, fun x hx => ?_⟩, h3⟩
    obtain ⟨j, hj, rfl⟩ := List.getElem_of_mem hx
    exact (h1 j hj).1

theorem refMay_spec (p : Patch) (hp : p.Ok) : Fun seat 136 [patchA p] (.bool (decide (May p))) := by
  have hl := hp.x.len
  refine Fun.of0R [r152] told136 (by simp [il136]) (by simp [idb_patchA]) (by simp [idb_patchA]) 4 ?_
  simp only [il136, List.zipIdx_cons, List.zipIdx_nil, leafA, innerA, nodeA, patchA, Leaf.cells, Inner.cells, Node.cells, r152_c, r152_ask, go_sem, Nat.reduceEqDiff, reduceIte, Nat.reduceAdd, Nat.reduceLeDiff, Nat.reduceLT, Nat.reduceSub]
  refine WP.loopG (fun k => k ≤ p.x.length ∧ ∀ j (h : j < p.x.length), j < k → (0 ≤ p.x[j] ∧ p.x[j] < p.len) ∧ ∀ i (hi : i + 1 = j), p.x[i] < p.x[j]) (fun k => [(1, .ptr 0 0), (3, .int .i64 k)]) (fun k => [.box [.int .i64 p.len, ints p.x, nodes p.n]]) (fun k => p.x.length - k) 0 ⟨Nat.zero_le _, fun j _ h => absurd h (Nat.not_lt_zero j)⟩ (fun k _ => by simp [idb_patchA]) (by simp ) ?_
  rintro k ⟨hk, hno⟩
  refine wpc_soundR [] ?_
  simp only [leafA, innerA, nodeA, patchA, Leaf.cells, Inner.cells, Node.cells, go_sem, Nat.reduceEqDiff, reduceIte, Nat.reduceAdd, Nat.reduceLeDiff, Nat.reduceLT, Nat.reduceSub]
  refine ⟨fun hlt => ?_, fun hge => ?_⟩
  · have hk' : k < p.x.length := by omega
    refine WP.drawR [] mixed (by decide) ?_
    have bad : ∀ P : Prop, (May p → P) → ¬ P → ¬ May p := fun P h h1 h2 => h1 (h h2)
    have b1 := bad (0 ≤ p.x[k] ∧ p.x[k] < p.len) fun h => h.at hk'
    by_cases h0 : k = 0
    · subst h0
      have e : ∀ H, evIndex H 1 (ints p.x) (.int .i64 0) = _ := fun H => index_ints H p.x 0 hk'
      simp only [leafA, innerA, nodeA, patchA, Leaf.cells, Inner.cells, Node.cells, e, fun H => index_ints H p.x 0 hk', Int.natCast_zero, Int.cast_ofNat_Int, go_sem, Nat.reduceEqDiff, reduceIte, Nat.reduceAdd, Nat.reduceLeDiff, Nat.reduceLT, Nat.reduceSub]
      clear bad
      iterate 12 ((all_goals intros); (all_goals try refine And.intro ?_ ?_))
      all_goals first | (show WP _ _ _ _ _ _ _) | exact ⟨1, ⟨hk', scanS hno fun _ => ⟨by omega, fun i hi => by omega⟩⟩, by omega, by simp [wrapS (show 0 < 9223372036854775807 by omega), wrap64s 1 (by omega)]⟩ | grind
    · have b2 := bad (p.x[k - 1] < p.x[k]) fun h => h.step hk' (by omega)
      have e : IntKind.i64.wrap ((k : Int) - 1) = ((k - 1 : Nat) : Int) := by rw [wrap64 _ (by omega) (by omega)]; omega
      simp only [leafA, innerA, nodeA, patchA, Leaf.cells, Inner.cells, Node.cells, fun H => index_ints H p.x k hk', fun H => index_ints H p.x (k - 1) (by omega), e, go_sem, Nat.reduceEqDiff, reduceIte, Nat.reduceAdd, Nat.reduceLeDiff, Nat.reduceLT, Nat.reduceSub]
      clear bad
      iterate 12 ((all_goals intros); (all_goals try refine And.intro ?_ ?_))
      all_goals first | (show WP _ _ _ _ _ _ _) | exact ⟨k + 1, ⟨hk', scanS hno fun _ => ⟨by omega, fun i hi => (by have hik : i = k - 1 := by omega
                                                                                                                    subst hik; omega)⟩⟩, by omega, by simp [wrapS (show k < 9223372036854775807 by omega)]⟩ | grind
  · have hno1 := scanE hno hge
    have e : May p ↔ (p.len = 0 ∨ Whole p.len) ∧ p.n.length = p.x.length := by rw [may_iff]; exact ⟨fun h => h.2, fun h => ⟨hno1, h⟩⟩
    simp only [leafA, innerA, nodeA, patchA, Leaf.cells, Inner.cells, Node.cells, r152_c, r152_ask, go_sem, Nat.reduceEqDiff, reduceIte, Nat.reduceAdd, Nat.reduceLeDiff, Nat.reduceLT, Nat.reduceSub]
    iterate 12 ((all_goals intros); (all_goals try refine And.intro ?_ ?_))
    all_goals first | (show WP _ _ _ _ _ _ _) | grind
noncomputable def r136 : Reg seat := .of told136 (ask1 (fun a0' => isP a0' ∧ (dP a0').Ok) fun a0' => .fn (.bool (decide (May (dP a0'))))) (ask1_ok fun a0' h => SaidOk.fn (Fun.weak (.cons (isP.weak h.1) .nil) (refMay_spec _ h.2)))
theorem r136_c : r136.c = 136 := rfl
open Classical in
theorem r136_ask (a0' : AV) : r136.ask [a0'] = if isP a0' ∧ (dP a0').Ok then some (Said.fn (.bool (decide (May (dP a0'))))) else none := by unfold r136 Reg.of ask1; exact ite_cl

attribute [local simp] prev_zero
theorem may_spec (p : Patch) (hp : p.Ok) : Fun seat 133 [patchA p] (.bool (decide (May p))) := by
  have hl := hp.x.len
  have c0 : ¬ (p.len = 0 ∨ Whole p.len) → ¬ May p := fun h h1 => h h1.2.1
  have c1 : ¬ p.n.length = p.x.length → ¬ May p := fun h h1 => h h1.2.2
  refine Fun.of0R [r125] told133 (by simp [il133]) (by simp [idb_patchA]) (by simp [idb_patchA]) 4 ?_
  simp only [il133, List.zipIdx_cons, List.zipIdx_nil, leafA, innerA, nodeA, patchA, Leaf.cells, Inner.cells, Node.cells, r125_c, r125_ask, go_sem, Nat.reduceEqDiff, reduceIte, Nat.reduceAdd, Nat.reduceLeDiff, Nat.reduceLT, Nat.reduceSub]
  iterate 12 ((all_goals intros); (all_goals try refine And.intro ?_ ?_))
  all_goals first | (show WP _ _ _ _ _ _ _) | grind
  all_goals
    have hw : p.len = 0 ∨ Whole p.len := by grind
    have hn : p.n.length = p.x.length := by omega
    clear c0 c1
    refine WP.loopG (fun k => k ≤ p.x.length ∧ ∀ j (h : j < p.x.length), j < k → prev p.x j < p.x[j] ∧ p.x[j] < p.len) (fun k => [(1, .ptr 0 0), (3, .int .i64 (prev p.x k)), (25, ints p.x), (26, .int .i64 p.x.length), (27, .int .i64 k)]) (fun k => [.box [.int .i64 p.len, ints p.x, nodes p.n]]) (fun k => p.x.length - k) 0 ⟨Nat.zero_le _, fun j _ h => absurd h (Nat.not_lt_zero j)⟩ (fun k _ => by simp [idb_patchA]) (by simp ) ?_
    rintro k ⟨hk, hno⟩
    refine wpc_soundR [] ?_
    simp only [leafA, innerA, nodeA, patchA, Leaf.cells, Inner.cells, Node.cells, go_sem, Nat.reduceEqDiff, reduceIte, Nat.reduceAdd, Nat.reduceLeDiff, Nat.reduceLT, Nat.reduceSub]
    refine ⟨fun hlt => ?_, fun hge => ?_⟩
    · have hk' : k < p.x.length := by omega
      simp only [leafA, innerA, nodeA, patchA, Leaf.cells, Inner.cells, Node.cells, fun H => index_ints H p.x k hk', go_sem, Nat.reduceEqDiff, reduceIte, Nat.reduceAdd, Nat.reduceLeDiff, Nat.reduceLT, Nat.reduceSub]
      have bad : ¬ (prev p.x k < p.x[k] ∧ p.x[k] < p.len) → ¬ May p := fun h h1 => h ⟨h1.prev hk', (h1.at hk').2⟩
      iterate 12 ((all_goals intros); (all_goals try refine And.intro ?_ ?_))
      all_goals first | exact ⟨k + 1, ⟨hk', scanS hno fun _ => by omega⟩, by omega, by simp [wrapS (show k < 9223372036854775807 by omega), prev_succ hk']⟩ | grind
    · have e : May p := may_of (scanE hno hge) hw hn
      grind
noncomputable def r133 : Reg seat := .of told133 (ask1 (fun a0' => isP a0' ∧ (dP a0').Ok) fun a0' => .fn (.bool (decide (May (dP a0'))))) (ask1_ok fun a0' h => SaidOk.fn (Fun.weak (.cons (isP.weak h.1) .nil) (may_spec _ h.2)))
theorem r133_c : r133.c = 133 := rfl
open Classical in
theorem r133_ask (a0' : AV) : r133.ask [a0'] = if isP a0' ∧ (dP a0').Ok then some (Said.fn (.bool (decide (May (dP a0'))))) else none := by unfold r133 Reg.of ask1; exact ite_cl

end Go.Proofs.Ytikkcicghpkbgaa.Al
