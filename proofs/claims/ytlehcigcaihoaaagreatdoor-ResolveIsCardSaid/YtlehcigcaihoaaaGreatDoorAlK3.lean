/-
  SPECS: the document's answers of layer 11.
-/
import Derived.Test.YtlehcigcaihoaaaGreatDoorAlK2
import Derived.Test.YtlehcigcaihoaaaGreatDoorAlJ2
import Derived.Test.YtlehcigcaihoaaaGreatDoorAlS5
set_option linter.unusedSimpArgs false
set_option linter.unusedVariables false
namespace Go.Proofs.YtlehcigcaihoaaaGreatDoor.Al
open Go
attribute [local go_sem] W_mv W_pick W_alloc W_box W_build W_bslice W_load W_store W_nilck W_bin W_isnil W_un W_convI W_convS W_mkiface W_mkfunc W_mkslice W_slice W_faddr W_field W_iaddr W_iaddrA W_idxA W_extract W_len W_lenS W_lenA W_min W_max W_append W_appendZ W_copy W_clear W_tassert W_invoke thenQ_normal thenQ_exit thenQ_goto thenQ_ret blockQ_normal blockQ_ret blockQ_goto blockQ_exit wpc_skip wpc_region wpc_draw wpc_seq wpc_cond wpc_block wpc_exit wpc_goto wpc_label wpc_ret wpc_loop wpc_range wpc_scope condW_true condW_false condW_dec condW_any W_nil W_call resW_some evalOp Opd.ev updo_envL updo_none setL_cons setL_nil envL_cons Option.map_some Option.bind_some evBin evInt List.map_cons List.map_nil Option.pure_def Option.bind_eq_bind W_grd' grdW_tt grdW_ff grdW_tf grdW_ft grdW_tup grdW_dt grdW_df lgrdW_tt lgrdW_ff lgrdW_tf lgrdW_ft lgrdW_tup lgrdW_dt lgrdW_df L_mv L_pick L_alloc L_box L_build L_bslice L_load L_store L_nilck L_bin L_isnil L_un L_convI L_convS L_mkiface L_mkfunc L_mkslice L_slice L_faddr L_field L_iaddr L_iaddrA L_idxA L_extract L_len L_lenS L_lenA L_min L_max L_append L_appendZ L_copy L_clear L_tassert L_nil L_call L_grd lresW_some upd_envL evUn beq_dec bne_dec leaves_ret1 leaves_end1 leaves_ret0 leaves_end0 leaves_ret2 leaves_ret3 rowLen_ints load_iptr0 not_dec heap_get0 heap_get1 heap_set0 heap_set1 heap_len1 heap_len2 heap_app heap_app2 bslice1_int seen_ints seen_one0 seen_one1 seen_one2 rowLen_own0 bslice0_int rowLen_own1 Nat.sub_zero Bool.not_true Bool.not_false List.length_nil List.length_cons List.nil_append List.cons_append Nat.zero_add load_iptrA canon_ptrI canon_bool canon_tup canon_agg canon_leafA canon_innerA canon_nodeA canon_ints' rowLen_ints0 seen_ints0 canon_ints0 rowLen_ints1 seen_ints1 canon_ints1 rowLen_ints2 seen_ints2 canon_ints2 rowLen_ints3 seen_ints3 canon_ints3 rowLen_octs seen_octs canon_octs' szOk_octs rowLen_octs0 seen_octs0 canon_octs0 rowLen_octs1 seen_octs1 canon_octs1 rowLen_octs2 seen_octs2 canon_octs2 rowLen_octs3 seen_octs3 canon_octs3 rowLen_intss seen_intss canon_intss' szOk_intss rowLen_intss0 seen_intss0 canon_intss0 rowLen_intss1 seen_intss1 canon_intss1 rowLen_intss2 seen_intss2 canon_intss2 rowLen_intss3 seen_intss3 canon_intss3 rowLen_octss seen_octss canon_octss' szOk_octss rowLen_octss0 seen_octss0 canon_octss0 rowLen_octss1 seen_octss1 canon_octss1 rowLen_octss2 seen_octss2 canon_octss2 rowLen_octss3 seen_octss3 canon_octss3 rowLen_nodes seen_nodes canon_nodes' szOk_nodes rowLen_nodes0 seen_nodes0 canon_nodes0 rowLen_nodes1 seen_nodes1 canon_nodes1 rowLen_nodes2 seen_nodes2 canon_nodes2 rowLen_nodes3 seen_nodes3 canon_nodes3 seen_list cells_int oneIn_int cells_bool oneIn_bool cells_str oneIn_str cells_list oneIn_list cells_func oneIn_func cells_nilfunc oneIn_nilfunc cells_iptr oneIn_iptr cells_iface oneIn_iface cells_nilIface oneIn_nilIface cells_own cells_ptr cells_anybool oneIn_anybool cells_agg oneIn_own0 oneIn_ptr0 seenL0 seenM0 oneIn_own1 oneIn_ptr1 seenL1 seenM1 oneIn_own2 oneIn_ptr2 seenL2 seenM2 oneIn_own3 oneIn_ptr3 seenL3 seenM3 oneIn_own4 oneIn_ptr4 seenL4 seenM4 oneIn_own5 oneIn_ptr5 seenL5 seenM5 cells_ints oneIn_ints cells_octs oneIn_octs cells_intss oneIn_intss cells_octss oneIn_octss cells_nodes oneIn_nodes ldB0 ldA0 adB0 stB0 ldB1 ldA1 adB1 stB1 ldB2 ldA2 adB2 stB2 ldB3 ldA3 adB3 stB3 ldB4 ldA4 adB4 stB4 ldB5 ldA5 adB5 stB5 List.getElem?_cons_zero List.getElem?_cons_succ beq_self_eq_true splice List.take_zero List.take_succ_cons List.drop_zero List.drop_succ_cons List.append_nil List.set_cons_zero List.set_cons_succ List.all_cons List.all_nil Bool.and_self and_self and_true true_and Nat.lt_irrefl Nat.zero_lt_one Nat.le_refl fillA evNil notA Bool.false_eq_true evMin_int evMax_int Option.map_none freezeP_all_nil freezeP_all_cons frzE_box frzE_arr frzE_dead foldA List.foldlM_cons List.foldlM_nil callW_f lcallW_f ansW_fn ansW_own lansW_fn lansW_own ansW_none lansW_none tab_cons tab_nil dI_int dB_bool dO_octs dO_ints dO_list dO_nil dOs_octss dOs_intss dOs_nil dLf_leafA dIn_innerA dN_nodeA dLf_agg dIn_agg dN_agg dNs_nodes dNs_list dNs_nil isI_int isU_int isB_bool isO_octs isO_nil isO_list isS_ints isS_nil isS_list isOs_octss isSs_intss isOs_nil isSs_nil isNs_nodes isNs_list isNs_nil isLf_leafA isIn_innerA isN_nodeA isLf_agg isIn_agg isN_agg leaf_eta inner_eta node_eta leaf_zero inner_zero node_zero dP_patchA dP_agg isP_patchA isP_agg patch_eta decide_eq_true_eq decide_eq_false_iff_not eq_self forall_const true_implies false_implies Bool.not_eq_true' Bool.not_eq_false' Bool.true_eq_false implies_true ne_eq ldI ldIA adI AV.tup.injEq AV.agg.injEq List.cons.injEq AV.int.injEq AV.bool.injEq nodes_inj octs_inj ints_inj nil_nodes nil_octs nil_ints canon_nilL decide_eq_decide two_ne four_ne b256_ne lendA_fn lendA_own lendA_none llendA_fn llendA_none plain_bool plain_int plain_tup2 isNs_own isO_own isS_own isOs_own false_and and_false Q_nil Q_l Q_g Q_h Q_grd qgrdW_b qgrdW_tup lightD_some heavyD_some readD_some fnD_some fnD_own fnD_none callL_f ownH_some callH_f litD_some litE_some Q_call Q_bslice H_call pendOk_nil pendOk_cons pastOk_nil pastOk_cons Q_mv Q_pick Q_bin Q_un Q_convI Q_mkfunc Q_extract Q_min Q_max Q_lenS Q_lenA Q_field Q_idxA Q_mkiface Q_tassert Q_alloc Q_box Q_store Q_mkslice Q_append Q_appendZ Q_copy Q_clear Q_build Q_load Q_nilck Q_isnil Q_convS Q_slice Q_faddr Q_iaddr Q_iaddrA Q_len H_alloc H_box H_bslice H_store H_mkslice H_append H_appendZ H_copy H_clear free_mv free_pick free_bin free_un free_convI free_mkfunc free_extract free_min free_max free_lenS free_lenA free_field free_idxA free_mkiface free_tassert free_build free_load free_nilck free_isnil free_convS free_slice free_faddr free_iaddr free_iaddrA free_len callW_y List.length_map List.length_set leaves_r evR_some evRess1 evRess2 evRess3 evRes_t evRes_c nz_kind nz_enc nz_cred nz_source nz_parent nz_ienc nz_hash nz_un true_or or_true bsl_node idbs_node idbs_int appN appI appO ixo_nodes canon_row canon_rowI canon_rowO not_false_eq_true not_true_eq_false ldE_a ldE_c adE_b stE_b onE_a onP_b bsl_zero idbs_zero appN_zero
attribute [local go_sem low] condW_b grdW_b lgrdW_b ldP adP stP onO onPt
attribute [local simp] envL_cons envL_nil idb_int idb_bool idb_str idb_ints idb_nil idb_own idb_ptr entB_ints' idb_octs entB_octs idb_intss entB_intss idb_octss entB_octss idb_nodes entB_nodes idb_leafA idb_innerA idb_nodeA idb_agg idb_tup idb_iptr idb_fn idb_undef entB_dead entB_box

theorem gt00 : ((0 : Int) > 0) = False := eq_false (by decide)
theorem kids_even {x w : Int} (h : IsN x w) : (x.toNat % 2 = 0 → leftI x w = -1 ∧ rightI x w = -1) ∧ (x.toNat % 2 = 1 → (0 ≤ leftI x w ∧ leftI x w < w) ∧ 0 ≤ rightI x w ∧ rightI x w < w) := by
  have := IsN.all (p := fun y n => (y % 2 = 0 → leftI (y : Int) (n : Int) = -1 ∧ rightI (y : Int) (n : Int) = -1) ∧ (y % 2 = 1 → (0 ≤ leftI (y : Int) (n : Int) ∧ leftI (y : Int) (n : Int) < (n : Int)) ∧ 0 ≤ rightI (y : Int) (n : Int) ∧ rightI (y : Int) (n : Int) < (n : Int))) (by decide +kernel) h
  rwa [h.cast.1, h.cast.2] at this
set_option maxHeartbeats 2000000 in
theorem refBelow_any (t : List Node) (hs : Sane t) : ∀ (f : Nat), f ≤ 7 → ∀ (x : Int), need t x ≤ f → 0 ≤ x ∧ x < t.length → Fun seat 303 [nodes t, .int .i64 x] (ints (resF f t x)) := by
  have hl := hs.len
  intro f
  induction f with
  | zero => intro _ x h hx; rw [need_in hx] at h; omega
  | succ f ih =>
    intro hf7 x hx hin
    have ih := ih (by omega)
    have hw : Whole t.length := hs.2.resolve_left (by omega)
    have hN : IsN x t.length := ⟨hw, hin⟩
    obtain ⟨k1, k2⟩ := kids_even hN
    obtain ⟨n1, n2⟩ := need_kids hw hin hx
    obtain ⟨q, rfl⟩ : ∃ q : Nat, x = q := ⟨x.toNat, by omega⟩
    have hq : q < t.length := by omega
    have e0 : nodeAt t ((q : Int)).toNat = t[q] := by rw [Int.toNat_natCast, nodeAt_lt hq]
    rw [Int.toNat_natCast] at k1 k2
    by_cases hk : t[q].kind = 0
    rotate_left
    · have e : resF (f + 1) t (q : Int) = (q : Int) :: t[q].inner.unmerged.map (fun i => 2 * i) := by
        unfold resF; rw [if_neg (by omega), e0, if_pos hk]
      rw [e]
      obtain ⟨u1, u2⟩ := unmerged_in (hs.1 q hq).2
      obtain ⟨u, hu⟩ : ∃ u, t[q].inner.unmerged = u := ⟨_, rfl⟩
      rw [hu] at u1 u2 ⊢
      obtain ⟨P, hP⟩ : ∃ P : Nat → List Int, P = fun j => (q : Int) :: (u.take j).map fun i => 2 * i := ⟨_, rfl⟩
      have hPl : ∀ k, k ≤ u.length → (P k).length = k + 1 := fun k hk => by rw [hP]; simp; omega
      have hPs : ∀ k (hk : k < u.length), P (k + 1) = P k ++ [2 * u[k]] := fun k hk => by rw [hP]; simp only [List.take_succ_eq_append_getElem hk, List.map_append, List.map_singleton, List.cons_append]
      have hPe : (q : Int) :: u.map (fun i => 2 * i) = P u.length := by rw [hP]; simp
      have hP0 : P 0 = [(q : Int)] := by rw [hP]; rfl
      rw [hPe]
      refine Fun.of0R [] told303 (by simp [il303]) (by simp [idb_patchA]) (by simp [idb_patchA]) 4 ?_
      simp -implicitDefEqProofs only [il303, List.zipIdx_cons, List.zipIdx_nil, leafA, innerA, nodeA, patchA, Leaf.cells, Inner.cells, Node.cells, decide_true, decide_false, hk, fun H => ix_nodes H t q hq, ne_eq, not_false_eq_true, go_sem, Nat.reduceEqDiff, reduceIte, Nat.reduceAdd, Nat.reduceLeDiff, Nat.reduceLT, Nat.reduceSub]
      refine WP.loopG (fun k => k ≤ u.length) (fun k => [(0, nodes t), (1, .int .i64 (q : Int)), (5, .own 0 k 0 (P k).length), (6, .int .i64 (k : Nat))]) (fun k => [.arr 1 k ((P k).map (AV.int .i64))]) (fun k => u.length - k) 0 (Nat.zero_le _)
        (fun k _ => ⟨by simp, by simp , fun e he => by simp only [List.mem_cons, List.not_mem_nil, or_false] at he; subst he; exact encI64.entB _ _ _ _⟩) (by simp [hP0]) ?_
      intro k hk1
      refine wpc_soundR [] ?_
      by_cases hlt : (k : Int) < (u.length : Nat)
      · have hk' : k < u.length := by omega
        have hb := u2 _ (List.getElem_mem hk')
        have w2 : IntKind.i64.wrap (2 * u[k]) = 2 * u[k] := wrap64 _ (by omega) (by omega)
        have m1 : (P k).length + 1 ≤ maxRow := by rw [hPl k hk1]; unfold maxRow; omega
        simp -implicitDefEqProofs only [leafA, innerA, nodeA, patchA, Leaf.cells, Inner.cells, Node.cells, decide_true, decide_false, hlt, fun H => ix_nodes H t q hq, hu, fun H => index_ints H u k hk', w2, m1, go_sem, Nat.reduceEqDiff, reduceIte, Nat.reduceAdd, Nat.reduceLeDiff, Nat.reduceLT, Nat.reduceSub]
        exact ⟨k + 1, hk', by omega, by simp [wrapS (show k < 9223372036854775807 by omega), hPs k hk'], by simp [hPs k hk']⟩
      · have e : k = u.length := by omega
        subst e
        simp -implicitDefEqProofs only [leafA, innerA, nodeA, patchA, Leaf.cells, Inner.cells, Node.cells, decide_true, decide_false, hlt, fun H => ix_nodes H t q hq, hu, go_sem, Nat.reduceEqDiff, reduceIte, Nat.reduceAdd, Nat.reduceLeDiff, Nat.reduceLT, Nat.reduceSub]
    · have e : resF (f + 1) t (q : Int) = resF f t (leftI q t.length) ++ resF f t (rightI q t.length) := by
        conv => lhs; unfold resF
        rw [if_neg (by omega), e0, if_neg (not_not_intro hk)]
      rw [e]
      have tm : ((q : Nat) : Int).tmod 2 = ((q % 2 : Nat) : Int) := by rw [Int.tmod_eq_emod_of_nonneg (by omega)]; omega
      rcases (by omega : q % 2 = 0 ∨ q % 2 = 1) with ho | ho
      · obtain ⟨l1, l2⟩ := k1 ho
        rw [l1, l2, resF_out f (x := -1) (by omega)]
        have hg : (((q % 2 : Nat) : Int) = 0) = True := eq_true (by omega)
        refine Fun.of0R [] told303 (by simp [il303]) (by simp [idb_patchA]) (by simp [idb_patchA]) 4 ?_
        simp -implicitDefEqProofs only [il303, List.zipIdx_cons, List.zipIdx_nil, leafA, innerA, nodeA, patchA, Leaf.cells, Inner.cells, Node.cells, decide_true, decide_false, hk, fun H => ix_nodes H t q hq, tm, hg, not_true_eq_false, go_sem, Nat.reduceEqDiff, reduceIte, Nat.reduceAdd, Nat.reduceLeDiff, Nat.reduceLT, Nat.reduceSub]
        try rfl
      · obtain ⟨l1, l2⟩ := k2 ho
        have hg : ¬ ((q % 2 : Nat) : Int) = 0 := by omega
        have hA := resF_len hs f (leftI q t.length)
        have hB := resF_len hs f (rightI q t.length)
        have iA := ih _ n1 l1
        have iB := ih _ n2 l2
        have hp : 2 ^ f ≤ 2 ^ 7 := Nat.pow_le_pow_right (by decide) (by omega)
        obtain ⟨l, hL⟩ : ∃ l, leftI (q : Int) t.length = l := ⟨_, rfl⟩
        obtain ⟨r, hR⟩ : ∃ r, rightI (q : Int) t.length = r := ⟨_, rfl⟩
        rw [hL] at hA iA ⊢
        rw [hR] at hB iB ⊢
        obtain ⟨A, hAe⟩ : ∃ A, resF f t l = A := ⟨_, rfl⟩
        obtain ⟨B, hBe⟩ : ∃ B, resF f t r = B := ⟨_, rfl⟩
        rw [hAe] at hA iA ⊢
        rw [hBe] at hB iB ⊢
        have a1 : ∃ v, evAppend [Entry.arr 1 0 []] 1 8 (.own 0 0 0 0) (A.map (AV.int .i64)) = some (.own 0 v 0 A.length, [.arr 1 v (A.map (AV.int .i64))]) := by
          obtain ⟨v, hv⟩ := encI64.app_any (H := [Entry.arr 1 0 (([] : List Int).map (AV.int .i64))]) (id := 0) (ver := 0) (l := []) (ys := A) (bytes := 8) rfl (by unfold maxRow; simp; omega) (by decide)
          exact ⟨v, by simpa [encI64] using hv⟩
        obtain ⟨v, a1⟩ := a1
        have a2 : ∃ v2, evAppend [Entry.arr 1 v (A.map (AV.int .i64))] 1 8 (.own 0 v 0 A.length) (B.map (AV.int .i64)) = some (.own 0 v2 0 (A ++ B).length, [.arr 1 v2 ((A ++ B).map (AV.int .i64))]) := by
          obtain ⟨v2, hv⟩ := encI64.app_any (H := [Entry.arr 1 v (A.map (AV.int .i64))]) (id := 0) (ver := v) (l := A) (ys := B) (bytes := 8) rfl (by unfold maxRow; omega) (by decide)
          exact ⟨v2, by simpa [encI64] using hv⟩
        obtain ⟨v2, a2⟩ := a2
        have b0 : evBslice ([] : List Entry) 1 0 (.int .i64 0) [] = some (.own 0 0 0 0, [.arr 1 0 []]) := rfl
        refine Fun.of0R [r306, r307] told303 (by simp [il303]) (by simp [idb_patchA]) (by simp [idb_patchA]) 4 ?_
        simp -implicitDefEqProofs only [il303, List.zipIdx_cons, List.zipIdx_nil, leafA, innerA, nodeA, patchA, Leaf.cells, Inner.cells, Node.cells, r306_c, r306_ask, r307_c, r307_ask, decide_true, decide_false, hk, fun H => ix_nodes H t q hq, tm, hg, b0, hL, hR, not_true_eq_false, go_sem, Nat.reduceEqDiff, reduceIte, Nat.reduceAdd, Nat.reduceLeDiff, Nat.reduceLT, Nat.reduceSub]
        refine Callee.f told303 iA ?_
        simp -implicitDefEqProofs only [leafA, innerA, nodeA, patchA, Leaf.cells, Inner.cells, Node.cells, r306_c, r306_ask, r307_c, r307_ask, decide_true, decide_false, a1, hR, go_sem, Nat.reduceEqDiff, reduceIte, Nat.reduceAdd, Nat.reduceLeDiff, Nat.reduceLT, Nat.reduceSub]
        refine Callee.f told303 iB ?_
        simp -implicitDefEqProofs only [leafA, innerA, nodeA, patchA, Leaf.cells, Inner.cells, Node.cells, r306_c, r306_ask, r307_c, r307_ask, decide_true, decide_false, a2, go_sem, Nat.reduceEqDiff, reduceIte, Nat.reduceAdd, Nat.reduceLeDiff, Nat.reduceLT, Nat.reduceSub]
theorem refBelow_spec (t : List Node) (x : Int) (hs : Sane t) (h0 : 0 ≤ x) (h1 : x < t.length) : Fun seat 303 [nodes t, .int .i64 x] (ints (resI t x)) :=
  refBelow_any t hs 7 (Nat.le_refl _) x (need_le (hs.2.resolve_left (by omega)) x) ⟨h0, h1⟩
noncomputable def r303 : Reg seat := .of told303 (ask2 (fun a0' a1' => isNs a0' ∧ isI a1' ∧ Sane (dNs a0') ∧ 0 ≤ (dI a1') ∧ (dI a1') < (dNs a0').length) fun a0' a1' => .fn (ints (resI (dNs a0') (dI a1')))) (ask2_ok fun a0' a1' h => SaidOk.fn (Fun.weak (.cons (isNs.weak h.1) (.cons (isI.weak h.2.1) .nil)) (refBelow_spec _ _ h.2.2.1 h.2.2.2.1 h.2.2.2.2)))
theorem r303_c : r303.c = 303 := rfl
open Classical in
theorem r303_ask (a0' a1' : AV) : r303.ask [a0', a1'] = if isNs a0' ∧ isI a1' ∧ Sane (dNs a0') ∧ 0 ≤ (dI a1') ∧ (dI a1') < (dNs a0').length then some (Said.fn (ints (resI (dNs a0') (dI a1')))) else none := by unfold r303 Reg.of ask2; exact ite_cl
theorem refLeaves_spec (t : List Node) (ht : Tree.Ok t) : Fun seat 295 [nodes t] (.int .i64 (leaves_ t)) := by
  have hl := known_len t
  have w1 : IntKind.i64.wrap (((known t).length : Int) + 1) = ((known t).length : Int) + 1 := wrap64 _ (by omega) (by omega)
  have q2 : IntKind.i64.wrap ((((known t).length : Int) + 1).tdiv 2) = (((known t).length : Int) + 1) / 2 := quo2 _ (by omega)
  unfold leaves_
  refine Fun.of0R [r137] told295 (by simp [il295]) (by simp [idb_patchA]) (by simp [idb_patchA]) 4 ?_
  simp -implicitDefEqProofs only [il295, List.zipIdx_cons, List.zipIdx_nil, leafA, innerA, nodeA, patchA, Leaf.cells, Inner.cells, Node.cells, r137_c, r137_ask, decide_true, decide_false, ht, w1, q2, go_sem, Nat.reduceEqDiff, reduceIte, Nat.reduceAdd, Nat.reduceLeDiff, Nat.reduceLT, Nat.reduceSub]
noncomputable def r295 : Reg seat := .of told295 (ask1 (fun a0' => isNs a0' ∧ Tree.Ok (dNs a0')) fun a0' => .fn (.int .i64 (leaves_ (dNs a0')))) (ask1_ok fun a0' h => SaidOk.fn (Fun.weak (.cons (isNs.weak h.1) .nil) (refLeaves_spec _ h.2)))
theorem r295_c : r295.c = 295 := rfl
open Classical in
theorem r295_ask (a0' : AV) : r295.ask [a0'] = if isNs a0' ∧ Tree.Ok (dNs a0') then some (Said.fn (.int .i64 (leaves_ (dNs a0')))) else none := by unfold r295 Reg.of ask1; exact ite_cl
theorem refResolve_spec (t : List Node) (x : Int) (ht : Tree.Ok t) : Fun seat 298 [nodes t, .int .i64 x] (ints (resI (known t) x)) := by
  have hs := known_sane t
  by_cases h0 : x < 0
  · rw [resI_out (by omega)]
    refine Fun.of0R [r137] told298 (by simp [il298]) (by simp [idb_patchA]) (by simp [idb_patchA]) 4 ?_
    simp -implicitDefEqProofs only [il298, List.zipIdx_cons, List.zipIdx_nil, leafA, innerA, nodeA, patchA, Leaf.cells, Inner.cells, Node.cells, r137_c, r137_ask, decide_true, decide_false, ht, h0, go_sem, Nat.reduceEqDiff, reduceIte, Nat.reduceAdd, Nat.reduceLeDiff, Nat.reduceLT, Nat.reduceSub]
    try rfl
  by_cases h1 : x ≥ (known t).length
  · rw [resI_out (by omega)]
    refine Fun.of0R [r137] told298 (by simp [il298]) (by simp [idb_patchA]) (by simp [idb_patchA]) 4 ?_
    simp -implicitDefEqProofs only [il298, List.zipIdx_cons, List.zipIdx_nil, leafA, innerA, nodeA, patchA, Leaf.cells, Inner.cells, Node.cells, r137_c, r137_ask, decide_true, decide_false, ht, h0, h1, go_sem, Nat.reduceEqDiff, reduceIte, Nat.reduceAdd, Nat.reduceLeDiff, Nat.reduceLT, Nat.reduceSub]
    try rfl
  have g0 : 0 ≤ x := by omega
  have g1 : x < (known t).length := by omega
  refine Fun.of0R [r137, r303] told298 (by simp [il298]) (by simp [idb_patchA]) (by simp [idb_patchA]) 4 ?_
  simp -implicitDefEqProofs only [il298, List.zipIdx_cons, List.zipIdx_nil, leafA, innerA, nodeA, patchA, Leaf.cells, Inner.cells, Node.cells, r137_c, r137_ask, r303_c, r303_ask, decide_true, decide_false, ht, h0, h1, hs, g0, g1, go_sem, Nat.reduceEqDiff, reduceIte, Nat.reduceAdd, Nat.reduceLeDiff, Nat.reduceLT, Nat.reduceSub]
noncomputable def r298 : Reg seat := .of told298 (ask2 (fun a0' a1' => isNs a0' ∧ isI a1' ∧ Tree.Ok (dNs a0')) fun a0' a1' => .fn (ints (resI (known (dNs a0')) (dI a1')))) (ask2_ok fun a0' a1' h => SaidOk.fn (Fun.weak (.cons (isNs.weak h.1) (.cons (isI.weak h.2.1) .nil)) (refResolve_spec _ _ h.2.2)))
theorem r298_c : r298.c = 298 := rfl
open Classical in
theorem r298_ask (a0' a1' : AV) : r298.ask [a0', a1'] = if isNs a0' ∧ isI a1' ∧ Tree.Ok (dNs a0') then some (Said.fn (ints (resI (known (dNs a0')) (dI a1')))) else none := by unfold r298 Reg.of ask2; exact ite_cl

/-- Those of a list of pairs whose first is wanted. -/
theorem bes_loop {p : Int → Bool} {l : List Int} {k : Nat} (hk : k < l.length) : delF p (l.take (k + 1)) = if p l[k] = true then delF p (l.take k) else delF p (l.take k) ++ [l[k]] := delF_take hk
set_option maxHeartbeats 2000000 in
theorem refBeside_spec (t : List Node) (i : Int) (ht : Tree.Ok t) : Fun seat 300 [nodes t, .int .i64 i] (ints (besI t i)) := by
  have hs := known_sane t
  have hl := known_len t
  have ok := known_ok ht
  have lv : leaves_ (known t) = ((known t).length + 1) / 2 := by unfold leaves_; rw [known_known]
  by_cases h0 : i < 0
  · have e : besI t i = [] := if_pos (.inl h0)
    rw [e]
    refine Fun.of0R [r137] told300 (by simp [il300]) (by simp [idb_patchA]) (by simp [idb_patchA]) 4 ?_
    simp -implicitDefEqProofs only [il300, List.zipIdx_cons, List.zipIdx_nil, leafA, innerA, nodeA, patchA, Leaf.cells, Inner.cells, Node.cells, r137_c, r137_ask, decide_true, decide_false, ht, h0, go_sem, Nat.reduceEqDiff, reduceIte, Nat.reduceAdd, Nat.reduceLeDiff, Nat.reduceLT, Nat.reduceSub]
    try rfl
  by_cases h1 : i ≥ leaves_ (known t)
  · have e : besI t i = [] := by
      unfold besI
      rcases hs.2 with hz | hw
      · rw [hz]
        split
        · rfl
        · have hi : i = 0 := by omega
          subst hi
          rw [co_out (fun h => by have := h.2.2; omega)]; rfl
      · have := hw.odd
        rw [if_pos (.inr (by omega))]
    rw [e]
    refine Fun.of0R [r137, r295] told300 (by simp [il300]) (by simp [idb_patchA]) (by simp [idb_patchA]) 4 ?_
    simp -implicitDefEqProofs only [il300, List.zipIdx_cons, List.zipIdx_nil, leafA, innerA, nodeA, patchA, Leaf.cells, Inner.cells, Node.cells, r137_c, r137_ask, r295_c, r295_ask, decide_true, decide_false, ht, h0, ok, h1, go_sem, Nat.reduceEqDiff, reduceIte, Nat.reduceAdd, Nat.reduceLeDiff, Nat.reduceLT, Nat.reduceSub]
    try rfl
  have e : besI t i = delF (fun s => decide (resI (known t) s = [])) (coI (2 * i) (known t).length) := if_neg (by omega)
  rw [e]
  obtain ⟨a, ha⟩ : ∃ a, known t = a := ⟨_, rfl⟩
  rw [ha] at hs hl ok h1 lv ⊢
  have w1 : IntKind.i64.wrap (2 * i) = 2 * i := wrap64 _ (by omega) (by omega)
  have hcl := co_len (2 * i) a.length
  have hdl := dir_len (2 * i) a.length
  have hci : ∀ s ∈ coI (2 * i) a.length, 0 ≤ s ∧ s < a.length := fun s h => co_in h
  obtain ⟨C, hC⟩ : ∃ C, coI (2 * i) a.length = C := ⟨_, rfl⟩
  rw [hC] at hcl hci ⊢
  refine Fun.of0W told300 (by simp [il300]) (by simp ) (by simp ) 4 ?_
  simp only [il300, List.zipIdx_cons, List.zipIdx_nil, Nat.zero_add]
  refine WP.seqR [] fun K hK => ?_
  simp -implicitDefEqProofs only [leafA, innerA, nodeA, patchA, Leaf.cells, Inner.cells, Node.cells, decide_true, decide_false, go_sem, Nat.reduceEqDiff, reduceIte, Nat.reduceAdd, Nat.reduceLeDiff, Nat.reduceLT, Nat.reduceSub]
  refine hK _ ?_
  clear hK K
  refine WP.seqR [r137] fun K hK => ?_
  simp -implicitDefEqProofs only [leafA, innerA, nodeA, patchA, Leaf.cells, Inner.cells, Node.cells, r137_c, r137_ask, decide_true, decide_false, ht, ha, go_sem, Nat.reduceEqDiff, reduceIte, Nat.reduceAdd, Nat.reduceLeDiff, Nat.reduceLT, Nat.reduceSub]
  refine hK _ ?_
  clear hK K
  refine WP.seqR [r295] fun K hK => ?_
  simp -implicitDefEqProofs only [leafA, innerA, nodeA, patchA, Leaf.cells, Inner.cells, Node.cells, r295_c, r295_ask, decide_true, decide_false, ok, h0, h1, go_sem, Nat.reduceEqDiff, reduceIte, Nat.reduceAdd, Nat.reduceLeDiff, Nat.reduceLT, Nat.reduceSub]
  refine hK _ ?_
  clear hK K
  refine WP.seqR [r304] fun K hK => ?_
  simp -implicitDefEqProofs only [leafA, innerA, nodeA, patchA, Leaf.cells, Inner.cells, Node.cells, r304_c, r304_ask, decide_true, decide_false, w1, hC, go_sem, Nat.reduceEqDiff, reduceIte, Nat.reduceAdd, Nat.reduceLeDiff, Nat.reduceLT, Nat.reduceSub]
  refine hK _ ?_
  clear hK K
  refine WP.seqR [] fun K hK => ?_
  simp -implicitDefEqProofs only [leafA, innerA, nodeA, patchA, Leaf.cells, Inner.cells, Node.cells, decide_true, decide_false, go_sem, Nat.reduceEqDiff, reduceIte, Nat.reduceAdd, Nat.reduceLeDiff, Nat.reduceLT, Nat.reduceSub]
  refine hK _ (WP.weakL [(5, nodes a), (6, ints C), (7, .list true [])] ?_ (WP.adopt 7 1 rfl ?_))
  · simp only [envL_cons, Nat.reduceEqDiff, reduceIte, List.mem_cons, List.not_mem_nil, or_false, forall_eq_or_imp, forall_eq, weak_refl, and_self]
  rw [upd_envL]
  clear hK K
  refine wpc_soundR [] ?_
  simp -implicitDefEqProofs only [leafA, innerA, nodeA, patchA, Leaf.cells, Inner.cells, Node.cells, decide_true, decide_false, go_sem, Nat.reduceEqDiff, reduceIte, Nat.reduceAdd, Nat.reduceLeDiff, Nat.reduceLT, Nat.reduceSub]
  obtain ⟨P, hP⟩ : ∃ P : Nat → List Int, P = fun k => delF (fun s => decide (resI a s = [])) (C.take k) := ⟨_, rfl⟩
  have hPl : ∀ k, k ≤ C.length → (P k).length ≤ 6 := fun k hk => by
    have := delF_le (fun s => decide (resI a s = [])) (C.take k)
    rw [hP]; rw [List.length_take] at this; simp only; omega
  have hPs : ∀ k (hk : k < C.length), P (k + 1) = if resI a C[k] = [] then P k else P k ++ [C[k]] := fun k hk => by rw [hP]; simp only [delF_take hk, decide_eq_true_eq]
  have hPe : delF (fun s => decide (resI a s = [])) C = P C.length := by rw [hP]; simp
  have hP0 : P 0 = [] := by rw [hP]; rfl
  rw [hPe]
  refine WP.loopG (fun k => k ≤ C.length) (fun k => [(5, nodes a), (6, ints C), (7, .own 0 (P k).length 0 (P k).length), (8, .int .i64 (k : Nat))]) (fun k => [.arr 1 (P k).length ((P k).map (AV.int .i64))]) (fun k => C.length - k) 0 (Nat.zero_le _)
    (fun k _ => ⟨by simp, by simp , fun e he => by simp only [List.mem_cons, List.not_mem_nil, or_false] at he; subst he; exact encI64.entB _ _ _ _⟩) (by simp [hP0]) ?_
  intro k hk
  refine wpc_soundR [r303] ?_
  by_cases hlt : (k : Int) < (C.length : Nat)
  · have hk' : k < C.length := by omega
    obtain ⟨g0, g1⟩ := hci _ (List.getElem_mem hk')
    have m1 : (P k).length + 1 ≤ maxRow := by have := hPl k hk; unfold maxRow; omega
    have hps := hPs k hk'
    have wk := wrapS (show k < 9223372036854775807 by omega)
    by_cases he : resI a C[k] = []
    · rw [if_pos he] at hps
      simp -implicitDefEqProofs only [leafA, innerA, nodeA, patchA, Leaf.cells, Inner.cells, Node.cells, r303_c, r303_ask, decide_true, decide_false, hlt, fun H => index_ints H C k hk', hs, g0, g1, he, List.length_nil, z00, gt00, go_sem, Nat.reduceEqDiff, reduceIte, Nat.reduceAdd, Nat.reduceLeDiff, Nat.reduceLT, Nat.reduceSub]
      exact ⟨k + 1, hk', by omega, by simp [wk, hps], by simp [hps]⟩
    · rw [if_neg he] at hps
      have gl : ((resI a C[k]).length : Int) > 0 := by have := List.length_pos_iff.2 he; omega
      simp -implicitDefEqProofs only [leafA, innerA, nodeA, patchA, Leaf.cells, Inner.cells, Node.cells, r303_c, r303_ask, decide_true, decide_false, hlt, fun H => index_ints H C k hk', hs, g0, g1, gl, m1, go_sem, Nat.reduceEqDiff, reduceIte, Nat.reduceAdd, Nat.reduceLeDiff, Nat.reduceLT, Nat.reduceSub]
      exact ⟨k + 1, hk', by omega, by simp [wk, hps], by simp [hps]⟩
  · have e : k = C.length := by omega
    subst e
    simp -implicitDefEqProofs only [leafA, innerA, nodeA, patchA, Leaf.cells, Inner.cells, Node.cells, r303_c, r303_ask, decide_true, decide_false, hlt, go_sem, Nat.reduceEqDiff, reduceIte, Nat.reduceAdd, Nat.reduceLeDiff, Nat.reduceLT, Nat.reduceSub]
noncomputable def r300 : Reg seat := .of told300 (ask2 (fun a0' a1' => isNs a0' ∧ isI a1' ∧ Tree.Ok (dNs a0')) fun a0' a1' => .fn (ints (besI (dNs a0') (dI a1')))) (ask2_ok fun a0' a1' h => SaidOk.fn (Fun.weak (.cons (isNs.weak h.1) (.cons (isI.weak h.2.1) .nil)) (refBeside_spec _ _ h.2.2)))
theorem r300_c : r300.c = 300 := rfl
open Classical in
theorem r300_ask (a0' a1' : AV) : r300.ask [a0', a1'] = if isNs a0' ∧ isI a1' ∧ Tree.Ok (dNs a0') then some (Said.fn (ints (besI (dNs a0') (dI a1')))) else none := by unfold r300 Reg.of ask2; exact ite_cl
set_option maxHeartbeats 2000000 in
theorem refFilter_spec (t : List Node) (i : Int) (ht : Tree.Ok t) : Fun seat 299 [nodes t, .int .i64 i] (ints (filI t i)) := by
  have hs := known_sane t
  have hl := known_len t
  have ok := known_ok ht
  have lv : leaves_ (known t) = ((known t).length + 1) / 2 := by unfold leaves_; rw [known_known]
  by_cases h0 : i < 0
  · have e : filI t i = [] := by unfold filI besI; rw [if_pos (.inl h0)]; rfl
    rw [e]
    refine Fun.of0R [r137] told299 (by simp [il299]) (by simp [idb_patchA]) (by simp [idb_patchA]) 4 ?_
    simp -implicitDefEqProofs only [il299, List.zipIdx_cons, List.zipIdx_nil, leafA, innerA, nodeA, patchA, Leaf.cells, Inner.cells, Node.cells, r137_c, r137_ask, decide_true, decide_false, ht, h0, go_sem, Nat.reduceEqDiff, reduceIte, Nat.reduceAdd, Nat.reduceLeDiff, Nat.reduceLT, Nat.reduceSub]
    try rfl
  by_cases h1 : i ≥ leaves_ (known t)
  · have e : filI t i = [] := by
      unfold filI besI
      rcases hs.2 with hz | hw
      · rw [hz]
        split
        · rfl
        · have hi : i = 0 := by omega
          subst hi
          rw [co_out (fun h => by have := h.2.2; omega)]; rfl
      · have := hw.odd
        rw [if_pos (.inr (by omega))]; rfl
    rw [e]
    refine Fun.of0R [r137, r295] told299 (by simp [il299]) (by simp [idb_patchA]) (by simp [idb_patchA]) 4 ?_
    simp -implicitDefEqProofs only [il299, List.zipIdx_cons, List.zipIdx_nil, leafA, innerA, nodeA, patchA, Leaf.cells, Inner.cells, Node.cells, r137_c, r137_ask, r295_c, r295_ask, decide_true, decide_false, ht, h0, ok, h1, go_sem, Nat.reduceEqDiff, reduceIte, Nat.reduceAdd, Nat.reduceLeDiff, Nat.reduceLT, Nat.reduceSub]
    try rfl
  have htt : known t = t := by
    unfold known
    split
    · rfl
    · rename_i hn
      exfalso
      have : known t = [] := if_neg hn
      rw [this] at lv h1
      simp at lv; omega
  have e : filI t i = (delF (fun s => decide (resI (known t) s = [])) (coI (2 * i) (known t).length)).map fun x => parI x (known t).length := by
    unfold filI besI; rw [if_neg (by omega)]; rw [htt]
  rw [e]
  obtain ⟨a, ha⟩ : ∃ a, known t = a := ⟨_, rfl⟩
  rw [ha] at hs hl ok h1 lv ⊢
  have w1 : IntKind.i64.wrap (2 * i) = 2 * i := wrap64 _ (by omega) (by omega)
  have hcl := co_len (2 * i) a.length
  have hdl := dir_len (2 * i) a.length
  have hcm := co_map (2 * i) a.length
  have hci : ∀ s ∈ coI (2 * i) a.length, 0 ≤ s ∧ s < a.length := fun s h => co_in h
  obtain ⟨C, hC⟩ : ∃ C, coI (2 * i) a.length = C := ⟨_, rfl⟩
  obtain ⟨D, hD⟩ : ∃ D, directI (2 * i) a.length = D := ⟨_, rfl⟩
  rw [hC] at hcl hci hcm ⊢
  rw [hD] at hcl hdl hcm
  refine Fun.of0W told299 (by simp [il299]) (by simp ) (by simp ) 4 ?_
  simp only [il299, List.zipIdx_cons, List.zipIdx_nil, Nat.zero_add]
  refine WP.seqR [] fun K hK => ?_
  simp -implicitDefEqProofs only [leafA, innerA, nodeA, patchA, Leaf.cells, Inner.cells, Node.cells, decide_true, decide_false, go_sem, Nat.reduceEqDiff, reduceIte, Nat.reduceAdd, Nat.reduceLeDiff, Nat.reduceLT, Nat.reduceSub]
  refine hK _ ?_
  clear hK K
  refine WP.seqR [r137] fun K hK => ?_
  simp -implicitDefEqProofs only [leafA, innerA, nodeA, patchA, Leaf.cells, Inner.cells, Node.cells, r137_c, r137_ask, decide_true, decide_false, ht, ha, go_sem, Nat.reduceEqDiff, reduceIte, Nat.reduceAdd, Nat.reduceLeDiff, Nat.reduceLT, Nat.reduceSub]
  refine hK _ ?_
  clear hK K
  refine WP.seqR [r295] fun K hK => ?_
  simp -implicitDefEqProofs only [leafA, innerA, nodeA, patchA, Leaf.cells, Inner.cells, Node.cells, r295_c, r295_ask, decide_true, decide_false, ok, h0, h1, go_sem, Nat.reduceEqDiff, reduceIte, Nat.reduceAdd, Nat.reduceLeDiff, Nat.reduceLT, Nat.reduceSub]
  refine hK _ ?_
  clear hK K
  refine WP.seqR [r301] fun K hK => ?_
  simp -implicitDefEqProofs only [leafA, innerA, nodeA, patchA, Leaf.cells, Inner.cells, Node.cells, r301_c, r301_ask, decide_true, decide_false, w1, hD, go_sem, Nat.reduceEqDiff, reduceIte, Nat.reduceAdd, Nat.reduceLeDiff, Nat.reduceLT, Nat.reduceSub]
  refine hK _ ?_
  clear hK K
  refine WP.seqR [r304] fun K hK => ?_
  simp -implicitDefEqProofs only [leafA, innerA, nodeA, patchA, Leaf.cells, Inner.cells, Node.cells, r304_c, r304_ask, decide_true, decide_false, w1, hC, go_sem, Nat.reduceEqDiff, reduceIte, Nat.reduceAdd, Nat.reduceLeDiff, Nat.reduceLT, Nat.reduceSub]
  refine hK _ ?_
  clear hK K
  refine WP.seqR [] fun K hK => ?_
  simp -implicitDefEqProofs only [leafA, innerA, nodeA, patchA, Leaf.cells, Inner.cells, Node.cells, decide_true, decide_false, go_sem, Nat.reduceEqDiff, reduceIte, Nat.reduceAdd, Nat.reduceLeDiff, Nat.reduceLT, Nat.reduceSub]
  refine hK _ (WP.weakL [(5, nodes a), (6, ints D), (7, ints C), (8, .list true [])] ?_ (WP.adopt 8 1 rfl ?_))
  · simp only [envL_cons, Nat.reduceEqDiff, reduceIte, List.mem_cons, List.not_mem_nil, or_false, forall_eq_or_imp, forall_eq, weak_refl, and_self]
  rw [upd_envL]
  clear hK K
  refine wpc_soundR [] ?_
  simp -implicitDefEqProofs only [leafA, innerA, nodeA, patchA, Leaf.cells, Inner.cells, Node.cells, decide_true, decide_false, go_sem, Nat.reduceEqDiff, reduceIte, Nat.reduceAdd, Nat.reduceLeDiff, Nat.reduceLT, Nat.reduceSub]
  obtain ⟨P, hP⟩ : ∃ P : Nat → List Int, P = fun k => (delF (fun s => decide (resI a s = [])) (C.take k)).map fun x => parI x a.length := ⟨_, rfl⟩
  have hPl : ∀ k, k ≤ C.length → (P k).length ≤ 6 := fun k hk => by
    have := delF_le (fun s => decide (resI a s = [])) (C.take k)
    rw [hP]; rw [List.length_take] at this; simp only [List.length_map]; omega
  have hPs : ∀ k (hk : k < C.length), P (k + 1) = if resI a C[k] = [] then P k else P k ++ [parI C[k] a.length] := fun k hk => by
    rw [hP]; simp only [delF_take hk, decide_eq_true_eq]
    split
    · rfl
    · rw [List.map_append]; rfl
  have hPe : (delF (fun s => decide (resI a s = [])) C).map (fun x => parI x a.length) = P C.length := by rw [hP]; simp
  have hP0 : P 0 = [] := by rw [hP]; rfl
  rw [hPe]
  refine WP.loopG (fun k => k ≤ C.length) (fun k => [(5, nodes a), (6, ints D), (7, ints C), (8, .own 0 (P k).length 0 (P k).length), (9, .int .i64 (k : Nat))]) (fun k => [.arr 1 (P k).length ((P k).map (AV.int .i64))]) (fun k => C.length - k) 0 (Nat.zero_le _)
    (fun k _ => ⟨by simp, by simp , fun e he => by simp only [List.mem_cons, List.not_mem_nil, or_false] at he; subst he; exact encI64.entB _ _ _ _⟩) (by simp [hP0]) ?_
  intro k hk
  refine wpc_soundR [r303] ?_
  by_cases hlt : (k : Int) < (D.length : Nat)
  · have hk' : k < C.length := by omega
    have hkd : k < D.length := by omega
    have hdk : D[k] = parI C[k] a.length := by
      have := congrArg (fun l => l[k]?) hcm
      simp only [List.getElem?_map, List.getElem?_eq_getElem hk', List.getElem?_eq_getElem hkd, Option.map_some, Option.some.injEq] at this
      exact this.symm
    obtain ⟨g0, g1⟩ := hci _ (List.getElem_mem hk')
    have m1 : (P k).length + 1 ≤ maxRow := by have := hPl k hk; unfold maxRow; omega
    have hps := hPs k hk'
    have wk := wrapS (show k < 9223372036854775807 by omega)
    by_cases he : resI a C[k] = []
    · rw [if_pos he] at hps
      simp -implicitDefEqProofs only [leafA, innerA, nodeA, patchA, Leaf.cells, Inner.cells, Node.cells, r303_c, r303_ask, decide_true, decide_false, hlt, fun H => index_ints H C k hk', hs, g0, g1, he, List.length_nil, z00, gt00, go_sem, Nat.reduceEqDiff, reduceIte, Nat.reduceAdd, Nat.reduceLeDiff, Nat.reduceLT, Nat.reduceSub]
      exact ⟨k + 1, hk', by omega, by simp [wk, hps], by simp [hps]⟩
    · rw [if_neg he] at hps
      have gl : ((resI a C[k]).length : Int) > 0 := by have := List.length_pos_iff.2 he; omega
      simp -implicitDefEqProofs only [leafA, innerA, nodeA, patchA, Leaf.cells, Inner.cells, Node.cells, r303_c, r303_ask, decide_true, decide_false, hlt, fun H => index_ints H C k hk', fun H => index_ints H D k hkd, hdk, hs, g0, g1, gl, m1, go_sem, Nat.reduceEqDiff, reduceIte, Nat.reduceAdd, Nat.reduceLeDiff, Nat.reduceLT, Nat.reduceSub]
      exact ⟨k + 1, hk', by omega, by simp [wk, hps], by simp [hps]⟩
  · have e : k = C.length := by omega
    subst e
    simp -implicitDefEqProofs only [leafA, innerA, nodeA, patchA, Leaf.cells, Inner.cells, Node.cells, r303_c, r303_ask, decide_true, decide_false, hlt, go_sem, Nat.reduceEqDiff, reduceIte, Nat.reduceAdd, Nat.reduceLeDiff, Nat.reduceLT, Nat.reduceSub]
noncomputable def r299 : Reg seat := .of told299 (ask2 (fun a0' a1' => isNs a0' ∧ isI a1' ∧ Tree.Ok (dNs a0')) fun a0' a1' => .fn (ints (filI (dNs a0') (dI a1')))) (ask2_ok fun a0' a1' h => SaidOk.fn (Fun.weak (.cons (isNs.weak h.1) (.cons (isI.weak h.2.1) .nil)) (refFilter_spec _ _ h.2.2)))
theorem r299_c : r299.c = 299 := rfl
open Classical in
theorem r299_ask (a0' a1' : AV) : r299.ask [a0', a1'] = if isNs a0' ∧ isI a1' ∧ Tree.Ok (dNs a0') then some (Said.fn (ints (filI (dNs a0') (dI a1')))) else none := by unfold r299 Reg.of ask2; exact ite_cl
end Go.Proofs.YtlehcigcaihoaaaGreatDoor.Al
