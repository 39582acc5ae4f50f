/-
  THE LAW ShapeFree.
-/
import Derived.Test.YtikkcicghpkbgaaAlS10
set_option linter.unusedSimpArgs false
set_option linter.unusedVariables false
namespace Go.Proofs.Ytikkcicghpkbgaa.Al
open Go
attribute [local go_sem] W_mv W_pick W_alloc W_box W_build W_bslice W_load W_store W_nilck W_bin W_isnil W_un W_convI W_convS W_mkiface W_mkfunc W_mkslice W_slice W_faddr W_field W_iaddr W_iaddrA W_idxA W_extract W_len W_lenS W_lenA W_min W_max W_append W_appendZ W_copy W_clear W_tassert W_invoke thenQ_normal thenQ_exit thenQ_goto thenQ_ret blockQ_normal blockQ_ret blockQ_goto blockQ_exit wpc_skip wpc_region wpc_draw wpc_seq wpc_cond wpc_block wpc_exit wpc_goto wpc_label wpc_ret wpc_loop wpc_range wpc_scope condW_true condW_false condW_dec condW_any W_nil W_call resW_some evalOp Opd.ev updo_envL updo_none setL_cons setL_nil envL_cons Option.map_some Option.bind_some evBin evInt List.map_cons List.map_nil Option.pure_def Option.bind_eq_bind W_grd' grdW_tt grdW_ff grdW_tf grdW_ft grdW_tup grdW_dt grdW_df lgrdW_tt lgrdW_ff lgrdW_tf lgrdW_ft lgrdW_tup lgrdW_dt lgrdW_df L_mv L_pick L_alloc L_box L_build L_bslice L_load L_store L_nilck L_bin L_isnil L_un L_convI L_convS L_mkiface L_mkfunc L_mkslice L_slice L_faddr L_field L_iaddr L_iaddrA L_idxA L_extract L_len L_lenS L_lenA L_min L_max L_append L_appendZ L_copy L_clear L_tassert L_nil L_call L_grd lresW_some upd_envL evUn beq_dec bne_dec leaves_ret1 leaves_end1 leaves_ret0 leaves_end0 leaves_ret2 leaves_ret3 rowLen_ints load_iptr0 not_dec heap_get0 heap_get1 heap_set0 heap_set1 heap_len1 heap_len2 heap_app heap_app2 bslice1_int seen_ints seen_one0 seen_one1 seen_one2 rowLen_own0 bslice0_int rowLen_own1 Nat.sub_zero Bool.not_true Bool.not_false List.length_nil List.length_cons List.nil_append List.cons_append Nat.zero_add load_iptrA canon_ptrI canon_bool canon_tup canon_agg canon_leafA canon_innerA canon_nodeA canon_ints' rowLen_ints0 seen_ints0 canon_ints0 rowLen_ints1 seen_ints1 canon_ints1 rowLen_ints2 seen_ints2 canon_ints2 rowLen_ints3 seen_ints3 canon_ints3 rowLen_octs seen_octs canon_octs' szOk_octs rowLen_octs0 seen_octs0 canon_octs0 rowLen_octs1 seen_octs1 canon_octs1 rowLen_octs2 seen_octs2 canon_octs2 rowLen_octs3 seen_octs3 canon_octs3 rowLen_intss seen_intss canon_intss' szOk_intss rowLen_intss0 seen_intss0 canon_intss0 rowLen_intss1 seen_intss1 canon_intss1 rowLen_intss2 seen_intss2 canon_intss2 rowLen_intss3 seen_intss3 canon_intss3 rowLen_octss seen_octss canon_octss' szOk_octss rowLen_octss0 seen_octss0 canon_octss0 rowLen_octss1 seen_octss1 canon_octss1 rowLen_octss2 seen_octss2 canon_octss2 rowLen_octss3 seen_octss3 canon_octss3 rowLen_nodes seen_nodes canon_nodes' szOk_nodes rowLen_nodes0 seen_nodes0 canon_nodes0 rowLen_nodes1 seen_nodes1 canon_nodes1 rowLen_nodes2 seen_nodes2 canon_nodes2 rowLen_nodes3 seen_nodes3 canon_nodes3 seen_list cells_int oneIn_int cells_bool oneIn_bool cells_str oneIn_str cells_list oneIn_list cells_func oneIn_func cells_nilfunc oneIn_nilfunc cells_iptr oneIn_iptr cells_iface oneIn_iface cells_nilIface oneIn_nilIface cells_own cells_ptr cells_anybool oneIn_anybool cells_agg oneIn_own0 oneIn_ptr0 seenL0 seenM0 oneIn_own1 oneIn_ptr1 seenL1 seenM1 oneIn_own2 oneIn_ptr2 seenL2 seenM2 oneIn_own3 oneIn_ptr3 seenL3 seenM3 oneIn_own4 oneIn_ptr4 seenL4 seenM4 oneIn_own5 oneIn_ptr5 seenL5 seenM5 cells_ints oneIn_ints cells_octs oneIn_octs cells_intss oneIn_intss cells_octss oneIn_octss cells_nodes oneIn_nodes ldB0 ldA0 adB0 stB0 ldB1 ldA1 adB1 stB1 ldB2 ldA2 adB2 stB2 ldB3 ldA3 adB3 stB3 ldB4 ldA4 adB4 stB4 ldB5 ldA5 adB5 stB5 List.getElem?_cons_zero List.getElem?_cons_succ beq_self_eq_true splice List.take_zero List.take_succ_cons List.drop_zero List.drop_succ_cons List.append_nil List.set_cons_zero List.set_cons_succ List.all_cons List.all_nil Bool.and_self and_self and_true true_and Nat.lt_irrefl Nat.zero_lt_one Nat.le_refl fillA evNil notA Bool.false_eq_true evMin_int evMax_int Option.map_none freezeP_all_nil freezeP_all_cons frzE_box frzE_arr frzE_dead foldA List.foldlM_cons List.foldlM_nil callW_f lcallW_f ansW_fn ansW_own lansW_fn lansW_own ansW_none lansW_none tab_cons tab_nil dI_int dB_bool dO_octs dO_ints dO_list dO_nil dOs_octss dOs_intss dOs_nil dLf_leafA dIn_innerA dN_nodeA dLf_agg dIn_agg dN_agg dNs_nodes dNs_list dNs_nil isI_int isU_int isB_bool isO_octs isO_nil isO_list isS_ints isS_nil isS_list isOs_octss isSs_intss isOs_nil isSs_nil isNs_nodes isNs_list isNs_nil isLf_leafA isIn_innerA isN_nodeA isLf_agg isIn_agg isN_agg leaf_eta inner_eta node_eta leaf_zero inner_zero node_zero dP_patchA dP_agg isP_patchA isP_agg patch_eta decide_eq_true_eq decide_eq_false_iff_not eq_self forall_const true_implies false_implies Bool.not_eq_true' Bool.not_eq_false' Bool.true_eq_false implies_true ne_eq ldI ldIA adI AV.tup.injEq AV.agg.injEq List.cons.injEq AV.int.injEq AV.bool.injEq nodes_inj octs_inj ints_inj nil_nodes nil_octs nil_ints canon_nilL decide_eq_decide two_ne four_ne b256_ne lendA_fn lendA_own lendA_none llendA_fn llendA_none plain_bool plain_int plain_tup2 isNs_own isO_own isS_own isOs_own false_and and_false Q_nil Q_l Q_g Q_h Q_grd qgrdW_b qgrdW_tup lightD_some heavyD_some readD_some fnD_some fnD_own fnD_none callL_f ownH_some callH_f litD_some litE_some Q_call Q_bslice H_call pendOk_nil pendOk_cons pastOk_nil pastOk_cons Q_mv Q_pick Q_bin Q_un Q_convI Q_mkfunc Q_extract Q_min Q_max Q_lenS Q_lenA Q_field Q_idxA Q_mkiface Q_tassert Q_alloc Q_box Q_store Q_mkslice Q_append Q_appendZ Q_copy Q_clear Q_build Q_load Q_nilck Q_isnil Q_convS Q_slice Q_faddr Q_iaddr Q_iaddrA Q_len H_alloc H_box H_bslice H_store H_mkslice H_append H_appendZ H_copy H_clear free_mv free_pick free_bin free_un free_convI free_mkfunc free_extract free_min free_max free_lenS free_lenA free_field free_idxA free_mkiface free_tassert free_build free_load free_nilck free_isnil free_convS free_slice free_faddr free_iaddr free_iaddrA free_len callW_y List.length_map List.length_set leaves_r evR_some evRess1 evRess2 evRess3 evRes_t evRes_c nz_kind nz_enc nz_cred nz_source nz_parent nz_ienc nz_hash nz_un true_or or_true bsl_node idbs_node idbs_int appN appI appO ixo_nodes canon_row canon_rowI canon_rowO not_false_eq_true not_true_eq_false ldE_a ldE_c adE_b stE_b onE_a onP_b bsl_zero idbs_zero appN_zero
attribute [local go_sem low] condW_b grdW_b lgrdW_b ldP adP stP onO onPt
attribute [local simp] envL_cons envL_nil idb_int idb_bool idb_str idb_ints idb_nil idb_own idb_ptr entB_ints' idb_octs entB_octs idb_intss entB_intss idb_octss entB_octss idb_nodes entB_nodes idb_leafA idb_innerA idb_nodeA idb_agg idb_tup idb_iptr idb_fn idb_undef entB_dead entB_box

set_option maxRecDepth 100000 in
set_option maxHeartbeats 4000000 in
theorem shapeFree_spec (t : List Node) (l : Leaf) (ht : Tree.Ok t) (hl : l.Ok) : Fun seat 90 [nodes t, leafA l] (.bool true) := by
  by_cases hf : Few t
  rotate_left
  · refine Fun.of0R [r99, r100] told90 (by simp [il90]) (by simp [idb_patchA]) (by simp [idb_patchA]) 4 ?_
    simp only [il90, List.zipIdx_cons, List.zipIdx_nil, leafA, innerA, nodeA, patchA, Leaf.cells, Inner.cells, Node.cells, r99_c, r99_ask, r100_c, r100_ask, ht, hf, hl, go_sem, Nat.reduceEqDiff, reduceIte, Nat.reduceAdd, Nat.reduceLeDiff, Nat.reduceLT, Nat.reduceSub]
  by_cases hs : Sane t
  rotate_left
  · refine Fun.of0R [r99, r100, r101] told90 (by simp [il90]) (by simp [idb_patchA]) (by simp [idb_patchA]) 4 ?_
    simp only [il90, List.zipIdx_cons, List.zipIdx_nil, leafA, innerA, nodeA, patchA, Leaf.cells, Inner.cells, Node.cells, r99_c, r99_ask, r100_c, r100_ask, r101_c, r101_ask, ht, hf, hs, hl, go_sem, Nat.reduceEqDiff, reduceIte, Nat.reduceAdd, Nat.reduceLeDiff, Nat.reduceLT, Nat.reduceSub]
  have hlen := hs.len
  have lv := leaves_of hs
  have hodd : t.length = 0 ∨ t.length % 2 = 1 := by
    rcases hs.2 with h2 | h2
    · exact .inl h2
    · have := h2.odd; exact .inr (by omega)
  obtain ⟨m, hm⟩ : ∃ m, m = Node.mk 1 ⟨l.enc, l.cred, l.source, l.parent⟩ .zero := ⟨_, rfl⟩
  have mo : m.Ok := by rw [hm]; exact ⟨hl, .zero, show In64 1 from ⟨by decide, by decide⟩⟩
  have mk : m.kind = 1 := by rw [hm]
  have me := hm.symm
  clear hm
  obtain ⟨Z, hZ, hZ2, hZ3⟩ : ∃ Z : Nat, IntKind.i64.wrap (lastT t + 1) = Z ∧ (∀ j (h : j < t.length), Z ≤ j → t[j].kind = 0) ∧ Z ≤ t.length := by
    by_cases h : lastT t < 0
    · obtain ⟨e, hz⟩ := lastT_neg hs h
      exact ⟨0, by rw [e]; rfl, fun j hj _ => by rw [← nodeAt_lt hj]; exact hz j hj, Nat.zero_le _⟩
    · obtain ⟨k, e, hk, h0, hz⟩ := lastT_pos hs h
      exact ⟨k + 1, by rw [e, wrap64 _ (by omega) (by omega)]; omega, fun j hj hjk => by rw [← nodeAt_lt hj]; exact hz j (by omega) hj, hk⟩
  by_cases hn : freeT t < 0
  · obtain ⟨fe, fz⟩ := freeT_neg hs hn
    have hfl : ¬ freeT t ≥ leaves_ t := by omega
    have hp : ¬ freeT t ≥ 0 := by omega
    have w : IntKind.i64.wrap (2 * freeT t) = 2 * freeT t := by rw [fe]; rfl
    have so := setT_ok ht mo (x := 2 * freeT t)
    have hb : ∀ i : Nat, (i : Int) < leaves_ t → ∃ h : 2 * i < t.length, ¬ t[2 * i].kind = 0 := fun i hi => by
      have h : 2 * i < t.length := by omega
      exact ⟨h, by rw [← nodeAt_lt h]; exact blankEven_kind (fz _ h)⟩
    clear fe
    refine Fun.of0R [r99, r100, r101, r102, r103, r104, r105] told90 (by simp [il90]) (by simp [idb_patchA]) (by simp [idb_patchA]) 4 ?_
    simp only [il90, List.zipIdx_cons, List.zipIdx_nil, leafA, innerA, nodeA, patchA, Leaf.cells, Inner.cells, Node.cells, r99_c, r99_ask, r100_c, r100_ask, r101_c, r101_ask, r102_c, r102_ask, r103_c, r103_ask, r104_c, r104_ask, r105_c, r105_ask, ht, hf, hs, hl, hn, go_sem, Nat.reduceEqDiff, reduceIte, Nat.reduceAdd, Nat.reduceLeDiff, Nat.reduceLT, Nat.reduceSub]
    refine WP.loopG (fun i : Nat => i ≤ t.length) (fun i => [(0, nodes t), (3, .ptr 0 0), (5, .bool true), (6, .int .i64 (freeT t)), (7, .int .i64 (leaves_ t)), (8, .int .i64 (i : Nat))]) (fun _ => [.box [octs l.enc, octs l.cred, .int .i64 l.source, octs l.parent]]) (fun i => t.length + 1 - i) 0 (Nat.zero_le _)
      (fun i _ => by simp ) (by simp ) ?_
    intro i hi
    refine wpc_soundR [r104] ?_
    by_cases hlt : (i : Int) < leaves_ t
    · obtain ⟨h2, hne⟩ := hb i hlt
      have w2 : IntKind.i64.wrap (2 * (i : Int)) = ((2 * i : Nat) : Int) := by rw [wrap64 _ (by omega) (by omega)]; omega
      simp -implicitDefEqProofs only [leafA, innerA, nodeA, patchA, Leaf.cells, Inner.cells, Node.cells, r104_c, r104_ask, fun H => ix_nodes H t (2 * i) h2, w2, hne, hlt, go_sem, Nat.reduceEqDiff, reduceIte, Nat.reduceAdd, Nat.reduceLeDiff, Nat.reduceLT, Nat.reduceSub]
      exact ⟨i + 1, by omega, by omega, by simp [wrapS (show i < 9223372036854775807 by omega)]⟩
    · simp -implicitDefEqProofs only [leafA, innerA, nodeA, patchA, Leaf.cells, Inner.cells, Node.cells, r99_c, r99_ask, r100_c, r100_ask, r101_c, r101_ask, r102_c, r102_ask, r103_c, r103_ask, r104_c, r104_ask, r105_c, r105_ask, hlt, ht, hZ, go_sem, Nat.reduceEqDiff, reduceIte, Nat.reduceAdd, Nat.reduceLeDiff, Nat.reduceLT, Nat.reduceSub]
      clear hlt hi hb
      refine WP.loopG (fun x : Nat => Z ≤ x ∧ x ≤ t.length) (fun x => [(0, nodes t), (3, .ptr 0 0), (5, .bool true), (6, .int .i64 (freeT t)), (9, .int .i64 (lastT t)), (10, .int .i64 (x : Nat))]) (fun _ => [.box [octs l.enc, octs l.cred, .int .i64 l.source, octs l.parent]]) (fun x => t.length - x) Z ⟨Nat.le_refl _, hZ3⟩
        (fun i _ => by simp ) (by simp ) ?_
      rintro x ⟨hx1, hx2⟩
      refine wpc_soundR [r102] ?_
      by_cases hlt : (x : Int) < (t.length : Nat)
      · have hx : x < t.length := by omega
        have h0 := hZ2 x hx hx1
        simp -implicitDefEqProofs only [leafA, innerA, nodeA, patchA, Leaf.cells, Inner.cells, Node.cells, r102_c, r102_ask, fun H => ix_nodes H t x hx, h0, hlt, go_sem, Nat.reduceEqDiff, reduceIte, Nat.reduceAdd, Nat.reduceLeDiff, Nat.reduceLT, Nat.reduceSub]
        exact ⟨x + 1, ⟨by omega, by omega⟩, by omega, by simp [wrapS (show x < 9223372036854775807 by omega)]⟩
      · by_cases hz : lastT t < 0
        · have z1 : ¬ lastT t ≥ (t.length : Int) := by omega
          have z2 : ¬ lastT t ≥ 0 := by omega
          simp -implicitDefEqProofs only [leafA, innerA, nodeA, patchA, Leaf.cells, Inner.cells, Node.cells, r99_c, r99_ask, r100_c, r100_ask, r101_c, r101_ask, r102_c, r102_ask, r103_c, r103_ask, r104_c, r104_ask, r105_c, r105_ask, hlt, ht, hl, z1, z2, hn, hfl, hp, w, mo, me, so, go_sem, Nat.reduceEqDiff, reduceIte, Nat.reduceAdd, Nat.reduceLeDiff, Nat.reduceLT, Nat.reduceSub]
        · obtain ⟨z, e, hk, h0, _⟩ := lastT_pos hs hz
          rw [nodeAt_lt hk] at h0
          have z1 : ¬ (z : Int) ≥ (t.length : Int) := by omega
          have z2 : (z : Int) ≥ 0 := by omega
          simp -implicitDefEqProofs only [leafA, innerA, nodeA, patchA, Leaf.cells, Inner.cells, Node.cells, r99_c, r99_ask, r100_c, r100_ask, r101_c, r101_ask, r102_c, r102_ask, r103_c, r103_ask, r104_c, r104_ask, r105_c, r105_ask, hlt, ht, hl, e, z1, z2, h0, (fun H => ix_nodes H t z hk), hn, hfl, hp, w, mo, me, so, go_sem, Nat.reduceEqDiff, reduceIte, Nat.reduceAdd, Nat.reduceLeDiff, Nat.reduceLT, Nat.reduceSub]
  · obtain ⟨k, fe, k1, k2, k3⟩ := freeT_pos hs hn
    have hn' : ¬ (k : Int) < 0 := by omega
    have hfl : ¬ (k : Int) ≥ leaves_ t := by omega
    have hp : (k : Int) ≥ 0 := by omega
    have w : IntKind.i64.wrap (2 * (k : Int)) = ((2 * k : Nat) : Int) := by rw [wrap64 _ (by omega) (by omega)]; omega
    have so := setT_ok ht mo (x := ((2 * k : Nat) : Int))
    have k4 : t[2 * k].kind = 0 := by
      simp only [blankEven, decide_eq_true_eq] at k2
      rw [← nodeAt_lt k1]; exact k2.2
    have hb : ∀ i : Nat, (i : Int) < (k : Int) → ∃ h : 2 * i < t.length, ¬ t[2 * i].kind = 0 := fun i hi => by
      have h : 2 * i < t.length := by omega
      exact ⟨h, by rw [← nodeAt_lt h]; exact blankEven_kind (k3 _ (by omega))⟩
    refine Fun.of0R [r99, r100, r101, r102, r103, r104, r105] told90 (by simp [il90]) (by simp [idb_patchA]) (by simp [idb_patchA]) 4 ?_
    simp only [il90, List.zipIdx_cons, List.zipIdx_nil, leafA, innerA, nodeA, patchA, Leaf.cells, Inner.cells, Node.cells, r99_c, r99_ask, r100_c, r100_ask, r101_c, r101_ask, r102_c, r102_ask, r103_c, r103_ask, r104_c, r104_ask, r105_c, r105_ask, ht, hf, hs, hl, fe, hn', go_sem, Nat.reduceEqDiff, reduceIte, Nat.reduceAdd, Nat.reduceLeDiff, Nat.reduceLT, Nat.reduceSub]
    refine WP.loopG (fun i : Nat => i ≤ t.length) (fun i => [(0, nodes t), (3, .ptr 0 0), (5, .bool true), (6, .int .i64 ((k : Int))), (7, .int .i64 ((k : Int))), (8, .int .i64 (i : Nat))]) (fun _ => [.box [octs l.enc, octs l.cred, .int .i64 l.source, octs l.parent]]) (fun i => t.length + 1 - i) 0 (Nat.zero_le _)
      (fun i _ => by simp ) (by simp ) ?_
    intro i hi
    refine wpc_soundR [r104] ?_
    by_cases hlt : (i : Int) < (k : Int)
    · obtain ⟨h2, hne⟩ := hb i hlt
      have w2 : IntKind.i64.wrap (2 * (i : Int)) = ((2 * i : Nat) : Int) := by rw [wrap64 _ (by omega) (by omega)]; omega
      simp -implicitDefEqProofs only [leafA, innerA, nodeA, patchA, Leaf.cells, Inner.cells, Node.cells, r104_c, r104_ask, fun H => ix_nodes H t (2 * i) h2, w2, hne, hlt, go_sem, Nat.reduceEqDiff, reduceIte, Nat.reduceAdd, Nat.reduceLeDiff, Nat.reduceLT, Nat.reduceSub]
      exact ⟨i + 1, by omega, by omega, by simp [wrapS (show i < 9223372036854775807 by omega)]⟩
    · simp -implicitDefEqProofs only [leafA, innerA, nodeA, patchA, Leaf.cells, Inner.cells, Node.cells, r99_c, r99_ask, r100_c, r100_ask, r101_c, r101_ask, r102_c, r102_ask, r103_c, r103_ask, r104_c, r104_ask, r105_c, r105_ask, hlt, ht, hZ, go_sem, Nat.reduceEqDiff, reduceIte, Nat.reduceAdd, Nat.reduceLeDiff, Nat.reduceLT, Nat.reduceSub]
      clear hlt hi hb
      refine WP.loopG (fun x : Nat => Z ≤ x ∧ x ≤ t.length) (fun x => [(0, nodes t), (3, .ptr 0 0), (5, .bool true), (6, .int .i64 ((k : Int))), (9, .int .i64 (lastT t)), (10, .int .i64 (x : Nat))]) (fun _ => [.box [octs l.enc, octs l.cred, .int .i64 l.source, octs l.parent]]) (fun x => t.length - x) Z ⟨Nat.le_refl _, hZ3⟩
        (fun i _ => by simp ) (by simp ) ?_
      rintro x ⟨hx1, hx2⟩
      refine wpc_soundR [r102] ?_
      by_cases hlt : (x : Int) < (t.length : Nat)
      · have hx : x < t.length := by omega
        have h0 := hZ2 x hx hx1
        simp -implicitDefEqProofs only [leafA, innerA, nodeA, patchA, Leaf.cells, Inner.cells, Node.cells, r102_c, r102_ask, fun H => ix_nodes H t x hx, h0, hlt, go_sem, Nat.reduceEqDiff, reduceIte, Nat.reduceAdd, Nat.reduceLeDiff, Nat.reduceLT, Nat.reduceSub]
        exact ⟨x + 1, ⟨by omega, by omega⟩, by omega, by simp [wrapS (show x < 9223372036854775807 by omega)]⟩
      · by_cases hz : lastT t < 0
        · have z1 : ¬ lastT t ≥ (t.length : Int) := by omega
          have z2 : ¬ lastT t ≥ 0 := by omega
          by_cases he : (setT t ((2 * k : Nat) : Int) m).2 = 0
          · obtain ⟨_, q1, q2, q3, q4, es⟩ := setT_zero hs he
            have := Int.ofNat.inj q1; subst this
            have sA := set_sane hs q2 q3 q4
            have so2 := set_ok ht mo (2 * k)
            rcases freeT_ge sA (k := k) (fun j hj => by
                have := k3 j hj
                unfold blankEven nodeAt at this ⊢
                rw [List.getD_eq_getElem?_getD] at this ⊢
                rw [List.getElem?_set_ne (by omega)]; exact this) (by
                unfold blankEven nodeAt
                rw [List.getD_eq_getElem?_getD, List.getElem?_set_self q2]
                simp [mk]) with g | g
            · have g2 : ¬ (-1 : Int) > (k : Int) := by omega
              simp -implicitDefEqProofs only [leafA, innerA, nodeA, patchA, Leaf.cells, Inner.cells, Node.cells, r99_c, r99_ask, r100_c, r100_ask, r101_c, r101_ask, r102_c, r102_ask, r103_c, r103_ask, r104_c, r104_ask, r105_c, r105_ask, hlt, ht, hl, z1, z2, hn', hfl, hp, w, mo, me, so, fe, k4, (fun H => ix_nodes H t (2 * k) k1), es, so2, g, g2, go_sem, Nat.reduceEqDiff, reduceIte, Nat.reduceAdd, Nat.reduceLeDiff, Nat.reduceLT, Nat.reduceSub]
            · simp -implicitDefEqProofs only [leafA, innerA, nodeA, patchA, Leaf.cells, Inner.cells, Node.cells, r99_c, r99_ask, r100_c, r100_ask, r101_c, r101_ask, r102_c, r102_ask, r103_c, r103_ask, r104_c, r104_ask, r105_c, r105_ask, hlt, ht, hl, z1, z2, hn', hfl, hp, w, mo, me, so, fe, k4, (fun H => ix_nodes H t (2 * k) k1), es, so2, g, go_sem, Nat.reduceEqDiff, reduceIte, Nat.reduceAdd, Nat.reduceLeDiff, Nat.reduceLT, Nat.reduceSub]
          · simp -implicitDefEqProofs only [leafA, innerA, nodeA, patchA, Leaf.cells, Inner.cells, Node.cells, r99_c, r99_ask, r100_c, r100_ask, r101_c, r101_ask, r102_c, r102_ask, r103_c, r103_ask, r104_c, r104_ask, r105_c, r105_ask, hlt, ht, hl, z1, z2, hn', hfl, hp, w, mo, me, so, fe, k4, (fun H => ix_nodes H t (2 * k) k1), he, go_sem, Nat.reduceEqDiff, reduceIte, Nat.reduceAdd, Nat.reduceLeDiff, Nat.reduceLT, Nat.reduceSub]
        · obtain ⟨z, e, hk, h0, _⟩ := lastT_pos hs hz
          rw [nodeAt_lt hk] at h0
          have z1 : ¬ (z : Int) ≥ (t.length : Int) := by omega
          have z2 : (z : Int) ≥ 0 := by omega
          by_cases he : (setT t ((2 * k : Nat) : Int) m).2 = 0
          · obtain ⟨_, q1, q2, q3, q4, es⟩ := setT_zero hs he
            have := Int.ofNat.inj q1; subst this
            have sA := set_sane hs q2 q3 q4
            have so2 := set_ok ht mo (2 * k)
            rcases freeT_ge sA (k := k) (fun j hj => by
                have := k3 j hj
                unfold blankEven nodeAt at this ⊢
                rw [List.getD_eq_getElem?_getD] at this ⊢
                rw [List.getElem?_set_ne (by omega)]; exact this) (by
                unfold blankEven nodeAt
                rw [List.getD_eq_getElem?_getD, List.getElem?_set_self q2]
                simp [mk]) with g | g
            · have g2 : ¬ (-1 : Int) > (k : Int) := by omega
              simp -implicitDefEqProofs only [leafA, innerA, nodeA, patchA, Leaf.cells, Inner.cells, Node.cells, r99_c, r99_ask, r100_c, r100_ask, r101_c, r101_ask, r102_c, r102_ask, r103_c, r103_ask, r104_c, r104_ask, r105_c, r105_ask, hlt, ht, hl, e, z1, z2, h0, (fun H => ix_nodes H t z hk), hn', hfl, hp, w, mo, me, so, fe, k4, (fun H => ix_nodes H t (2 * k) k1), es, so2, g, g2, go_sem, Nat.reduceEqDiff, reduceIte, Nat.reduceAdd, Nat.reduceLeDiff, Nat.reduceLT, Nat.reduceSub]
            · simp -implicitDefEqProofs only [leafA, innerA, nodeA, patchA, Leaf.cells, Inner.cells, Node.cells, r99_c, r99_ask, r100_c, r100_ask, r101_c, r101_ask, r102_c, r102_ask, r103_c, r103_ask, r104_c, r104_ask, r105_c, r105_ask, hlt, ht, hl, e, z1, z2, h0, (fun H => ix_nodes H t z hk), hn', hfl, hp, w, mo, me, so, fe, k4, (fun H => ix_nodes H t (2 * k) k1), es, so2, g, go_sem, Nat.reduceEqDiff, reduceIte, Nat.reduceAdd, Nat.reduceLeDiff, Nat.reduceLT, Nat.reduceSub]
          · simp -implicitDefEqProofs only [leafA, innerA, nodeA, patchA, Leaf.cells, Inner.cells, Node.cells, r99_c, r99_ask, r100_c, r100_ask, r101_c, r101_ask, r102_c, r102_ask, r103_c, r103_ask, r104_c, r104_ask, r105_c, r105_ask, hlt, ht, hl, e, z1, z2, h0, (fun H => ix_nodes H t z hk), hn', hfl, hp, w, mo, me, so, fe, k4, (fun H => ix_nodes H t (2 * k) k1), he, go_sem, Nat.reduceEqDiff, reduceIte, Nat.reduceAdd, Nat.reduceLeDiff, Nat.reduceLT, Nat.reduceSub]
end Go.Proofs.Ytikkcicghpkbgaa.Al
