/-
  THE LAW ResolveOnce.
-/
import Derived.Test.YtlehcigcaihoaaaDoorAlS34
import Derived.Test.YtlehcigcaihoaaaDoorAlQ11
set_option linter.unusedSimpArgs false
set_option linter.unusedVariables false
namespace Go.Proofs.YtlehcigcaihoaaaDoor.Al
open Go
attribute [local go_sem] W_mv W_pick W_alloc W_box W_build W_bslice W_load W_store W_nilck W_bin W_isnil W_un W_convI W_convS W_mkiface W_mkfunc W_mkslice W_slice W_faddr W_field W_iaddr W_iaddrA W_idxA W_extract W_len W_lenS W_lenA W_min W_max W_append W_appendZ W_copy W_clear W_tassert W_invoke thenQ_normal thenQ_exit thenQ_goto thenQ_ret blockQ_normal blockQ_ret blockQ_goto blockQ_exit wpc_skip wpc_region wpc_draw wpc_seq wpc_cond wpc_block wpc_exit wpc_goto wpc_label wpc_ret wpc_loop wpc_range wpc_scope condW_true condW_false condW_dec condW_any W_nil W_call resW_some evalOp Opd.ev updo_envL updo_none setL_cons setL_nil envL_cons Option.map_some Option.bind_some evBin evInt List.map_cons List.map_nil Option.pure_def Option.bind_eq_bind W_grd' grdW_tt grdW_ff grdW_tf grdW_ft grdW_tup grdW_dt grdW_df lgrdW_tt lgrdW_ff lgrdW_tf lgrdW_ft lgrdW_tup lgrdW_dt lgrdW_df L_mv L_pick L_alloc L_box L_build L_bslice L_load L_store L_nilck L_bin L_isnil L_un L_convI L_convS L_mkiface L_mkfunc L_mkslice L_slice L_faddr L_field L_iaddr L_iaddrA L_idxA L_extract L_len L_lenS L_lenA L_min L_max L_append L_appendZ L_copy L_clear L_tassert L_nil L_call L_grd lresW_some upd_envL evUn beq_dec bne_dec leaves_ret1 leaves_end1 leaves_ret0 leaves_end0 leaves_ret2 leaves_ret3 rowLen_ints load_iptr0 not_dec heap_get0 heap_get1 heap_set0 heap_set1 heap_len1 heap_len2 heap_app heap_app2 bslice1_int seen_ints seen_one0 seen_one1 seen_one2 rowLen_own0 bslice0_int rowLen_own1 Nat.sub_zero Bool.not_true Bool.not_false List.length_nil List.length_cons List.nil_append List.cons_append Nat.zero_add load_iptrA canon_ptrI canon_bool canon_tup canon_agg canon_leafA canon_innerA canon_nodeA canon_ints' rowLen_ints0 seen_ints0 canon_ints0 rowLen_ints1 seen_ints1 canon_ints1 rowLen_ints2 seen_ints2 canon_ints2 rowLen_ints3 seen_ints3 canon_ints3 rowLen_octs seen_octs canon_octs' szOk_octs rowLen_octs0 seen_octs0 canon_octs0 rowLen_octs1 seen_octs1 canon_octs1 rowLen_octs2 seen_octs2 canon_octs2 rowLen_octs3 seen_octs3 canon_octs3 rowLen_intss seen_intss canon_intss' szOk_intss rowLen_intss0 seen_intss0 canon_intss0 rowLen_intss1 seen_intss1 canon_intss1 rowLen_intss2 seen_intss2 canon_intss2 rowLen_intss3 seen_intss3 canon_intss3 rowLen_octss seen_octss canon_octss' szOk_octss rowLen_octss0 seen_octss0 canon_octss0 rowLen_octss1 seen_octss1 canon_octss1 rowLen_octss2 seen_octss2 canon_octss2 rowLen_octss3 seen_octss3 canon_octss3 rowLen_nodes seen_nodes canon_nodes' szOk_nodes rowLen_nodes0 seen_nodes0 canon_nodes0 rowLen_nodes1 seen_nodes1 canon_nodes1 rowLen_nodes2 seen_nodes2 canon_nodes2 rowLen_nodes3 seen_nodes3 canon_nodes3 seen_list cells_int oneIn_int cells_bool oneIn_bool cells_str oneIn_str cells_list oneIn_list cells_func oneIn_func cells_nilfunc oneIn_nilfunc cells_iptr oneIn_iptr cells_iface oneIn_iface cells_nilIface oneIn_nilIface cells_own cells_ptr cells_anybool oneIn_anybool cells_agg oneIn_own0 oneIn_ptr0 seenL0 seenM0 oneIn_own1 oneIn_ptr1 seenL1 seenM1 oneIn_own2 oneIn_ptr2 seenL2 seenM2 oneIn_own3 oneIn_ptr3 seenL3 seenM3 oneIn_own4 oneIn_ptr4 seenL4 seenM4 oneIn_own5 oneIn_ptr5 seenL5 seenM5 cells_ints oneIn_ints cells_octs oneIn_octs cells_intss oneIn_intss cells_octss oneIn_octss cells_nodes oneIn_nodes ldB0 ldA0 adB0 stB0 ldB1 ldA1 adB1 stB1 ldB2 ldA2 adB2 stB2 ldB3 ldA3 adB3 stB3 ldB4 ldA4 adB4 stB4 ldB5 ldA5 adB5 stB5 List.getElem?_cons_zero List.getElem?_cons_succ beq_self_eq_true splice List.take_zero List.take_succ_cons List.drop_zero List.drop_succ_cons List.append_nil List.set_cons_zero List.set_cons_succ List.all_cons List.all_nil Bool.and_self and_self and_true true_and Nat.lt_irrefl Nat.zero_lt_one Nat.le_refl fillA evNil notA Bool.false_eq_true evMin_int evMax_int Option.map_none freezeP_all_nil freezeP_all_cons frzE_box frzE_arr frzE_dead foldA List.foldlM_cons List.foldlM_nil callW_f lcallW_f ansW_fn ansW_own lansW_fn lansW_own ansW_none lansW_none tab_cons tab_nil dI_int dB_bool dO_octs dO_ints dO_list dO_nil dOs_octss dOs_intss dOs_nil dLf_leafA dIn_innerA dN_nodeA dLf_agg dIn_agg dN_agg dNs_nodes dNs_list dNs_nil isI_int isU_int isB_bool isO_octs isO_nil isO_list isS_ints isS_nil isS_list isOs_octss isSs_intss isOs_nil isSs_nil isNs_nodes isNs_list isNs_nil isLf_leafA isIn_innerA isN_nodeA isLf_agg isIn_agg isN_agg leaf_eta inner_eta node_eta leaf_zero inner_zero node_zero dP_patchA dP_agg isP_patchA isP_agg patch_eta decide_eq_true_eq decide_eq_false_iff_not eq_self forall_const true_implies false_implies Bool.not_eq_true' Bool.not_eq_false' Bool.true_eq_false implies_true ne_eq ldI ldIA adI AV.tup.injEq AV.agg.injEq List.cons.injEq AV.int.injEq AV.bool.injEq nodes_inj octs_inj ints_inj nil_nodes nil_octs nil_ints canon_nilL decide_eq_decide two_ne four_ne b256_ne lendA_fn lendA_own lendA_none llendA_fn llendA_none plain_bool plain_int plain_tup2 isNs_own isO_own isS_own isOs_own false_and and_false Q_nil Q_l Q_g Q_h Q_grd qgrdW_b qgrdW_tup lightD_some heavyD_some readD_some fnD_some fnD_own fnD_none callL_f ownH_some callH_f litD_some litE_some Q_call Q_bslice H_call pendOk_nil pendOk_cons pastOk_nil pastOk_cons Q_mv Q_pick Q_bin Q_un Q_convI Q_mkfunc Q_extract Q_min Q_max Q_lenS Q_lenA Q_field Q_idxA Q_mkiface Q_tassert Q_alloc Q_box Q_store Q_mkslice Q_append Q_appendZ Q_copy Q_clear Q_build Q_load Q_nilck Q_isnil Q_convS Q_slice Q_faddr Q_iaddr Q_iaddrA Q_len H_alloc H_box H_bslice H_store H_mkslice H_append H_appendZ H_copy H_clear free_mv free_pick free_bin free_un free_convI free_mkfunc free_extract free_min free_max free_lenS free_lenA free_field free_idxA free_mkiface free_tassert free_build free_load free_nilck free_isnil free_convS free_slice free_faddr free_iaddr free_iaddrA free_len callW_y List.length_map List.length_set leaves_r evR_some evRess1 evRess2 evRess3 evRes_t evRes_c nz_kind nz_enc nz_cred nz_source nz_parent nz_ienc nz_hash nz_un true_or or_true bsl_node idbs_node idbs_int appN appI appO ixo_nodes canon_row canon_rowI canon_rowO not_false_eq_true not_true_eq_false ldE_a ldE_c adE_b stE_b onE_a onP_b bsl_zero idbs_zero appN_zero
attribute [local go_sem low] condW_b grdW_b lgrdW_b ldP adP stP onO onPt
attribute [local simp] envL_cons envL_nil idb_int idb_bool idb_str idb_ints idb_nil idb_own idb_ptr entB_ints' idb_octs entB_octs idb_intss entB_intss idb_octss entB_octss idb_nodes entB_nodes idb_leafA idb_innerA idb_nodeA idb_agg idb_tup idb_iptr idb_fn idb_undef entB_dead entB_box
attribute [local go_sem high] qgJ_tt qgJ_ff qgJ_tf qgJ_ft

set_option maxRecDepth 100000 in
set_option maxHeartbeats 4000000 in
theorem resolveOnce_spec (t : List Node) (x : Int) (ht : Tree.Ok t) (hx : In64 x) : Fun seat 251 [nodes t, .int .i64 x] (.bool true) := by
  by_cases hf : Few t
  rotate_left
  · refine Fun.of0R [r256, r100] told251 (by simp [il251]) (by simp [idb_patchA]) (by simp [idb_patchA]) 4 ?_
    simp -implicitDefEqProofs only [il251, List.zipIdx_cons, List.zipIdx_nil, leafA, innerA, nodeA, patchA, Leaf.cells, Inner.cells, Node.cells, r256_c, r256_ask, r100_c, r100_ask, decide_true, decide_false, ht, hf, go_sem, Nat.reduceEqDiff, reduceIte, Nat.reduceAdd, Nat.reduceLeDiff, Nat.reduceLT, Nat.reduceSub]
  by_cases hs : Sane t
  rotate_left
  · refine Fun.of0R [r256, r100, r101] told251 (by simp [il251]) (by simp [idb_patchA]) (by simp [idb_patchA]) 4 ?_
    simp -implicitDefEqProofs only [il251, List.zipIdx_cons, List.zipIdx_nil, leafA, innerA, nodeA, patchA, Leaf.cells, Inner.cells, Node.cells, r256_c, r256_ask, r100_c, r100_ask, r101_c, r101_ask, decide_true, decide_false, ht, hf, hs, go_sem, Nat.reduceEqDiff, reduceIte, Nat.reduceAdd, Nat.reduceLeDiff, Nat.reduceLT, Nat.reduceSub]
  have hl := hs.len
  have kt := known_of hs
  have hll := resI_len hs x
  have told : (∀ y (hy : y < t.length), t[y].inner.unmerged = []) → (∀ z ∈ resI t x, 0 ≤ z ∧ z < t.length ∧ (nodeAt t z.toNat).kind ≠ 0 ∧ x ∈ ups z t.length) ∧ ((resI t x).Pairwise fun a b => ¬ a ∈ ups b t.length ∧ ¬ b ∈ ups a t.length) ∧
      ∀ c (hc : c < t.length), ¬ t[c].kind = 0 → x ∈ ups (c : Int) t.length → cnt (fun z => decide (z ∈ ups (c : Int) t.length)) (resI t x) (resI t x).length = 1 := by
    intro hu
    rcases hs.2 with hz | hw
    · have e : resI t x = [] := resI_out (by omega)
      refine ⟨fun z h => ?_, ?_, fun c hc => by omega⟩
      · rw [e] at h; cases h
      · rw [e]; exact List.Pairwise.nil
    have hu' : ∀ y, 0 ≤ y → y < (t.length : Int) → (nodeAt t y.toNat).inner.unmerged = [] := fun y h0 h1 => by rw [nodeAt_lt (by omega)]; exact hu _ _
    refine ⟨fun z hz => ?_, resF_apart hw hu' 7 x, fun c hc hk hxc => ?_⟩
    · rcases resF_node hw 7 x z hz with h | ⟨y, i, h1, h2, h3, _⟩
      · exact h
      · rw [hu' y h1 h2] at h3; cases h3
    · rw [cnt_all]
      exact resF_once hw hu' ⟨hw, by omega, by omega⟩ (by rw [Int.toNat_natCast, nodeAt_lt hc]; exact hk) (need_le hw x) hxc
  obtain ⟨L, hL⟩ : ∃ L, resI t x = L := ⟨_, rfl⟩
  rw [hL] at told hll
  refine Fun.of0W told251 (by simp [il251]) (by simp ) (by simp ) 4 ?_
  simp only [il251, List.zipIdx_cons, List.zipIdx_nil, Nat.zero_add, List.map_cons, List.map_nil]
  refine WP.seqR [] fun K hK => ?_
  simp -implicitDefEqProofs only [leafA, innerA, nodeA, patchA, Leaf.cells, Inner.cells, Node.cells, decide_true, decide_false, go_sem, Nat.reduceEqDiff, reduceIte, Nat.reduceAdd, Nat.reduceLeDiff, Nat.reduceLT, Nat.reduceSub]
  refine hK _ ?_
  clear hK K
  refine WP.seqR [r256] fun K hK => ?_
  simp -implicitDefEqProofs only [leafA, innerA, nodeA, patchA, Leaf.cells, Inner.cells, Node.cells, r256_c, r256_ask, decide_true, decide_false, go_sem, Nat.reduceEqDiff, reduceIte, Nat.reduceAdd, Nat.reduceLeDiff, Nat.reduceLT, Nat.reduceSub]
  refine hK _ ?_
  clear hK K
  refine WP.seqR [r100, r101] fun K hK => ?_
  simp -implicitDefEqProofs only [leafA, innerA, nodeA, patchA, Leaf.cells, Inner.cells, Node.cells, r100_c, r100_ask, r101_c, r101_ask, decide_true, decide_false, ht, hf, hs, go_sem, Nat.reduceEqDiff, reduceIte, Nat.reduceAdd, Nat.reduceLeDiff, Nat.reduceLT, Nat.reduceSub]
  refine hK _ ?_
  clear hK K
  refine WP.weakL [(0, nodes t), (1, .int .i64 x), (5, .bool true)] ?_ ?_
  · simp only [envL_cons, Nat.reduceEqDiff, reduceIte, List.mem_cons, List.not_mem_nil, or_false, forall_eq_or_imp, forall_eq, weak_refl, and_self]
  refine WP.seqR [] fun K hK => ?_
  have k1 : ∀ env', (∀ p ∈ [(0, nodes t), (1, .int .i64 x), (5, .bool true)], env' p.1 = p.2) → (∀ y (hy : y < t.length), t[y].inner.unmerged = []) → K ⟨env', []⟩ := by
    intro env' he hu
    obtain ⟨t1, t2, t3⟩ := told hu
    clear told
    refine hK _ (WP.slots he ?_)
    clear hK K he
    refine WP.seqR [r258] fun K hK => ?_
    simp -implicitDefEqProofs only [leafA, innerA, nodeA, patchA, Leaf.cells, Inner.cells, Node.cells, r258_c, r258_ask, decide_true, decide_false, ht, kt, hL, go_sem, Nat.reduceEqDiff, reduceIte, Nat.reduceAdd, Nat.reduceLeDiff, Nat.reduceLT, Nat.reduceSub]
    refine hK _ ?_
    clear hK K
    refine WP.weakL [(0, nodes t), (1, .int .i64 x), (5, .bool true), (7, ints L)] ?_ ?_
    · simp only [envL_cons, Nat.reduceEqDiff, reduceIte, List.mem_cons, List.not_mem_nil, or_false, forall_eq_or_imp, forall_eq, weak_refl, and_self]
    refine WP.seqR [] fun K hK => ?_
    have k2 : ∀ env', (∀ p ∈ [(0, nodes t), (1, .int .i64 x), (5, .bool true), (7, ints L)], env' p.1 = p.2) → K ⟨env', []⟩ := by
      intro env' he
      refine hK _ (WP.slots he ?_)
      clear hK K he
      refine wpc_soundR [] ?_
      simp -implicitDefEqProofs only [leafA, innerA, nodeA, patchA, Leaf.cells, Inner.cells, Node.cells, decide_true, decide_false, go_sem, Nat.reduceEqDiff, reduceIte, Nat.reduceAdd, Nat.reduceLeDiff, Nat.reduceLT, Nat.reduceSub]
      refine WP.loop0 (fun c => c ≤ t.length + 1) (fun c => [(0, nodes t), (1, .int .i64 x), (5, .bool true), (7, ints L), (10, .int .i64 (c : Nat))]) (fun c => t.length + 2 - c) 0 (Nat.zero_le _) (fun c _ => by simp ) (by simp ) ?_
      intro c hc
      refine wpc_soundR [r255] ?_
      by_cases hlt : (c : Int) < (t.length : Nat)
      rotate_left
      · simp -implicitDefEqProofs only [leafA, innerA, nodeA, patchA, Leaf.cells, Inner.cells, Node.cells, r255_c, r255_ask, decide_true, decide_false, hlt, go_sem, Nat.reduceEqDiff, reduceIte, Nat.reduceAdd, Nat.reduceLeDiff, Nat.reduceLT, Nat.reduceSub]
      have hc' : c < t.length := by omega
      have w2 : IntKind.i64.wrap ((c : Int) + 2) = ((c + 2 : Nat) : Int) := by rw [wrap64 _ (by omega) (by omega)]; omega
      simp -implicitDefEqProofs only [leafA, innerA, nodeA, patchA, Leaf.cells, Inner.cells, Node.cells, r255_c, r255_ask, decide_true, decide_false, hlt, go_sem, Nat.reduceEqDiff, reduceIte, Nat.reduceAdd, Nat.reduceLeDiff, Nat.reduceLT, Nat.reduceSub]
      refine WP.loop0 (fun k => k ≤ L.length) (fun k => [(0, nodes t), (1, .int .i64 x), (5, .bool true), (7, ints L), (10, .int .i64 (c : Nat)), (11, .int .i64 (cnt (fun z => decide (z ∈ ups (c : Int) t.length)) L k : Nat)), (12, .int .i64 (k : Nat))]) (fun k => L.length - k) 0 (Nat.zero_le _) (fun k _ => by simp ) (by simp [cnt_zero]) ?_
      intro k hk2
      refine wpc_soundR [r255] ?_
      by_cases hlt2 : (k : Int) < (L.length : Nat)
      · have hk' : k < L.length := by omega
        have wk := wrapS (show k < 9223372036854775807 by omega)
        have hle := cnt_le (fun z => decide (z ∈ ups (c : Int) t.length)) L k
        have wc := wrapS (show cnt (fun z => decide (z ∈ ups (c : Int) t.length)) L k < 9223372036854775807 by omega)
        have sn := cnt_snoc (fun z => decide (z ∈ ups (c : Int) t.length)) hk'
        simp only [decide_eq_true_eq] at sn
        by_cases hz : L[k] ∈ ups (c : Int) t.length
        · rw [if_pos hz] at sn
          simp -implicitDefEqProofs only [leafA, innerA, nodeA, patchA, Leaf.cells, Inner.cells, Node.cells, r255_c, r255_ask, decide_true, decide_false, hlt2, fun H => index_ints H L k hk', hz, wk, wc, go_sem, Nat.reduceEqDiff, reduceIte, Nat.reduceAdd, Nat.reduceLeDiff, Nat.reduceLT, Nat.reduceSub]
          exact ⟨k + 1, by omega, by omega, by simp [sn]⟩
        · rw [if_neg hz] at sn
          simp -implicitDefEqProofs only [leafA, innerA, nodeA, patchA, Leaf.cells, Inner.cells, Node.cells, r255_c, r255_ask, decide_true, decide_false, hlt2, fun H => index_ints H L k hk', hz, wk, go_sem, Nat.reduceEqDiff, reduceIte, Nat.reduceAdd, Nat.reduceLeDiff, Nat.reduceLT, Nat.reduceSub]
          exact ⟨k + 1, by omega, by omega, by simp [sn]⟩
      · have e : k = L.length := by omega
        subst e
        by_cases hk : t[c].kind = 0
        · simp -implicitDefEqProofs only [leafA, innerA, nodeA, patchA, Leaf.cells, Inner.cells, Node.cells, r255_c, r255_ask, decide_true, decide_false, hlt2, fun H => ix_nodes H t c hc', hk, w2, not_true_eq_false, go_sem, Nat.reduceEqDiff, reduceIte, Nat.reduceAdd, Nat.reduceLeDiff, Nat.reduceLT, Nat.reduceSub]
          exact ⟨c + 2, by omega, by omega, by simp ⟩
        by_cases hxu : x ∈ ups (c : Int) t.length
        · have h1 : (((cnt (fun z => decide (z ∈ ups (c : Int) t.length)) L L.length : Nat) : Int) = 1) = True := eq_true (by rw [t3 c hc' hk hxu]; rfl)
          simp -implicitDefEqProofs only [leafA, innerA, nodeA, patchA, Leaf.cells, Inner.cells, Node.cells, r255_c, r255_ask, decide_true, decide_false, hlt2, fun H => ix_nodes H t c hc', hk, hxu, h1, w2, not_true_eq_false, not_false_eq_true, go_sem, Nat.reduceEqDiff, reduceIte, Nat.reduceAdd, Nat.reduceLeDiff, Nat.reduceLT, Nat.reduceSub]
          exact ⟨c + 2, by omega, by omega, by simp ⟩
        · simp -implicitDefEqProofs only [leafA, innerA, nodeA, patchA, Leaf.cells, Inner.cells, Node.cells, r255_c, r255_ask, decide_true, decide_false, hlt2, fun H => ix_nodes H t c hc', hk, hxu, w2, not_false_eq_true, go_sem, Nat.reduceEqDiff, reduceIte, Nat.reduceAdd, Nat.reduceLeDiff, Nat.reduceLT, Nat.reduceSub]
          exact ⟨c + 2, by omega, by omega, by simp ⟩
    clear hK
    simp -implicitDefEqProofs only [leafA, innerA, nodeA, patchA, Leaf.cells, Inner.cells, Node.cells, decide_true, decide_false, go_sem, Nat.reduceEqDiff, reduceIte, Nat.reduceAdd, Nat.reduceLeDiff, Nat.reduceLT, Nat.reduceSub]
    refine WP.loop0 (fun i => i ≤ L.length) (fun i => [(0, nodes t), (1, .int .i64 x), (5, .bool true), (7, ints L), (8, .int .i64 (i : Nat))]) (fun i => L.length - i) 0 (Nat.zero_le _) (fun k _ => by simp ) (by simp ) ?_
    intro i hi
    refine wpc_soundR [r255] ?_
    by_cases hlt : (i : Int) < (L.length : Nat)
    rotate_left
    · simp -implicitDefEqProofs only [leafA, innerA, nodeA, patchA, Leaf.cells, Inner.cells, Node.cells, r255_c, r255_ask, decide_true, decide_false, hlt, go_sem, Nat.reduceEqDiff, reduceIte, Nat.reduceAdd, Nat.reduceLeDiff, Nat.reduceLT, Nat.reduceSub]
      refine k2 _ ?_
      simp only [envL_cons, Nat.reduceEqDiff, reduceIte, List.mem_cons, List.not_mem_nil, or_false, forall_eq_or_imp, forall_eq, and_self]
    have hi' : i < L.length := by omega
    have wi := wrapS (show i < 9223372036854775807 by omega)
    obtain ⟨z0, z1, zk, zu⟩ := t1 _ (List.getElem_mem hi')
    obtain ⟨c, hc⟩ : ∃ c : Nat, L[i] = c := ⟨L[i].toNat, by omega⟩
    rw [hc] at z0 z1 zk zu
    have hcl : c < t.length := by omega
    rw [Int.toNat_natCast, nodeAt_lt hcl] at zk
    have g0 : ¬ (c : Int) < 0 := by omega
    have g1 : ¬ (c : Int) ≥ (t.length : Nat) := by omega
    have hapart : ∀ k (hk : k < L.length), ¬ i = k → ¬ L[k] ∈ ups (c : Int) t.length := by
      intro k hk hne
      rw [← hc]
      rcases Nat.lt_or_ge i k with h | h
      · exact ((List.pairwise_iff_getElem.1 t2) i k hi' hk h).2
      · exact ((List.pairwise_iff_getElem.1 t2) k i hk hi' (by omega)).1
    simp -implicitDefEqProofs only [leafA, innerA, nodeA, patchA, Leaf.cells, Inner.cells, Node.cells, r255_c, r255_ask, decide_true, decide_false, hlt, fun H => index_ints H L i hi', hc, g0, g1, fun H => ix_nodes H t c hcl, zk, zu, go_sem, Nat.reduceEqDiff, reduceIte, Nat.reduceAdd, Nat.reduceLeDiff, Nat.reduceLT, Nat.reduceSub]
    refine WP.loop0 (fun k => k ≤ L.length) (fun k => [(0, nodes t), (1, .int .i64 x), (5, .bool true), (7, ints L), (8, .int .i64 (i : Nat)), (9, .int .i64 (k : Nat))]) (fun k => L.length - k) 0 (Nat.zero_le _) (fun k _ => by simp ) (by simp ) ?_
    intro k hk2
    refine wpc_soundR [] ?_
    by_cases hlt2 : (k : Int) < (L.length : Nat)
    rotate_left
    · simp -implicitDefEqProofs only [leafA, innerA, nodeA, patchA, Leaf.cells, Inner.cells, Node.cells, decide_true, decide_false, hlt2, wi, go_sem, Nat.reduceEqDiff, reduceIte, Nat.reduceAdd, Nat.reduceLeDiff, Nat.reduceLT, Nat.reduceSub]
      exact ⟨i + 1, by omega, by omega, by simp ⟩
    have hk' : k < L.length := by omega
    have wk := wrapS (show k < 9223372036854775807 by omega)
    by_cases hik : i = k
    · have hg : ((i : Int) = (k : Int)) = True := eq_true (by omega)
      simp -implicitDefEqProofs only [leafA, innerA, nodeA, patchA, Leaf.cells, Inner.cells, Node.cells, decide_true, decide_false, hlt2, go_sem, Nat.reduceEqDiff, reduceIte, Nat.reduceAdd, Nat.reduceLeDiff, Nat.reduceLT, Nat.reduceSub]
      refine WP.drawQ [r255] [.l, .l, .l, .l, .l, .l, .g 0 0, .g 0 0, .l, .l, .g 0 0, .g 0 0, .l, .g 0 0, .l, .l] mixed (by decide) ?_
      simp -implicitDefEqProofs only [leafA, innerA, nodeA, patchA, Leaf.cells, Inner.cells, Node.cells, r255_c, r255_ask, decide_true, decide_false, hg, not_true_eq_false, wk, go_sem, Nat.reduceEqDiff, reduceIte, Nat.reduceAdd, Nat.reduceLeDiff, Nat.reduceLT, Nat.reduceSub]
      exact ⟨k + 1, by omega, by omega, by simp ⟩
    · have hg : ¬ ((i : Int) = (k : Int)) := by omega
      have ha := hapart k hk' hik
      simp -implicitDefEqProofs only [leafA, innerA, nodeA, patchA, Leaf.cells, Inner.cells, Node.cells, decide_true, decide_false, hlt2, go_sem, Nat.reduceEqDiff, reduceIte, Nat.reduceAdd, Nat.reduceLeDiff, Nat.reduceLT, Nat.reduceSub]
      refine WP.drawQ [r255] [.l, .l, .l, .l, .l, .l, .g 0 0, .g 0 0, .l, .l, .g 0 0, .g 0 0, .l, .g 0 0, .l, .l] mixed (by decide) ?_
      simp -implicitDefEqProofs only [leafA, innerA, nodeA, patchA, Leaf.cells, Inner.cells, Node.cells, r255_c, r255_ask, decide_true, decide_false, hg, not_false_eq_true, fun H => index_ints H L i hi', hc, fun H => index_ints H L k hk', ha, wk, go_sem, Nat.reduceEqDiff, reduceIte, Nat.reduceAdd, Nat.reduceLeDiff, Nat.reduceLT, Nat.reduceSub]
      exact ⟨k + 1, by omega, by omega, by simp ⟩
  clear hK
  simp -implicitDefEqProofs only [leafA, innerA, nodeA, patchA, Leaf.cells, Inner.cells, Node.cells, decide_true, decide_false, go_sem, Nat.reduceEqDiff, reduceIte, Nat.reduceAdd, Nat.reduceLeDiff, Nat.reduceLT, Nat.reduceSub]
  refine WP.loop0 (fun c => c ≤ t.length ∧ ∀ y (hy : y < t.length), y < c → t[y].inner.unmerged = []) (fun c => [(0, nodes t), (1, .int .i64 x), (5, .bool true), (6, .int .i64 (c : Nat))]) (fun c => t.length - c) 0 ⟨Nat.zero_le _, fun _ _ h => absurd h (Nat.not_lt_zero _)⟩ (fun c _ => by simp ) (by simp ) ?_
  rintro c ⟨hc, hu⟩
  refine wpc_soundR [] ?_
  by_cases hlt : (c : Int) < (t.length : Nat)
  rotate_left
  · simp -implicitDefEqProofs only [leafA, innerA, nodeA, patchA, Leaf.cells, Inner.cells, Node.cells, decide_true, decide_false, hlt, go_sem, Nat.reduceEqDiff, reduceIte, Nat.reduceAdd, Nat.reduceLeDiff, Nat.reduceLT, Nat.reduceSub]
    refine k1 _ ?_ fun y hy => hu y hy (by omega)
    simp only [envL_cons, Nat.reduceEqDiff, reduceIte, List.mem_cons, List.not_mem_nil, or_false, forall_eq_or_imp, forall_eq, and_self]
  have hc' : c < t.length := by omega
  by_cases he : (t[c].inner.unmerged.length : Int) > 0
  · simp -implicitDefEqProofs only [leafA, innerA, nodeA, patchA, Leaf.cells, Inner.cells, Node.cells, decide_true, decide_false, hlt, fun H => ix_nodes H t c hc', he, go_sem, Nat.reduceEqDiff, reduceIte, Nat.reduceAdd, Nat.reduceLeDiff, Nat.reduceLT, Nat.reduceSub]
  · simp -implicitDefEqProofs only [leafA, innerA, nodeA, patchA, Leaf.cells, Inner.cells, Node.cells, decide_true, decide_false, hlt, fun H => ix_nodes H t c hc', he, go_sem, Nat.reduceEqDiff, reduceIte, Nat.reduceAdd, Nat.reduceLeDiff, Nat.reduceLT, Nat.reduceSub]
    refine ⟨c + 1, ⟨hc', fun y hy h => ?_⟩, by omega, by simp [wrapS (show c < 9223372036854775807 by omega)]⟩
    rcases Nat.lt_or_ge y c with h3 | h3
    · exact hu y hy h3
    · obtain rfl : y = c := by omega
      exact List.eq_nil_of_length_eq_zero (by omega)
end Go.Proofs.YtlehcigcaihoaaaDoor.Al
