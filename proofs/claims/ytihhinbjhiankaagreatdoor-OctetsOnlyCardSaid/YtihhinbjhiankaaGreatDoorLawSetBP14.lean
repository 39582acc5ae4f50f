/-
  JOINED: O7, O8, O9
-/
import Derived.Test.YtihhinbjhiankaaGreatDoorLawSetBP13
import Derived.Test.YtihhinbjhiankaaGreatDoorLawSetBP12
set_option linter.unusedSimpArgs false
set_option linter.unusedVariables false
namespace Go.Proofs.YtihhinbjhiankaaGreatDoor.Al
open Go
attribute [local go_sem] W_mv W_pick W_alloc W_box W_build W_bslice W_load W_store W_bin W_isnil W_un W_convI W_convS W_mkiface W_mkfunc W_slice W_faddr W_iaddr W_idxA W_extract W_len W_min W_max W_append W_appendZ W_clear W_invoke thenQ_normal thenQ_exit thenQ_goto thenQ_ret blockQ_normal blockQ_ret blockQ_goto blockQ_exit wpc_skip wpc_region wpc_draw wpc_seq wpc_cond wpc_block wpc_exit wpc_goto wpc_label wpc_ret wpc_loop wpc_range wpc_scope condW_true condW_false condW_dec condW_any W_nil W_call resW_some evalOp Opd.ev updo_envL updo_none setL_cons setL_nil envL_cons Option.map_some Option.bind_some evBin evInt List.map_cons List.map_nil Option.pure_def Option.bind_eq_bind W_grd' grdW_tt grdW_ff grdW_tf grdW_ft grdW_tup grdW_dt grdW_df lgrdW_tup L_mv L_load L_bin L_un L_faddr L_iaddr L_nil L_call lresW_some upd_envL evUn beq_dec bne_dec leaves_ret1 leaves_ret0 leaves_end0 rowLen_ints load_iptr0 not_dec heap_get0 heap_get1 heap_set0 heap_set1 heap_len1 heap_app bslice1_int seen_ints seen_one0 bslice0_int Nat.sub_zero Bool.not_true Bool.not_false List.length_nil List.length_cons List.nil_append List.cons_append Nat.zero_add load_iptrA canon_ptrI canon_bool canon_tup canon_agg canon_ints' canon_ints0 rowLen_ints1 rowLen_octs seen_octs canon_octs' seen_intss seen_octss rowLen_nodes seen_nodes canon_nodes' rowLen_nodes3 seen_list cells_int oneIn_int cells_bool oneIn_bool cells_str oneIn_str cells_list oneIn_list cells_func oneIn_func cells_nilfunc oneIn_nilfunc cells_iptr oneIn_iptr cells_iface oneIn_iface cells_nilIface oneIn_nilIface cells_own cells_ptr cells_anybool oneIn_anybool cells_agg oneIn_own0 oneIn_own1 seenL1 seenM1 oneIn_ptr2 seenL2 oneIn_own3 seenL3 cells_ints oneIn_ints cells_octs oneIn_octs cells_intss oneIn_intss cells_octss oneIn_octss cells_nodes oneIn_nodes ldB0 ldA0 adB0 stB0 ldB1 ldA1 adB1 stB1 ldB2 ldA2 adB2 stB2 ldB3 ldA3 adB3 stB3 ldB4 ldA4 adB4 stB4 ldB5 ldA5 adB5 stB5 List.getElem?_cons_zero List.getElem?_cons_succ beq_self_eq_true splice List.take_zero List.take_succ_cons List.drop_zero List.drop_succ_cons List.append_nil List.set_cons_zero List.set_cons_succ List.all_cons List.all_nil Bool.and_self and_self and_true true_and Nat.lt_irrefl Nat.zero_lt_one Nat.le_refl fillA evNil notA Bool.false_eq_true evMin_int evMax_int Option.map_none freezeP_all_nil freezeP_all_cons frzE_box frzE_arr frzE_dead foldA List.foldlM_cons List.foldlM_nil callW_f lcallW_f ansW_fn ansW_own lansW_fn lansW_own ansW_none lansW_none tab_cons tab_nil dI_int dB_bool dO_octs dO_ints dO_list dO_nil dOs_nil dN_nodeA dLf_agg dIn_agg dN_agg dNs_nodes dNs_nil isI_int isB_bool isO_octs isO_nil isO_list isS_ints isS_nil isNs_nodes isNs_nil isN_nodeA isLf_agg isIn_agg isN_agg leaf_eta inner_eta node_eta leaf_zero inner_zero node_zero dP_agg isP_agg patch_eta decide_eq_true_eq decide_eq_false_iff_not eq_self forall_const true_implies false_implies Bool.not_eq_true' Bool.not_eq_false' Bool.true_eq_false implies_true ne_eq ldI ldIA adI AV.tup.injEq AV.agg.injEq List.cons.injEq AV.int.injEq AV.bool.injEq nodes_inj octs_inj ints_inj nil_nodes nil_octs nil_ints canon_nilL decide_eq_decide two_ne four_ne lendA_fn lendA_own lendA_none llendA_fn llendA_none false_and and_false Q_nil Q_l Q_g Q_h Q_grd qgrdW_b qgrdW_tup lightD_some heavyD_some readD_some fnD_some fnD_own fnD_none callL_f ownH_some litD_some litE_some Q_call Q_bslice H_call pendOk_nil pendOk_cons pastOk_nil pastOk_cons Q_mv Q_pick Q_bin Q_un Q_convI Q_mkfunc Q_extract Q_min Q_max Q_lenS Q_lenA Q_field Q_idxA Q_mkiface Q_tassert Q_alloc Q_box Q_store Q_mkslice Q_append Q_appendZ Q_copy Q_clear Q_build Q_load Q_nilck Q_isnil Q_convS Q_slice Q_faddr Q_iaddr Q_iaddrA Q_len H_alloc H_box H_bslice H_store H_mkslice H_append H_appendZ H_copy H_clear free_mv free_pick free_bin free_un free_convI free_mkfunc free_extract free_min free_max free_lenS free_lenA free_field free_idxA free_mkiface free_tassert free_build free_load free_nilck free_isnil free_convS free_slice free_faddr free_iaddr free_iaddrA free_len callW_y List.length_map List.length_set leaves_r evR_some evRess1 evRess2 evRess3 evRes_t evRes_c nz_kind nz_enc nz_cred nz_source nz_parent nz_ienc nz_hash nz_un true_or or_true bsl_node appI appO ixo_nodes canon_rowI canon_rowO not_false_eq_true not_true_eq_false ldE_a ldE_c adE_b stE_b onE_a onP_b bsl_zero
attribute [local go_sem low] condW_b grdW_b lgrdW_b ldP adP stP onO onPt
attribute [local simp] envL_cons envL_nil idb_int idb_bool idb_ints idb_nil idb_own idb_ptr idb_octs idb_nodes idb_leafA idb_innerA idb_nodeA idb_agg idb_tup idb_iptr idb_fn entB_dead entB_box
theorem dropT_ok {t : List Node} (ht : Tree.Ok t) (l : List Int) : Tree.Ok (dropT t l) := by
  have ok := known_ok ht
  refine ⟨?_, fun n hn => ?_⟩
  · have := ok.1
    simp only [Small, dropT, List.length_mapIdx] at this ⊢; exact this
  · unfold dropT at hn
    obtain ⟨x, hx, rfl⟩ := List.getElem_of_mem hn
    rw [List.getElem_mapIdx]
    have hx' : x < (known t).length := by simpa using hx
    have hz : (dropZ l x (known t)[x]).Ok := by
      unfold dropZ
      split
      · exact .zero
      · exact ok.2 _ (List.getElem_mem hx')
    refine ⟨hz.leaf, ⟨hz.inner.enc, hz.inner.hash, ⟨?_, fun y hy => ?_⟩⟩, hz.kind⟩
    · have h1 := hz.inner.unmerged.1
      have h2 := List.length_filter_le (fun x => !l.contains x) (dropZ l x (known t)[x]).inner.unmerged
      simp only [Small] at h1 ⊢
      show (cutL _ l).length ≤ _
      unfold cutL; omega
    · exact hz.inner.unmerged.2 y ((List.mem_filter.1 hy).1)
/-- All leaves that some node names. -/
def unmT (t : List Node) : List Int := t.flatMap fun n => n.inner.unmerged
theorem unmT_take (t : List Node) {k : Nat} (h : k < t.length) : unmT (t.take (k + 1)) = unmT (t.take k) ++ t[k].inner.unmerged := by
  unfold unmT
  rw [List.take_succ_eq_append_getElem h, List.flatMap_append]; simp
theorem unmT_len {l : List Node} (h : ∀ n ∈ l, n.inner.unmerged.length ≤ 64) : (unmT l).length ≤ 64 * l.length := by
  unfold unmT
  induction l with
  | nil => simp
  | cons n l ih =>
    have h1 := h n (List.mem_cons_self ..)
    have h2 := ih fun m hm => h m (List.mem_cons_of_mem _ hm)
    rw [List.flatMap_cons, List.length_append, List.length_cons]; omega
theorem any_take {α : Type} (p : α → Bool) (l : List α) {k : Nat} (h : k < l.length) : (l.take (k + 1)).any p = ((l.take k).any p || p l[k]) := by
  rw [List.take_succ_eq_append_getElem h, List.any_append]; simp
theorem frz_rowI {H : List Entry} {id ver k : Nat} {l : List Int} (h : H[id]? = some (.frz 1 ver (l.map (AV.int .i64)))) : derefN H (k + 1) (.own id ver 0 l.length) = ints l := by
  simp only [derefN, h, List.length_map, Nat.le_refl, and_self, if_true, List.drop_zero]
  rw [List.take_of_length_le (by simp), List.map_map, ints]
  congr 1
  exact List.map_congr_left fun x _ => encI64.norm H k x
theorem drop_named {t : List Node} (hs : Sane t) : NamedT (dropT t (unmT t)) := by
  unfold NamedT NamedK
  intro x hx i hi
  have hk : (nodeAt (dropT t (unmT t)) x).inner.unmerged = [] := by
    unfold dropT
    rw [known_of hs]
    by_cases hxt : x < t.length
    · rw [nodeAt_lt (by simpa using hxt), List.getElem_mapIdx]
      show cutL _ _ = []
      unfold cutL
      rw [List.filter_eq_nil_iff]
      intro y hy
      have hyt : y ∈ t[x].inner.unmerged := by
        unfold dropZ at hy
        split at hy
        · cases hy
        · exact hy
      have : y ∈ unmT t := List.mem_flatMap.2 ⟨_, List.getElem_mem hxt, hyt⟩
      simpa using this
    · rw [nodeAt_ge (by simpa using Nat.le_of_not_lt hxt)]; rfl
  have hkn : (nodeAt (known (dropT t (unmT t))) x).inner.unmerged = [] := by
    unfold known
    split
    · exact hk
    · simp [nodeAt, Node.zero, Inner.zero]
  rw [hkn] at hi
  cases hi
set_option maxRecDepth 100000 in
set_option maxHeartbeats 2000000 in
theorem octetsNamed_spec (t : List Node) (ht : Tree.Ok t) : Fun seat 317 [nodes t] (.bool true) := by
  by_cases hf : Few t
  rotate_left
  · refine Fun.of0R [r326, r100] told317 (by simp [il317]) (by simp [idb_patchA]) (by simp [idb_patchA]) 4 ?_
    simp -implicitDefEqProofs only [il317, List.zipIdx_cons, List.zipIdx_nil, leafA, innerA, nodeA, patchA, Leaf.cells, Inner.cells, Node.cells, r326_c, r326_ask, r100_c, r100_ask, decide_true, decide_false, ht, hf, go_sem, Nat.reduceEqDiff, reduceIte, Nat.reduceAdd, Nat.reduceLeDiff, Nat.reduceLT, Nat.reduceSub]
  by_cases hs : Sane t
  rotate_left
  · refine Fun.of0R [r326, r100, r101] told317 (by simp [il317]) (by simp [idb_patchA]) (by simp [idb_patchA]) 4 ?_
    simp -implicitDefEqProofs only [il317, List.zipIdx_cons, List.zipIdx_nil, leafA, innerA, nodeA, patchA, Leaf.cells, Inner.cells, Node.cells, r326_c, r326_ask, r100_c, r100_ask, r101_c, r101_ask, decide_true, decide_false, ht, hf, hs, go_sem, Nat.reduceEqDiff, reduceIte, Nat.reduceAdd, Nat.reduceLeDiff, Nat.reduceLT, Nat.reduceSub]
  have tl := hs.len
  have dn := drop_named hs
  have dk := dropT_ok ht (unmT t)
  have nn : (t.any fun n => decide (n.kind = 2)) = false → NamedT t := fun h => named_none hs fun x hx he => by
    rw [Bool.eq_false_iff] at h
    exact h (List.any_eq_true.2 ⟨_, List.getElem_mem hx, by simpa using he⟩)
  have ulen : ∀ k, (unmT (t.take k)).length ≤ 64 * 127 := fun k => by
    have := unmT_len (l := t.take k) fun n hn => by
      obtain ⟨x, hx, rfl⟩ := List.getElem_of_mem (List.mem_of_mem_take hn)
      exact unm_len (hs.1 x hx).2
    rw [List.length_take] at this
    omega
  obtain ⟨inn, hinn⟩ : ∃ p : Node → Bool, (fun n : Node => decide (n.kind = 2)) = p := ⟨_, rfl⟩
  have hink : ∀ n : Node, inn n = decide (n.kind = 2) := fun n => by rw [← hinn]
  rw [hinn] at nn
  refine Fun.of0W told317 (by simp [il317]) (by simp ) (by simp ) 4 ?_
  simp only [il317, List.zipIdx_cons, List.zipIdx_nil]
  refine WP.seqR [] fun K hK => ?_
  simp -implicitDefEqProofs only [leafA, innerA, nodeA, patchA, Leaf.cells, Inner.cells, Node.cells, decide_true, decide_false, go_sem, Nat.reduceEqDiff, reduceIte, Nat.reduceAdd, Nat.reduceLeDiff, Nat.reduceLT, Nat.reduceSub]
  refine hK _ ?_
  clear hK K
  refine WP.seqR [r326] fun K hK => ?_
  simp -implicitDefEqProofs only [leafA, innerA, nodeA, patchA, Leaf.cells, Inner.cells, Node.cells, r326_c, r326_ask, decide_true, decide_false, go_sem, Nat.reduceEqDiff, reduceIte, Nat.reduceAdd, Nat.reduceLeDiff, Nat.reduceLT, Nat.reduceSub]
  refine hK _ ?_
  clear hK K
  refine WP.seqR [r100, r101] fun K hK => ?_
  simp -implicitDefEqProofs only [leafA, innerA, nodeA, patchA, Leaf.cells, Inner.cells, Node.cells, r100_c, r100_ask, r101_c, r101_ask, decide_true, decide_false, ht, hf, hs, go_sem, Nat.reduceEqDiff, reduceIte, Nat.reduceAdd, Nat.reduceLeDiff, Nat.reduceLT, Nat.reduceSub]
  refine hK _ ?_
  clear hK K
  refine WP.seqR [] fun K hK => ?_
  simp -implicitDefEqProofs only [leafA, innerA, nodeA, patchA, Leaf.cells, Inner.cells, Node.cells, decide_true, decide_false, go_sem, Nat.reduceEqDiff, reduceIte, Nat.reduceAdd, Nat.reduceLeDiff, Nat.reduceLT, Nat.reduceSub]
  refine hK _ (WP.adopt 4 1 rfl ?_)
  rw [upd_envL]
  clear hK K
  refine WP.seqR [] fun K hK => ?_
  simp -implicitDefEqProofs only [leafA, innerA, nodeA, patchA, Leaf.cells, Inner.cells, Node.cells, decide_true, decide_false, go_sem, Nat.reduceEqDiff, reduceIte, Nat.reduceAdd, Nat.reduceLeDiff, Nat.reduceLT, Nat.reduceSub]
  refine hK _ ?_
  clear hK K
  refine WP.seqR [] fun K hK => ?_
  simp -implicitDefEqProofs only [leafA, innerA, nodeA, patchA, Leaf.cells, Inner.cells, Node.cells, decide_true, decide_false, go_sem, Nat.reduceEqDiff, reduceIte, Nat.reduceAdd, Nat.reduceLeDiff, Nat.reduceLT, Nat.reduceSub]
  refine WP.weakL [(0, nodes t), (3, .bool true), (4, .own 0 0 0 0), (5, .bool false), (6, .int .i64 0)] ?_ ?_
  · simp only [envL_cons, Nat.reduceEqDiff, reduceIte, List.mem_cons, List.not_mem_nil, or_false, forall_eq_or_imp, forall_eq, weak_refl, and_self]
  refine WP.loopG (fun s : Nat × Nat => s.1 ≤ t.length) (fun s => [(0, nodes t), (3, .bool true), (4, .own 0 s.2 0 (unmT (t.take s.1)).length), (5, .bool ((t.take s.1).any inn)), (6, .int .i64 (s.1 : Nat))]) (fun s => [.arr 1 s.2 ((unmT (t.take s.1)).map (AV.int .i64))]) (fun s => t.length - s.1) (0, 0) (Nat.zero_le _) (fun k _ => ⟨by simp, by simp [idb_patchA], fun e he => by (simp only [List.mem_cons, List.not_mem_nil, or_false] at he); (rcases he with rfl | rfl | rfl | rfl | rfl | rfl) <;> first | exact encNode.entB _ _ _ _ | exact encI64.entB _ _ _ _ | exact encU8.entB _ _ _ _ | simp ⟩) (by simp [unmT]) ?_
  rintro ⟨j, v⟩ hj
  simp only at hj
  by_cases hlt : (j : Int) < (t.length : Nat)
  · have hj' : j < t.length := by omega
    have u1 := ulen j
    have u2 := ulen (j + 1)
    have ut := unmT_take t hj'
    have at1 := any_take inn t hj'
    rw [hink] at at1
    rw [ut] at u2
    obtain ⟨w, ap⟩ := encI64.app_any (H := [Entry.arr 1 v ((unmT (t.take j)).map (AV.int .i64))]) (id := 0) (ver := v) (l := unmT (t.take j)) (ys := t[j].inner.unmerged) (bytes := 8) rfl (by unfold maxRow; rw [List.length_append] at u2; omega) (by decide)
    rw [← ut] at ap
    simp only [encI64, List.set_cons_zero] at ap
    obtain ⟨B, hB⟩ : ∃ B, (t.take j).any inn = B := ⟨_, rfl⟩
    simp only [hB] at at1 ⊢
    refine wpc_soundR [] ?_
    cases B with
    | true =>
      simp -implicitDefEqProofs only [leafA, innerA, nodeA, patchA, Leaf.cells, Inner.cells, Node.cells, decide_true, decide_false, hlt, fun H => ix_nodes H t j hj', ap, go_sem, Nat.reduceEqDiff, reduceIte, Nat.reduceAdd, Nat.reduceLeDiff, Nat.reduceLT, Nat.reduceSub]
      exact ⟨(j + 1, w), hj', by simp only; omega, by simp [wrapS (show j < 9223372036854775807 by omega), at1], by simp⟩
    | false =>
      simp -implicitDefEqProofs only [leafA, innerA, nodeA, patchA, Leaf.cells, Inner.cells, Node.cells, decide_true, decide_false, hlt, fun H => ix_nodes H t j hj', ap, go_sem, Nat.reduceEqDiff, reduceIte, Nat.reduceAdd, Nat.reduceLeDiff, Nat.reduceLT, Nat.reduceSub]
      exact ⟨(j + 1, w), hj', by simp only; omega, by simp [wrapS (show j < 9223372036854775807 by omega), at1], by simp⟩
  · have e : j = t.length := by omega
    subst e
    simp only [List.take_length]
    refine wpc_soundR [] ?_
    simp -implicitDefEqProofs only [leafA, innerA, nodeA, patchA, Leaf.cells, Inner.cells, Node.cells, decide_true, decide_false, hlt, go_sem, Nat.reduceEqDiff, reduceIte, Nat.reduceAdd, Nat.reduceLeDiff, Nat.reduceLT, Nat.reduceSub]
    refine hK _ (WP.freeze all (WP.deref 4 1 ?_))
    clear hK K
    have rU := frz_rowI (H := [.frz 1 v ((unmT t).map (AV.int .i64))]) (id := 0) (ver := v) (k := 0) (l := unmT t) rfl
    refine WP.weakL [(0, nodes t), (3, .bool true), (4, ints (unmT t)), (5, .bool (t.any inn))] ?_ ?_
    · simp only [upd_envL, freezeP_all_cons, freezeP_all_nil, frzE_arr, envL_cons, Nat.reduceEqDiff, reduceIte, rU, List.mem_cons, List.not_mem_nil, or_false, forall_eq_or_imp, forall_eq, weak_refl, and_self]
    simp only [freezeP_all_cons, freezeP_all_nil, frzE_arr]
    have uS : Small (unmT t) := by have := ulen t.length; rw [List.take_length] at this; simp only [Small]; omega
    obtain ⟨U, hU⟩ : ∃ U, unmT t = U := ⟨_, rfl⟩
    rw [hU] at dn dk uS ⊢
    have go := growT_ok ht
    refine WP.seqR [r107] fun K hK => ?_
    simp -implicitDefEqProofs only [leafA, innerA, nodeA, patchA, Leaf.cells, Inner.cells, Node.cells, r107_c, r107_ask, decide_true, decide_false, ht, go_sem, Nat.reduceEqDiff, reduceIte, Nat.reduceAdd, Nat.reduceLeDiff, Nat.reduceLT, Nat.reduceSub]
    refine hK _ ?_
    clear hK K
    obtain ⟨B, hB⟩ : ∃ B, t.any inn = B := ⟨_, rfl⟩
    rw [hB] at nn ⊢
    by_cases h7 : t.length = 127
    · rw [growT_full hs h7] at go ⊢
      have h10 : ((10 : Int) = 0) = False := eq_false (by decide)
      cases B with
      | true =>
        refine wpc_soundR [r329, r333] ?_
        simp -implicitDefEqProofs only [leafA, innerA, nodeA, patchA, Leaf.cells, Inner.cells, Node.cells, r329_c, r329_ask, r333_c, r333_ask, decide_true, decide_false, ht, h10, uS, dk, dn, ne_eq, not_false_eq_true, go_sem, Nat.reduceEqDiff, reduceIte, Nat.reduceAdd, Nat.reduceLeDiff, Nat.reduceLT, Nat.reduceSub]
      | false =>
        have nt := nn rfl
        refine wpc_soundR [r329, r333] ?_
        simp -implicitDefEqProofs only [leafA, innerA, nodeA, patchA, Leaf.cells, Inner.cells, Node.cells, r329_c, r329_ask, r333_c, r333_ask, decide_true, decide_false, ht, h10, nt, uS, dk, dn, ne_eq, not_false_eq_true, go_sem, Nat.reduceEqDiff, reduceIte, Nat.reduceAdd, Nat.reduceLeDiff, Nat.reduceLT, Nat.reduceSub]
    · rw [growT_grown hs h7] at go ⊢
      simp only at go
      have ng : NamedT (grown t) = NamedT t := propext (named_grown hs h7)
      cases B with
      | true =>
        refine wpc_soundR [r329, r333] ?_
        simp -implicitDefEqProofs only [leafA, innerA, nodeA, patchA, Leaf.cells, Inner.cells, Node.cells, r329_c, r329_ask, r333_c, r333_ask, decide_true, decide_false, ht, go, ng, uS, dk, dn, ne_eq, not_true_eq_false, go_sem, Nat.reduceEqDiff, reduceIte, Nat.reduceAdd, Nat.reduceLeDiff, Nat.reduceLT, Nat.reduceSub]
      | false =>
        have nt := nn rfl
        refine wpc_soundR [r329, r333] ?_
        simp -implicitDefEqProofs only [leafA, innerA, nodeA, patchA, Leaf.cells, Inner.cells, Node.cells, r329_c, r329_ask, r333_c, r333_ask, decide_true, decide_false, ht, go, ng, nt, uS, dk, dn, ne_eq, not_true_eq_false, go_sem, Nat.reduceEqDiff, reduceIte, Nat.reduceAdd, Nat.reduceLeDiff, Nat.reduceLT, Nat.reduceSub]
end Go.Proofs.YtihhinbjhiankaaGreatDoor.Al

set_option linter.unusedSimpArgs false
set_option linter.unusedVariables false
namespace Go.Proofs.YtihhinbjhiankaaGreatDoor.Al
open Go
attribute [local go_sem] W_mv W_pick W_alloc W_box W_build W_bslice W_load W_store W_bin W_isnil W_un W_convI W_convS W_mkiface W_mkfunc W_slice W_faddr W_iaddr W_idxA W_extract W_len W_min W_max W_append W_appendZ W_clear W_invoke thenQ_normal thenQ_exit thenQ_goto thenQ_ret blockQ_normal blockQ_ret blockQ_goto blockQ_exit wpc_skip wpc_region wpc_draw wpc_seq wpc_cond wpc_block wpc_exit wpc_goto wpc_label wpc_ret wpc_loop wpc_range wpc_scope condW_true condW_false condW_dec condW_any W_nil W_call resW_some evalOp Opd.ev updo_envL updo_none setL_cons setL_nil envL_cons Option.map_some Option.bind_some evBin evInt List.map_cons List.map_nil Option.pure_def Option.bind_eq_bind W_grd' grdW_tt grdW_ff grdW_tf grdW_ft grdW_tup grdW_dt grdW_df lgrdW_tup L_mv L_load L_bin L_un L_faddr L_iaddr L_nil L_call lresW_some upd_envL evUn beq_dec bne_dec leaves_ret1 leaves_ret0 leaves_end0 rowLen_ints load_iptr0 not_dec heap_get0 heap_get1 heap_set0 heap_set1 heap_len1 heap_app bslice1_int seen_ints seen_one0 bslice0_int Nat.sub_zero Bool.not_true Bool.not_false List.length_nil List.length_cons List.nil_append List.cons_append Nat.zero_add load_iptrA canon_ptrI canon_bool canon_tup canon_agg canon_ints' canon_ints0 rowLen_ints1 rowLen_octs seen_octs canon_octs' seen_intss seen_octss rowLen_nodes seen_nodes canon_nodes' rowLen_nodes3 seen_list cells_int oneIn_int cells_bool oneIn_bool cells_str oneIn_str cells_list oneIn_list cells_func oneIn_func cells_nilfunc oneIn_nilfunc cells_iptr oneIn_iptr cells_iface oneIn_iface cells_nilIface oneIn_nilIface cells_own cells_ptr cells_anybool oneIn_anybool cells_agg oneIn_own0 oneIn_own1 seenL1 seenM1 oneIn_ptr2 seenL2 oneIn_own3 seenL3 cells_ints oneIn_ints cells_octs oneIn_octs cells_intss oneIn_intss cells_octss oneIn_octss cells_nodes oneIn_nodes ldB0 ldA0 adB0 stB0 ldB1 ldA1 adB1 stB1 ldB2 ldA2 adB2 stB2 ldB3 ldA3 adB3 stB3 ldB4 ldA4 adB4 stB4 ldB5 ldA5 adB5 stB5 List.getElem?_cons_zero List.getElem?_cons_succ beq_self_eq_true splice List.take_zero List.take_succ_cons List.drop_zero List.drop_succ_cons List.append_nil List.set_cons_zero List.set_cons_succ List.all_cons List.all_nil Bool.and_self and_self and_true true_and Nat.lt_irrefl Nat.zero_lt_one Nat.le_refl fillA evNil notA Bool.false_eq_true evMin_int evMax_int Option.map_none freezeP_all_nil freezeP_all_cons frzE_box frzE_arr frzE_dead foldA List.foldlM_cons List.foldlM_nil callW_f lcallW_f ansW_fn ansW_own lansW_fn lansW_own ansW_none lansW_none tab_cons tab_nil dI_int dB_bool dO_octs dO_ints dO_list dO_nil dOs_nil dN_nodeA dLf_agg dIn_agg dN_agg dNs_nodes dNs_nil isI_int isB_bool isO_octs isO_nil isO_list isS_ints isS_nil isNs_nodes isNs_nil isN_nodeA isLf_agg isIn_agg isN_agg leaf_eta inner_eta node_eta leaf_zero inner_zero node_zero dP_agg isP_agg patch_eta decide_eq_true_eq decide_eq_false_iff_not eq_self forall_const true_implies false_implies Bool.not_eq_true' Bool.not_eq_false' Bool.true_eq_false implies_true ne_eq ldI ldIA adI AV.tup.injEq AV.agg.injEq List.cons.injEq AV.int.injEq AV.bool.injEq nodes_inj octs_inj ints_inj nil_nodes nil_octs nil_ints canon_nilL decide_eq_decide two_ne four_ne lendA_fn lendA_own lendA_none llendA_fn llendA_none false_and and_false Q_nil Q_l Q_g Q_h Q_grd qgrdW_b qgrdW_tup lightD_some heavyD_some readD_some fnD_some fnD_own fnD_none callL_f ownH_some litD_some litE_some Q_call Q_bslice H_call pendOk_nil pendOk_cons pastOk_nil pastOk_cons Q_mv Q_pick Q_bin Q_un Q_convI Q_mkfunc Q_extract Q_min Q_max Q_lenS Q_lenA Q_field Q_idxA Q_mkiface Q_tassert Q_alloc Q_box Q_store Q_mkslice Q_append Q_appendZ Q_copy Q_clear Q_build Q_load Q_nilck Q_isnil Q_convS Q_slice Q_faddr Q_iaddr Q_iaddrA Q_len H_alloc H_box H_bslice H_store H_mkslice H_append H_appendZ H_copy H_clear free_mv free_pick free_bin free_un free_convI free_mkfunc free_extract free_min free_max free_lenS free_lenA free_field free_idxA free_mkiface free_tassert free_build free_load free_nilck free_isnil free_convS free_slice free_faddr free_iaddr free_iaddrA free_len callW_y List.length_map List.length_set leaves_r evR_some evRess1 evRess2 evRess3 evRes_t evRes_c nz_kind nz_enc nz_cred nz_source nz_parent nz_ienc nz_hash nz_un true_or or_true bsl_node appI appO ixo_nodes canon_rowI canon_rowO not_false_eq_true not_true_eq_false ldE_a ldE_c adE_b stE_b onE_a onP_b bsl_zero
attribute [local go_sem low] condW_b grdW_b lgrdW_b ldP adP stP onO onPt
attribute [local simp] envL_cons envL_nil idb_int idb_bool idb_ints idb_nil idb_own idb_ptr idb_octs idb_nodes idb_leafA idb_innerA idb_nodeA idb_agg idb_tup idb_iptr idb_fn entB_dead entB_box
attribute [local go_sem high] qgrdW_tt qgrdW_ff qgrdW_tf
set_option maxRecDepth 100000 in
set_option maxHeartbeats 2000000 in
theorem octetsTrail_spec (t : List Node) (ht : Tree.Ok t) : Fun seat 316 [nodes t] (.bool true) := by
  by_cases hf : Few t
  rotate_left
  · refine Fun.of0R [r326, r100] told316 (by simp [il316]) (by simp [idb_patchA]) (by simp [idb_patchA]) 4 ?_
    simp -implicitDefEqProofs only [il316, List.zipIdx_cons, List.zipIdx_nil, leafA, innerA, nodeA, patchA, Leaf.cells, Inner.cells, Node.cells, r326_c, r326_ask, r100_c, r100_ask, decide_true, decide_false, ht, hf, go_sem, Nat.reduceEqDiff, reduceIte, Nat.reduceAdd, Nat.reduceLeDiff, Nat.reduceLT, Nat.reduceSub]
  by_cases hs : Sane t
  rotate_left
  · refine Fun.of0R [r326, r100, r101] told316 (by simp [il316]) (by simp [idb_patchA]) (by simp [idb_patchA]) 4 ?_
    simp -implicitDefEqProofs only [il316, List.zipIdx_cons, List.zipIdx_nil, leafA, innerA, nodeA, patchA, Leaf.cells, Inner.cells, Node.cells, r326_c, r326_ask, r100_c, r100_ask, r101_c, r101_ask, decide_true, decide_false, ht, hf, hs, go_sem, Nat.reduceEqDiff, reduceIte, Nat.reduceAdd, Nat.reduceLeDiff, Nat.reduceLT, Nat.reduceSub]
  have tl := hs.len
  by_cases h7 : t.length = 127
  · have g7 := growT_full hs h7
    have h10 : ((10 : Int) = 0) = False := eq_false (by decide)
    refine Fun.of0R [r326, r100, r101, r107] told316 (by simp [il316]) (by simp [idb_patchA]) (by simp [idb_patchA]) 4 ?_
    simp -implicitDefEqProofs only [il316, List.zipIdx_cons, List.zipIdx_nil, leafA, innerA, nodeA, patchA, Leaf.cells, Inner.cells, Node.cells, r326_c, r326_ask, r100_c, r100_ask, r101_c, r101_ask, r107_c, r107_ask, decide_true, decide_false, ht, hf, hs, g7, h10, ne_eq, not_false_eq_true, go_sem, Nat.reduceEqDiff, reduceIte, Nat.reduceAdd, Nat.reduceLeDiff, Nat.reduceLT, Nat.reduceSub]
  have gg := growT_grown hs h7
  have go := growT_ok ht
  rw [gg] at go
  simp only at go
  have pg := put_grown hs h7
  have l1 := (lastT_le t).1
  have l2 := (lastT_le t).2
  rw [known_of hs] at l2
  obtain ⟨m, hm⟩ : ∃ m : Nat, lastT t + 1 = m := ⟨(lastT t + 1).toNat, by omega⟩
  have hml : m ≤ t.length := by rw [hm] at l2; omega
  have w1 : IntKind.i64.wrap (m : Int) = m := wrap64 _ (by omega) (by omega)
  have hz : ∀ x (hx : x < t.length), m ≤ x → t[x] = .zero := fun x hx h => behind_zero hs hx (by omega)
  have hb0 : evBslice ([] : List Entry) 8 0 (.agg [.int .i64 0, .list true [], .list true [], .int .i64 0, .list true [], .list true [], .list true [], .list true []]) [] = some (.own 0 0 0 0, [.arr 8 0 []]) := rfl
  have cl : ∃ v, evAppend [Entry.arr 8 0 []] 8 160 (.own 0 0 0 0) (t.map nodeA) = some (.own 0 v 0 t.length, [.arr 8 v (t.map nodeA)]) := by
    obtain ⟨v, hv⟩ := encNode.app_any (H := [Entry.arr 8 0 (([] : List Node).map nodeA)]) (id := 0) (ver := 0) (l := []) (ys := t) (bytes := 160) rfl (by unfold maxRow; simp; omega) (by decide)
    exact ⟨v, by simpa [encNode] using hv⟩
  obtain ⟨v, cl⟩ := cl
  refine Fun.of0W told316 (by simp [il316]) (by simp ) (by simp ) 4 ?_
  simp only [il316, List.zipIdx_cons, List.zipIdx_nil]
  refine WP.seqR [] fun K hK => ?_
  simp -implicitDefEqProofs only [leafA, innerA, nodeA, patchA, Leaf.cells, Inner.cells, Node.cells, decide_true, decide_false, go_sem, Nat.reduceEqDiff, reduceIte, Nat.reduceAdd, Nat.reduceLeDiff, Nat.reduceLT, Nat.reduceSub]
  refine hK _ ?_
  clear hK K
  refine WP.seqR [r326] fun K hK => ?_
  simp -implicitDefEqProofs only [leafA, innerA, nodeA, patchA, Leaf.cells, Inner.cells, Node.cells, r326_c, r326_ask, decide_true, decide_false, go_sem, Nat.reduceEqDiff, reduceIte, Nat.reduceAdd, Nat.reduceLeDiff, Nat.reduceLT, Nat.reduceSub]
  refine hK _ ?_
  clear hK K
  refine WP.seqR [r100, r101] fun K hK => ?_
  simp -implicitDefEqProofs only [leafA, innerA, nodeA, patchA, Leaf.cells, Inner.cells, Node.cells, r100_c, r100_ask, r101_c, r101_ask, decide_true, decide_false, ht, hf, hs, go_sem, Nat.reduceEqDiff, reduceIte, Nat.reduceAdd, Nat.reduceLeDiff, Nat.reduceLT, Nat.reduceSub]
  refine hK _ ?_
  clear hK K
  refine WP.seqR [r107] fun K hK => ?_
  simp -implicitDefEqProofs only [leafA, innerA, nodeA, patchA, Leaf.cells, Inner.cells, Node.cells, r107_c, r107_ask, decide_true, decide_false, ht, gg, go_sem, Nat.reduceEqDiff, reduceIte, Nat.reduceAdd, Nat.reduceLeDiff, Nat.reduceLT, Nat.reduceSub]
  refine hK _ ?_
  clear hK K
  refine WP.seqR [] fun K hK => ?_
  simp -implicitDefEqProofs only [leafA, innerA, nodeA, patchA, Leaf.cells, Inner.cells, Node.cells, decide_true, decide_false, ne_eq, not_true_eq_false, go_sem, Nat.reduceEqDiff, reduceIte, Nat.reduceAdd, Nat.reduceLeDiff, Nat.reduceLT, Nat.reduceSub]
  refine hK _ ?_
  clear hK K
  refine WP.seqR [] fun K hK => ?_
  simp -implicitDefEqProofs only [leafA, innerA, nodeA, patchA, Leaf.cells, Inner.cells, Node.cells, decide_true, decide_false, hb0, cl, go_sem, Nat.reduceEqDiff, reduceIte, Nat.reduceAdd, Nat.reduceLeDiff, Nat.reduceLT, Nat.reduceSub]
  refine hK _ ?_
  clear hK K
  refine WP.seqR [r104] fun K hK => ?_
  simp -implicitDefEqProofs only [leafA, innerA, nodeA, patchA, Leaf.cells, Inner.cells, Node.cells, r104_c, r104_ask, decide_true, decide_false, ht, hm, w1, go_sem, Nat.reduceEqDiff, reduceIte, Nat.reduceAdd, Nat.reduceLeDiff, Nat.reduceLT, Nat.reduceSub]
  refine WP.weakL [(0, nodes t), (3, .bool true), (4, nodes (grown t)), (6, .own 0 v 0 t.length), (7, .int .i64 m)] ?_ ?_
  · simp only [envL_cons, Nat.reduceEqDiff, reduceIte, List.mem_cons, List.not_mem_nil, or_false, forall_eq_or_imp, forall_eq, weak_refl, and_self]
  refine WP.loopG (fun j => m ≤ j ∧ j ≤ t.length) (fun j => [(0, nodes t), (3, .bool true), (4, nodes (grown t)), (6, .own 0 v 0 t.length), (7, .int .i64 (j : Nat))]) (fun _ => [.arr 8 v (t.map nodeA)]) (fun j => t.length - j) m ⟨Nat.le_refl _, hml⟩ (fun k _ => ⟨by simp, by simp [idb_patchA], fun e he => by (simp only [List.mem_cons, List.not_mem_nil, or_false] at he); (rcases he with rfl | rfl | rfl | rfl | rfl | rfl) <;> first | exact encNode.entB _ _ _ _ | exact encI64.entB _ _ _ _ | exact encU8.entB _ _ _ _ | simp ⟩) (by simp ) ?_
  rintro j ⟨hj1, hj2⟩
  have rl : rowLen [.arr 8 v (t.map nodeA)] (.own 0 v 0 t.length) = some t.length := by simp [rowLen, AV.oneIn]
  by_cases hlt : (j : Int) < (t.length : Nat)
  · have hj' : j < t.length := by omega
    have hzj := hz j hj' hj1
    have ixR : evIndex [.arr 8 v (t.map nodeA)] 8 (.own 0 v 0 t.length) (.int .i64 (j : Int)) = some (.eptr 0 v j 0) := ixo_nodes (H := [.arr 8 v (t.map nodeA)]) (id := 0) (ver := v) (k := j) (l := t) rfl hj'
    have stz := st_zero0 (ver := v) hj'
    refine WP.seqR [] fun K2 hK2 => ?_
    simp -implicitDefEqProofs only [leafA, innerA, nodeA, patchA, Leaf.cells, Inner.cells, Node.cells, decide_true, decide_false, rl, Option.bind_some, hlt, go_sem, Nat.reduceEqDiff, reduceIte, Nat.reduceAdd, Nat.reduceLeDiff, Nat.reduceLT, Nat.reduceSub]
    refine hK2 _ ?_
    clear hK2 K2
    refine WP.seqR [] fun K2 hK2 => ?_
    simp -implicitDefEqProofs only [leafA, innerA, nodeA, patchA, Leaf.cells, Inner.cells, Node.cells, decide_true, decide_false, ixR, stz, go_sem, Nat.reduceEqDiff, reduceIte, Nat.reduceAdd, Nat.reduceLeDiff, Nat.reduceLT, Nat.reduceSub]
    refine hK2 _ ?_
    clear hK2 K2
    refine WP.weakR 0 j (nodeA .zero) rfl (x := zeroA) (by simp [hj']) zeroA_weak ?_
    simp only [List.set_cons_zero, List.set_set]
    rw [← List.map_set, ← hzj, List.set_getElem_self]
    refine wpc_soundR [] ?_
    simp -implicitDefEqProofs only [leafA, innerA, nodeA, patchA, Leaf.cells, Inner.cells, Node.cells, decide_true, decide_false, go_sem, Nat.reduceEqDiff, reduceIte, Nat.reduceAdd, Nat.reduceLeDiff, Nat.reduceLT, Nat.reduceSub]
    exact ⟨j + 1, ⟨by omega, by omega⟩, by omega, by simp [wrapS (show j < 9223372036854775807 by omega)]⟩
  · refine wpc_soundR [] ?_
    simp -implicitDefEqProofs only [leafA, innerA, nodeA, patchA, Leaf.cells, Inner.cells, Node.cells, decide_true, decide_false, rl, Option.bind_some, hlt, go_sem, Nat.reduceEqDiff, reduceIte, Nat.reduceAdd, Nat.reduceLeDiff, Nat.reduceLT, Nat.reduceSub]
    refine hK _ (WP.freeze all (WP.deref 6 3 ?_))
    clear hK K
    have rN := frz_rowN (H := [.frz 8 v (t.map nodeA)]) (id := 0) (ver := v) (k := 2) (l := t) rfl
    refine WP.weakL [(0, nodes t), (3, .bool true), (4, nodes (grown t)), (6, nodes t)] ?_ ?_
    · simp only [upd_envL, freezeP_all_cons, freezeP_all_nil, frzE_arr, envL_cons, Nat.reduceEqDiff, reduceIte, rN, List.mem_cons, List.not_mem_nil, or_false, forall_eq_or_imp, forall_eq, weak_refl, and_self]
    simp only [freezeP_all_cons, freezeP_all_nil, frzE_arr]
    refine WP.seqR [] fun K hK => ?_
    refine WP.drawQ [r331] [.l, .l, .l, .l, .g 0 0, .l, .l, .g 0 0, .l, .l, .l, .l, .l, .g 0 0, .l, .l, .g 0 0, .l, .l, .l] mixed (by decide) ?_
    simp -implicitDefEqProofs only [leafA, innerA, nodeA, patchA, Leaf.cells, Inner.cells, Node.cells, r331_c, r331_ask, decide_true, decide_false, ht, go, pg, bytes_octs, evStr_eql, go_sem, Nat.reduceEqDiff, reduceIte, Nat.reduceAdd, Nat.reduceLeDiff, Nat.reduceLT, Nat.reduceSub]
    refine hK _ (wpc_soundR [] ?_)
    simp -implicitDefEqProofs only [leafA, innerA, nodeA, patchA, Leaf.cells, Inner.cells, Node.cells, decide_true, decide_false, go_sem, Nat.reduceEqDiff, reduceIte, Nat.reduceAdd, Nat.reduceLeDiff, Nat.reduceLT, Nat.reduceSub]
end Go.Proofs.YtihhinbjhiankaaGreatDoor.Al

set_option linter.unusedSimpArgs false
set_option linter.unusedVariables false
namespace Go.Proofs.YtihhinbjhiankaaGreatDoor.Al
open Go
attribute [local go_sem] W_mv W_pick W_alloc W_box W_build W_bslice W_load W_store W_bin W_isnil W_un W_convI W_convS W_mkiface W_mkfunc W_slice W_faddr W_iaddr W_idxA W_extract W_len W_min W_max W_append W_appendZ W_clear W_invoke thenQ_normal thenQ_exit thenQ_goto thenQ_ret blockQ_normal blockQ_ret blockQ_goto blockQ_exit wpc_skip wpc_region wpc_draw wpc_seq wpc_cond wpc_block wpc_exit wpc_goto wpc_label wpc_ret wpc_loop wpc_range wpc_scope condW_true condW_false condW_dec condW_any W_nil W_call resW_some evalOp Opd.ev updo_envL updo_none setL_cons setL_nil envL_cons Option.map_some Option.bind_some evBin evInt List.map_cons List.map_nil Option.pure_def Option.bind_eq_bind W_grd' grdW_tt grdW_ff grdW_tf grdW_ft grdW_tup grdW_dt grdW_df lgrdW_tup L_mv L_load L_bin L_un L_faddr L_iaddr L_nil L_call lresW_some upd_envL evUn beq_dec bne_dec leaves_ret1 leaves_ret0 leaves_end0 rowLen_ints load_iptr0 not_dec heap_get0 heap_get1 heap_set0 heap_set1 heap_len1 heap_app bslice1_int seen_ints seen_one0 bslice0_int Nat.sub_zero Bool.not_true Bool.not_false List.length_nil List.length_cons List.nil_append List.cons_append Nat.zero_add load_iptrA canon_ptrI canon_bool canon_tup canon_agg canon_ints' canon_ints0 rowLen_ints1 rowLen_octs seen_octs canon_octs' seen_intss seen_octss rowLen_nodes seen_nodes canon_nodes' rowLen_nodes3 seen_list cells_int oneIn_int cells_bool oneIn_bool cells_str oneIn_str cells_list oneIn_list cells_func oneIn_func cells_nilfunc oneIn_nilfunc cells_iptr oneIn_iptr cells_iface oneIn_iface cells_nilIface oneIn_nilIface cells_own cells_ptr cells_anybool oneIn_anybool cells_agg oneIn_own0 oneIn_own1 seenL1 seenM1 oneIn_ptr2 seenL2 oneIn_own3 seenL3 cells_ints oneIn_ints cells_octs oneIn_octs cells_intss oneIn_intss cells_octss oneIn_octss cells_nodes oneIn_nodes ldB0 ldA0 adB0 stB0 ldB1 ldA1 adB1 stB1 ldB2 ldA2 adB2 stB2 ldB3 ldA3 adB3 stB3 ldB4 ldA4 adB4 stB4 ldB5 ldA5 adB5 stB5 List.getElem?_cons_zero List.getElem?_cons_succ beq_self_eq_true splice List.take_zero List.take_succ_cons List.drop_zero List.drop_succ_cons List.append_nil List.set_cons_zero List.set_cons_succ List.all_cons List.all_nil Bool.and_self and_self and_true true_and Nat.lt_irrefl Nat.zero_lt_one Nat.le_refl fillA evNil notA Bool.false_eq_true evMin_int evMax_int Option.map_none freezeP_all_nil freezeP_all_cons frzE_box frzE_arr frzE_dead foldA List.foldlM_cons List.foldlM_nil callW_f lcallW_f ansW_fn ansW_own lansW_fn lansW_own ansW_none lansW_none tab_cons tab_nil dI_int dB_bool dO_octs dO_ints dO_list dO_nil dOs_nil dN_nodeA dLf_agg dIn_agg dN_agg dNs_nodes dNs_nil isI_int isB_bool isO_octs isO_nil isO_list isS_ints isS_nil isNs_nodes isNs_nil isN_nodeA isLf_agg isIn_agg isN_agg leaf_eta inner_eta node_eta leaf_zero inner_zero node_zero dP_agg isP_agg patch_eta decide_eq_true_eq decide_eq_false_iff_not eq_self forall_const true_implies false_implies Bool.not_eq_true' Bool.not_eq_false' Bool.true_eq_false implies_true ne_eq ldI ldIA adI AV.tup.injEq AV.agg.injEq List.cons.injEq AV.int.injEq AV.bool.injEq nodes_inj octs_inj ints_inj nil_nodes nil_octs nil_ints canon_nilL decide_eq_decide two_ne four_ne lendA_fn lendA_own lendA_none llendA_fn llendA_none false_and and_false Q_nil Q_l Q_g Q_h Q_grd qgrdW_b qgrdW_tup lightD_some heavyD_some readD_some fnD_some fnD_own fnD_none callL_f ownH_some litD_some litE_some Q_call Q_bslice H_call pendOk_nil pendOk_cons pastOk_nil pastOk_cons Q_mv Q_pick Q_bin Q_un Q_convI Q_mkfunc Q_extract Q_min Q_max Q_lenS Q_lenA Q_field Q_idxA Q_mkiface Q_tassert Q_alloc Q_box Q_store Q_mkslice Q_append Q_appendZ Q_copy Q_clear Q_build Q_load Q_nilck Q_isnil Q_convS Q_slice Q_faddr Q_iaddr Q_iaddrA Q_len H_alloc H_box H_bslice H_store H_mkslice H_append H_appendZ H_copy H_clear free_mv free_pick free_bin free_un free_convI free_mkfunc free_extract free_min free_max free_lenS free_lenA free_field free_idxA free_mkiface free_tassert free_build free_load free_nilck free_isnil free_convS free_slice free_faddr free_iaddr free_iaddrA free_len callW_y List.length_map List.length_set leaves_r evR_some evRess1 evRess2 evRess3 evRes_t evRes_c nz_kind nz_enc nz_cred nz_source nz_parent nz_ienc nz_hash nz_un true_or or_true bsl_node appI appO ixo_nodes canon_rowI canon_rowO not_false_eq_true not_true_eq_false ldE_a ldE_c adE_b stE_b onE_a onP_b bsl_zero
attribute [local go_sem low] condW_b grdW_b lgrdW_b ldP adP stP onO onPt
attribute [local simp] envL_cons envL_nil idb_int idb_bool idb_ints idb_nil idb_own idb_ptr idb_octs idb_nodes idb_leafA idb_innerA idb_nodeA idb_agg idb_tup idb_iptr idb_fn entB_dead entB_box
attribute [local go_sem high] qgrdW_tt qgrdW_ff qgrdW_tf
theorem getT_ok {b : List Int} (hb : Oct b) : Tree.Ok (getT b).1 := by
  obtain ⟨o1, _⟩ := gbytes_oct hb
  unfold getT
  split
  · exact .nil
  split
  · exact .nil
  generalize (gbytes b).1 = v at o1
  unfold getK
  split
  · exact .nil
  split
  · exact .nil
  rename_i hf
  split
  · exact .nil
  split
  · exact .nil
  refine padT_ok (fun n hn => ?_) ?_
  · obtain ⟨p, hp, rfl⟩ := List.mem_map.1 hn
    exact ysF_ok 128 0 v o1 p hp
  · have := (ysF_all 128 0 v rfl (by omega) (bytes_of o1) (firstE_zero (Classical.not_not.1 hf))).2.1
    rw [List.length_map]
    change (ysI v).length + 0 ≤ 127 at this
    omega
theorem frz_rowO {H : List Entry} {id ver k : Nat} {l : List Int} (h : H[id]? = some (.frz 1 ver (l.map (AV.int .u8)))) : derefN H (k + 1) (.own id ver 0 l.length) = octs l := by
  simp only [derefN, h, List.length_map, Nat.le_refl, and_self, if_true, List.drop_zero]
  rw [List.take_of_length_le (by simp), List.map_map, octs]
  congr 1
  exact List.map_congr_left fun x _ => encU8.norm H k x
set_option maxRecDepth 100000 in
set_option maxHeartbeats 2000000 in
theorem octetsOnly_spec (b : List Int) (x : Int) (hb : Oct b) (hx : 0 ≤ x ∧ x ≤ 255) : Fun seat 315 [octs b, .int .u8 x] (.bool true) := by
  by_cases h2 : (b.length : Int) > 20000
  · refine Fun.of0R [r326] told315 (by simp [il315]) (by simp [idb_patchA]) (by simp [idb_patchA]) 4 ?_
    simp -implicitDefEqProofs only [il315, List.zipIdx_cons, List.zipIdx_nil, leafA, innerA, nodeA, patchA, Leaf.cells, Inner.cells, Node.cells, r326_c, r326_ask, decide_true, decide_false, h2, go_sem, Nat.reduceEqDiff, reduceIte, Nat.reduceAdd, Nat.reduceLeDiff, Nat.reduceLT, Nat.reduceSub]
  have hbl : b.length ≤ 4294967295 := by omega
  have ok := getT_ok hb
  rcases hg : getT b with ⟨t, e⟩
  rw [hg] at ok
  simp only at ok
  by_cases he : e = 0
  rotate_left
  · have ht : t = [] := by
      have := getT_err (b := b) (by rw [hg]; exact he)
      rwa [hg] at this
    subst ht
    refine Fun.of0R [r326, r327] told315 (by simp [il315]) (by simp [idb_patchA]) (by simp [idb_patchA]) 4 ?_
    simp -implicitDefEqProofs only [il315, List.zipIdx_cons, List.zipIdx_nil, leafA, innerA, nodeA, patchA, Leaf.cells, Inner.cells, Node.cells, r326_c, r326_ask, r327_c, r327_ask, decide_true, decide_false, h2, hb, hbl, hg, he, ne_eq, not_false_eq_true, List.length_nil, Int.natCast_zero, go_sem, Nat.reduceEqDiff, reduceIte, Nat.reduceAdd, Nat.reduceLeDiff, Nat.reduceLT, Nat.reduceSub]
  subst he
  obtain ⟨hs, t0, nt, lv, pt, lst, f2, b0, g1⟩ := getT_only hb hg
  have hw : Whole t.length := hs.2.resolve_left (by omega)
  have tl := hs.len
  obtain ⟨m, hm⟩ : ∃ m, b.length - 1 = m := ⟨_, rfl⟩
  rw [hm] at g1
  have w1 : IntKind.i64.wrap ((b.length : Int) - 1) = (m : Int) := by rw [wrap64 _ (by omega) (by omega)]; omega
  have sl : ∀ H, evSlice H 1 (octs b) none (some (.int .i64 (m : Int))) none = some (octs (b.take m)) := fun H => by
    have := sliceT_octs H b (m : Int) (by omega) (by omega)
    rwa [Int.toNat_natCast] at this
  have ob : Oct (b ++ [x]) := by
    have := hb.1
    simp only [Small] at this
    refine ⟨by simp only [Small, List.length_append, List.length_cons, List.length_nil]; omega, fun y hy => ?_⟩
    rcases List.mem_append.1 hy with h | h
    · exact hb.2 y h
    · rw [List.mem_singleton.1 h]; exact hx
  have om : Oct (b.take m) := by
    have := hb.1
    simp only [Small] at this
    exact ⟨by simp only [Small, List.length_take]; omega, fun y hy => hb.2 y (List.mem_of_mem_take hy)⟩
  have hl1 : (b ++ [x]).length ≤ 4294967295 := by simp; omega
  have hl2 : (b.take m).length ≤ 4294967295 := by rw [List.length_take]; omega
  rcases hG : getT (b ++ [x]) with ⟨t1, e1⟩
  rcases hM : getT (b.take m) with ⟨t2, e2⟩
  have he1 : e1 = 2 := by have := f2 x; rwa [hG] at this
  have he2 : e2 = 1 := by rwa [hM] at g1
  subst he1 he2
  clear f2 g1
  have hb0 : evBslice ([] : List Entry) 1 0 (.int .u8 0) [] = some (.own 0 0 0 0, [.arr 1 0 []]) := rfl
  have a1 : ∃ v, evAppend [Entry.arr 1 0 []] 1 1 (.own 0 0 0 0) (b.map (AV.int .u8)) = some (.own 0 v 0 b.length, [.arr 1 v (b.map (AV.int .u8))]) := by
    obtain ⟨v, hv⟩ := encU8.app_any (H := [Entry.arr 1 0 (([] : List Int).map (AV.int .u8))]) (id := 0) (ver := 0) (l := []) (ys := b) (bytes := 1) rfl (by unfold maxRow; simp; omega) (by decide)
    exact ⟨v, by simpa [encU8] using hv⟩
  obtain ⟨v, a1⟩ := a1
  have a2 : ∃ w, ∀ e : Entry, evAppend [Entry.arr 1 v (b.map (AV.int .u8)), e] 1 1 (.own 0 v 0 b.length) [.int .u8 x] = some (.own 0 w 0 (b ++ [x]).length, [.arr 1 w ((b ++ [x]).map (AV.int .u8)), e]) := by
    refine ⟨v + 1, fun e => ?_⟩
    have := encU8.app_owns (H := [Entry.arr 1 v (b.map (AV.int .u8)), e]) (id := 0) (ver := v) (l := b) (ys := [x]) (bytes := 1) rfl (by unfold maxRow; simp; omega) (by decide) (by simp)
    exact this
  obtain ⟨w, a2⟩ := a2
  refine Fun.of0W told315 (by simp [il315]) (by simp ) (by simp ) 4 ?_
  simp only [il315, List.zipIdx_cons, List.zipIdx_nil]
  refine WP.seqR [] fun K hK => ?_
  simp -implicitDefEqProofs only [leafA, innerA, nodeA, patchA, Leaf.cells, Inner.cells, Node.cells, decide_true, decide_false, go_sem, Nat.reduceEqDiff, reduceIte, Nat.reduceAdd, Nat.reduceLeDiff, Nat.reduceLT, Nat.reduceSub]
  refine hK _ ?_
  clear hK K
  refine WP.seqR [r326] fun K hK => ?_
  simp -implicitDefEqProofs only [leafA, innerA, nodeA, patchA, Leaf.cells, Inner.cells, Node.cells, r326_c, r326_ask, decide_true, decide_false, go_sem, Nat.reduceEqDiff, reduceIte, Nat.reduceAdd, Nat.reduceLeDiff, Nat.reduceLT, Nat.reduceSub]
  refine hK _ ?_
  clear hK K
  refine WP.seqR [] fun K hK => ?_
  simp -implicitDefEqProofs only [leafA, innerA, nodeA, patchA, Leaf.cells, Inner.cells, Node.cells, decide_true, decide_false, h2, go_sem, Nat.reduceEqDiff, reduceIte, Nat.reduceAdd, Nat.reduceLeDiff, Nat.reduceLT, Nat.reduceSub]
  refine hK _ ?_
  clear hK K
  refine WP.seqR [r327] fun K hK => ?_
  simp -implicitDefEqProofs only [leafA, innerA, nodeA, patchA, Leaf.cells, Inner.cells, Node.cells, r327_c, r327_ask, decide_true, decide_false, hb, hbl, hg, go_sem, Nat.reduceEqDiff, reduceIte, Nat.reduceAdd, Nat.reduceLeDiff, Nat.reduceLT, Nat.reduceSub]
  refine hK _ ?_
  clear hK K
  refine WP.seqR [] fun K hK => ?_
  simp -implicitDefEqProofs only [leafA, innerA, nodeA, patchA, Leaf.cells, Inner.cells, Node.cells, decide_true, decide_false, ne_eq, not_true_eq_false, go_sem, Nat.reduceEqDiff, reduceIte, Nat.reduceAdd, Nat.reduceLeDiff, Nat.reduceLT, Nat.reduceSub]
  refine hK _ ?_
  clear hK K
  refine WP.seqR [] fun K hK => ?_
  simp -implicitDefEqProofs only [leafA, innerA, nodeA, patchA, Leaf.cells, Inner.cells, Node.cells, decide_true, decide_false, hb0, a1, go_sem, Nat.reduceEqDiff, reduceIte, Nat.reduceAdd, Nat.reduceLeDiff, Nat.reduceLT, Nat.reduceSub]
  refine hK _ ?_
  clear hK K
  refine WP.seqR [] fun K hK => ?_
  simp -implicitDefEqProofs only [leafA, innerA, nodeA, patchA, Leaf.cells, Inner.cells, Node.cells, decide_true, decide_false, a2, go_sem, Nat.reduceEqDiff, reduceIte, Nat.reduceAdd, Nat.reduceLeDiff, Nat.reduceLT, Nat.reduceSub]
  refine hK _ (WP.freeze all (WP.deref 8 1 ?_))
  clear hK K
  have rO := frz_rowO (H := [.frz 1 w ((b ++ [x]).map (AV.int .u8)), .frz 1 0 [.int .u8 x]]) (id := 0) (ver := w) (k := 0) (l := b ++ [x]) rfl
  refine WP.weakL [(0, octs b), (5, .bool true), (6, nodes t), (8, octs (b ++ [x]))] ?_ ?_
  · simp only [upd_envL, freezeP_all_cons, freezeP_all_nil, frzE_arr, envL_cons, Nat.reduceEqDiff, reduceIte, rO, List.mem_cons, List.not_mem_nil, or_false, forall_eq_or_imp, forall_eq, weak_refl, and_self]
  simp only [freezeP_all_cons, freezeP_all_nil, frzE_arr]
  clear rO
  refine WP.seqR [r327] fun K hK => ?_
  simp -implicitDefEqProofs only [leafA, innerA, nodeA, patchA, Leaf.cells, Inner.cells, Node.cells, r327_c, r327_ask, decide_true, decide_false, ob, hl1, hG, go_sem, Nat.reduceEqDiff, reduceIte, Nat.reduceAdd, Nat.reduceLeDiff, Nat.reduceLT, Nat.reduceSub]
  refine hK _ ?_
  clear hK K
  refine WP.seqR [r327] fun K hK => ?_
  simp -implicitDefEqProofs only [leafA, innerA, nodeA, patchA, Leaf.cells, Inner.cells, Node.cells, r327_c, r327_ask, decide_true, decide_false, w1, sl, om, hl2, hM, go_sem, Nat.reduceEqDiff, reduceIte, Nat.reduceAdd, Nat.reduceLeDiff, Nat.reduceLT, Nat.reduceSub]
  refine hK _ ?_
  clear hK K
  refine WP.weakL [(0, octs b), (5, .bool true), (6, nodes t), (10, .int .i64 2), (12, .int .i64 1)] ?_ ?_
  · simp only [envL_cons, Nat.reduceEqDiff, reduceIte, List.mem_cons, List.not_mem_nil, or_false, forall_eq_or_imp, forall_eq, weak_refl, and_self]
  have t0' : ((t.length : Nat) : Int) > 0 := by omega
  have w3 : IntKind.i64.wrap ((t.length : Int) / 2 - 1) = (t.length : Int) / 2 - 1 := wrap64 _ (by omega) (by omega)
  refine WP.seqR [] fun K hK => ?_
  refine WP.drawQ [r101, r329, r103, r331, r104, r109] [.l, .l, .l, .l, .l, .l, .l, .g 0 0, .l, .l, .l, .l, .l, .l, .l, .l, .l, .l, .l, .l, .l, .l, .g 0 0, .l, .g 0 0, .l, .l, .l, .l, .g 0 0, .l, .l, .l, .l, .l, .g 0 0, .l, .l, .l, .l, .l, .l, .l, .l, .l, .l, .l, .l, .l, .l] mixed (by decide) ?_
  by_cases h1 : ((t.length : Nat) : Int) = 1
  · simp -implicitDefEqProofs only [leafA, innerA, nodeA, patchA, Leaf.cells, Inner.cells, Node.cells, r101_c, r101_ask, r329_c, r329_ask, r103_c, r103_ask, r331_c, r331_ask, r104_c, r104_ask, r109_c, r109_ask, decide_true, decide_false, ok, hs, t0', nt, lv, pt, bytes_octs, evStr_eql, eq_true h1, go_sem, Nat.reduceEqDiff, reduceIte, Nat.reduceAdd, Nat.reduceLeDiff, Nat.reduceLT, Nat.reduceSub]
    refine hK _ (wpc_soundR [] ?_)
    simp -implicitDefEqProofs only [leafA, innerA, nodeA, patchA, Leaf.cells, Inner.cells, Node.cells, decide_true, decide_false, go_sem, Nat.reduceEqDiff, reduceIte, Nat.reduceAdd, Nat.reduceLeDiff, Nat.reduceLT, Nat.reduceSub]
  · have l3 : lastT t > (t.length : Int) / 2 - 1 := lst.resolve_left (by omega)
    simp -implicitDefEqProofs only [leafA, innerA, nodeA, patchA, Leaf.cells, Inner.cells, Node.cells, r101_c, r101_ask, r329_c, r329_ask, r103_c, r103_ask, r331_c, r331_ask, r104_c, r104_ask, r109_c, r109_ask, decide_true, decide_false, ok, hs, t0', nt, lv, pt, bytes_octs, evStr_eql, h1, hw, w3, l3, go_sem, Nat.reduceEqDiff, reduceIte, Nat.reduceAdd, Nat.reduceLeDiff, Nat.reduceLT, Nat.reduceSub]
    refine hK _ (wpc_soundR [] ?_)
    simp -implicitDefEqProofs only [leafA, innerA, nodeA, patchA, Leaf.cells, Inner.cells, Node.cells, decide_true, decide_false, go_sem, Nat.reduceEqDiff, reduceIte, Nat.reduceAdd, Nat.reduceLeDiff, Nat.reduceLT, Nat.reduceSub]
end Go.Proofs.YtihhinbjhiankaaGreatDoor.Al
