/-
  JOINED: O4, M27, O12, O5, O9, O13
-/
import Derived.Test.YtihhinbjhiankaaGreatDoorLawSetCP7
import Derived.Test.YtihhinbjhiankaaGreatDoorLawSetCP6
set_option linter.unusedSimpArgs false
set_option linter.unusedVariables false
namespace Go.Proofs.YtihhinbjhiankaaGreatDoor.Al
open Go
attribute [local go_sem] W_mv W_pick W_alloc W_box W_build W_bslice W_load W_store W_bin W_isnil W_un W_convI W_convS W_mkiface W_mkfunc W_slice W_faddr W_iaddr W_idxA W_extract W_len W_min W_max W_append thenQ_normal thenQ_exit thenQ_ret blockQ_normal blockQ_ret blockQ_exit wpc_skip wpc_region wpc_draw wpc_seq wpc_cond wpc_block wpc_exit wpc_ret wpc_loop wpc_range condW_true condW_false condW_dec condW_any W_nil W_call resW_some evalOp Opd.ev updo_envL updo_none setL_cons setL_nil envL_cons Option.map_some Option.bind_some evBin evInt List.map_cons List.map_nil Option.pure_def Option.bind_eq_bind W_grd' grdW_tt grdW_ff grdW_tf grdW_ft grdW_tup grdW_dt grdW_df L_mv L_load L_bin L_un L_faddr L_iaddr L_nil L_call lresW_some upd_envL evUn beq_dec bne_dec leaves_ret1 leaves_ret0 leaves_end0 rowLen_ints load_iptr0 not_dec heap_get0 heap_get1 heap_set0 heap_set1 heap_len1 heap_app bslice1_int seen_one0 Nat.sub_zero Bool.not_true Bool.not_false List.length_nil List.length_cons List.nil_append List.cons_append Nat.zero_add canon_ptrI canon_bool canon_tup canon_agg canon_ints' canon_ints0 rowLen_octs seen_octs canon_octs' rowLen_nodes canon_nodes' rowLen_nodes0 rowLen_nodes3 seen_list cells_int oneIn_int cells_bool oneIn_bool cells_list oneIn_list cells_func oneIn_func cells_own cells_ptr cells_agg oneIn_own0 oneIn_own1 seenL1 seenM1 oneIn_ptr2 seenL2 oneIn_own3 seenL3 cells_ints oneIn_ints cells_octs oneIn_octs cells_nodes oneIn_nodes ldB0 ldA0 adB0 stB0 ldB1 ldA1 adB1 stB1 ldB2 ldA2 adB2 stB2 ldB3 stB3 List.getElem?_cons_zero List.getElem?_cons_succ beq_self_eq_true splice List.take_zero List.take_succ_cons List.drop_zero List.drop_succ_cons List.append_nil List.set_cons_zero List.set_cons_succ List.all_cons List.all_nil Bool.and_self and_self and_true true_and Nat.lt_irrefl Nat.zero_lt_one Nat.le_refl fillA evNil notA Bool.false_eq_true evMin_int evMax_int Option.map_none freezeP_all_nil freezeP_all_cons frzE_box frzE_arr foldA List.foldlM_cons List.foldlM_nil callW_f lcallW_f ansW_fn ansW_own lansW_fn ansW_none tab_cons tab_nil dI_int dB_bool dO_octs dO_ints dO_list dO_nil dN_nodeA dLf_agg dIn_agg dN_agg dNs_nodes dNs_nil isI_int isB_bool isO_octs isO_nil isO_list isS_ints isS_nil isNs_nodes isNs_nil isN_nodeA isLf_agg isIn_agg isN_agg leaf_eta inner_eta node_eta leaf_zero inner_zero decide_eq_true_eq decide_eq_false_iff_not eq_self forall_const true_implies false_implies Bool.not_eq_true' Bool.not_eq_false' Bool.true_eq_false implies_true ne_eq ldI ldIA adI AV.tup.injEq AV.agg.injEq List.cons.injEq AV.int.injEq AV.bool.injEq nodes_inj octs_inj ints_inj nil_nodes nil_octs nil_ints canon_nilL decide_eq_decide two_ne four_ne b256_ne lendA_own lendA_none isO_own false_and and_false Q_nil Q_l Q_g Q_h Q_grd qgrdW_b lightD_some heavyD_some readD_some fnD_some callL_f Q_call pendOk_nil pendOk_cons pastOk_nil Q_mv Q_pick Q_bin Q_extract Q_min Q_load Q_slice Q_len H_store free_mv free_pick free_bin free_extract free_min free_load free_slice free_len callW_y List.length_map List.length_set leaves_r evR_some evRess1 evRess2 evRess3 evRes_t evRes_c nz_kind nz_enc nz_cred nz_source nz_parent nz_ienc nz_hash nz_un true_or or_true bsl_node appI appO canon_rowI canon_rowO not_false_eq_true not_true_eq_false ldE_a ldE_c adE_b stE_b onP_b
attribute [local go_sem low] condW_b ldP adP stP onO
attribute [local simp] envL_cons envL_nil idb_int idb_bool idb_ints idb_nil idb_own idb_ptr idb_octs idb_nodes idb_leafA idb_innerA idb_nodeA idb_agg idb_tup idb_iptr idb_fn entB_dead entB_box
theorem firstE_at {ys : List (Node × Int)} {k : Nat} (hk : k < ys.length) (h0 : ∀ j (h : j < ys.length), j < k → ys[j].2 = 0) (h : ys[k].2 ≠ 0) : firstE ys = ys[k].2 := by
  unfold firstE
  have : ys.find? (fun p => decide (p.2 ≠ 0)) = some ys[k] := by
    rw [List.find?_eq_some_iff_getElem]
    refine ⟨by simpa using h, k, hk, rfl, fun j hj => ?_⟩
    simpa using h0 j (by omega) hj
  rw [this]
theorem firstE_none {ys : List (Node × Int)} (h0 : ∀ j (h : j < ys.length), ys[j].2 = 0) : firstE ys = 0 := by
  unfold firstE
  have : ys.find? (fun p => decide (p.2 ≠ 0)) = none := by
    rw [List.find?_eq_none]
    intro p hp
    obtain ⟨j, hj, rfl⟩ := List.getElem_of_mem hp
    simpa using h0 j hj
  rw [this]
theorem ysA_len (ys : List (Node × Int)) : ∀ x ∈ ys.map ysA, x.length = [30, 31].length := by
  intro x hx
  obtain ⟨y, _, rfl⟩ := List.mem_map.1 hx
  rfl
theorem appZn {H : List Entry} {id ver : Nat} {l : List Node} {k : Nat} (hH : H[id]? = some (.arr 8 ver (l.map nodeA ++ List.replicate k zeroA))) (h : l.length + k + 1 ≤ 4294967296) :
    evAppend H 8 160 (.own id ver 0 (l.length + k)) [.agg [.int .i64 0, .list true [], .list true [], .int .i64 0, .list true [], .list true [], .list true [], .list true []]] = some (.own id (ver + 1) 0 (l.length + k + 1), H.set id (.arr 8 (ver + 1) (l.map nodeA ++ List.replicate (k + 1) zeroA))) := by
  have h1 : szOk H 8 [zeroA] = true := rfl
  show evAppend _ _ _ _ [zeroA] = _
  rw [Al.app_own hH (by simp) (by unfold maxRow; simpa using h) (by decide) (by decide) (by simp) h1, List.take_of_length_le (by simp), List.append_assoc, ← List.replicate_succ']
  rfl
theorem canonZn {H : List Entry} {id ver n k : Nat} {l : List Node} (h : H[id]? = some (.arr 8 ver (l.map nodeA ++ List.replicate n zeroA))) : canon H (k + 3) (.own id ver 0 (l.length + n)) = nodes (l ++ List.replicate n .zero) := by
  have h2 : (freezeP all H)[id]? = some (.frz 8 ver (l.map nodeA ++ List.replicate n zeroA)) := by rw [freezeP_get, h]; rfl
  have h3 : ∀ x : Node, derefN (freezeP all H) (k + 2) (nodeA x) = nodeA x := fun x => encNode.norm _ _ x
  have h4 : derefN (freezeP all H) (k + 2) zeroA = nodeA .zero := zeroA_norm _ k
  rw [canon, derefN]
  simp only [h2, List.length_append, List.length_map, List.length_replicate, Nat.le_refl, and_self, if_true, List.drop_zero]
  rw [List.take_of_length_le (by simp), List.map_append, List.map_map, List.map_replicate, h4, nodes, List.map_append, List.map_replicate]
  congr 2
  exact List.map_congr_left fun x _ => h3 x
theorem entB_Zo (n ver : Nat) (l : List Node) (k : Nat) : EntB n (.arr 8 ver (l.map nodeA ++ List.replicate k zeroA)) := by
  intro x hx y hy
  rcases List.mem_append.1 hx with h | h
  · exact encNode.entB n 0 8 l x h y hy
  · rw [(List.mem_replicate.1 h).2] at hy
    simp only [zeroA, AV.cells, List.mem_cons, List.not_mem_nil, or_false] at hy
    rcases hy with rfl | rfl | rfl | rfl | rfl | rfl | rfl | rfl <;> simp 
def getG (ns : List Node) (k : Nat) (e : Entry) : List Entry := [.box [.list true []], .box [.int .i64 0], .box [.own 3 k 0 k], .arr 8 k ((ns.take k).map nodeA), e]
theorem ysF_ok : ∀ (f k : Nat) (v : List Int), Oct v → ∀ p ∈ ysF f k v, p.1.Ok
  | 0, _, _, _, p, hp => by simp [ysF] at hp
  | f + 1, k, v, hv, p, hp => by
    unfold ysF at hp
    split at hp
    · cases hp
    · split at hp
      · rw [List.mem_singleton.1 hp]; exact .zero
      · rcases List.mem_cons.1 hp with rfl | hp
        · exact nget_ok hv
        · exact ysF_ok f (k + 1) _ (nget_rest hv).1 p hp
theorem padT_ok {t : List Node} (h : ∀ n ∈ t, n.Ok) (h7 : t.length ≤ 127) : Tree.Ok (padT t) := by
  refine ⟨?_, fun n hn => ?_⟩
  · rw [Small, padT_len h7]
    have := (pad_whole t.length).le; omega
  · unfold padT at hn
    rcases List.mem_append.1 hn with hn | hn
    · exact h n hn
    · rw [(List.mem_replicate.1 hn).2]; exact .zero
set_option maxRecDepth 100000 in
set_option maxHeartbeats 2000000 in
theorem oget_spec (b : List Int) (hb : Oct b) (hl : b.length ≤ 4294967295) : Fun seat 327 [octs b] (.tup [nodes (getT b).1, .int .i64 (getT b).2]) := by
  obtain ⟨o1, o2⟩ := gbytes_oct hb
  have sub := (gbytes_sub b).1.1
  rcases hg : gbytes b with ⟨v, r, e⟩
  have hT : getT b = if e ≠ 0 then ([], e) else if r ≠ [] then ([], 2) else getK v := by unfold getT; rw [hg]
  rw [hg] at o1 o2 sub
  simp only at o1 o2 sub
  rw [hT]
  clear hT
  by_cases he : e = 0
  rotate_left
  · rw [if_pos he]
    refine Fun.of0R [r192] told327 (by simp [il327]) (by simp [idb_patchA]) (by simp [idb_patchA]) 4 ?_
    simp -implicitDefEqProofs only [il327, List.zipIdx_cons, List.zipIdx_nil, leafA, innerA, nodeA, patchA, Leaf.cells, Inner.cells, Node.cells, r192_c, r192_ask, decide_true, decide_false, hb, hg, he, ne_eq, not_false_eq_true, go_sem, Nat.reduceEqDiff, reduceIte, Nat.reduceAdd, Nat.reduceLeDiff, Nat.reduceLT, Nat.reduceSub]
    try exact ⟨rfl, rfl⟩
  rw [if_neg (not_not_intro he)]
  by_cases hr : r = []
  rotate_left
  · rw [if_pos hr]
    have h1 : (r.length : Int) > 0 := by have := List.length_pos_iff.2 hr; omega
    refine Fun.of0R [r192] told327 (by simp [il327]) (by simp [idb_patchA]) (by simp [idb_patchA]) 4 ?_
    simp -implicitDefEqProofs only [il327, List.zipIdx_cons, List.zipIdx_nil, leafA, innerA, nodeA, patchA, Leaf.cells, Inner.cells, Node.cells, r192_c, r192_ask, decide_true, decide_false, hb, hg, he, h1, ne_eq, not_true_eq_false, go_sem, Nat.reduceEqDiff, reduceIte, Nat.reduceAdd, Nat.reduceLeDiff, Nat.reduceLT, Nat.reduceSub]
    try exact ⟨rfl, rfl⟩
  rw [if_neg (not_not_intro hr)]
  subst hr
  have hr0 : ¬ ((([] : List Int).length : Nat) : Int) > 0 := by simp
  by_cases hv : v = []
  · subst hv
    unfold getK
    rw [if_pos rfl]
    refine Fun.of0R [r192] told327 (by simp [il327]) (by simp [idb_patchA]) (by simp [idb_patchA]) 4 ?_
    simp -implicitDefEqProofs only [il327, List.zipIdx_cons, List.zipIdx_nil, leafA, innerA, nodeA, patchA, Leaf.cells, Inner.cells, Node.cells, r192_c, r192_ask, decide_true, decide_false, hb, hg, he, List.length_nil, Int.natCast_zero, Int.lt_irrefl, ne_eq, not_true_eq_false, go_sem, Nat.reduceEqDiff, reduceIte, Nat.reduceAdd, Nat.reduceLeDiff, Nat.reduceLT, Nat.reduceSub]
    try exact ⟨rfl, rfl⟩
  have hv0 : ¬ (v.length : Int) = 0 := by have := List.length_pos_iff.2 hv; omega
  have hyl : (ysI v).length ≤ 128 := ysF_len _ _ _
  have hy0 : 0 < (ysI v).length := by
    unfold ysI ysF
    rw [if_neg hv, if_neg (by decide)]
    simp
  have hK0 : getK v = if firstE (ysI v) ≠ 0 then ([], firstE (ysI v)) else if (nodeAt ((ysI v).map Prod.fst) (((ysI v).map Prod.fst).length - 1)).kind = 0 then ([], 6) else if ¬ NamedT (padT ((ysI v).map Prod.fst)) then ([], 8) else (padT ((ysI v).map Prod.fst), 0) := by
    conv => lhs; unfold getK
    rw [if_neg hv]
  obtain ⟨R, hR⟩ : ∃ R, getK v = R := ⟨_, rfl⟩
  rw [hR] at hK0 ⊢
  clear hR
  have hlen := fun (k : Nat) (e : Entry) => (rfl : (getG ((ysI v).map Prod.fst) k e).length = 5)
  have gives := nodes1_gives v o1 (by omega) 4
  have nspec := nodes_spec v
  obtain ⟨ys, hys⟩ : ∃ ys, ysI v = ys := ⟨_, rfl⟩
  rw [hys] at hyl hy0 hK0 gives
  obtain ⟨ns, hns⟩ : ∃ ns, ys.map Prod.fst = ns := ⟨_, rfl⟩
  have hnl : ns.length = ys.length := by rw [← hns]; simp
  have hnat : ∀ k (h : k < ys.length), ns[k]'(by omega) = ys[k].1 := fun k h => by simp [← hns]
  rw [hns] at hK0
  refine Fun.of0W told327 (by simp [il327]) (by simp ) (by simp ) 4 ?_
  simp only [il327, List.zipIdx_cons, List.zipIdx_nil]
  refine WP.seqR [] fun K hK => ?_
  simp -implicitDefEqProofs only [leafA, innerA, nodeA, patchA, Leaf.cells, Inner.cells, Node.cells, decide_true, decide_false, go_sem, Nat.reduceEqDiff, reduceIte, Nat.reduceAdd, Nat.reduceLeDiff, Nat.reduceLT, Nat.reduceSub]
  refine hK _ ?_
  clear hK K
  refine WP.seqR [r192] fun K hK => ?_
  simp -implicitDefEqProofs only [leafA, innerA, nodeA, patchA, Leaf.cells, Inner.cells, Node.cells, r192_c, r192_ask, decide_true, decide_false, hb, hg, go_sem, Nat.reduceEqDiff, reduceIte, Nat.reduceAdd, Nat.reduceLeDiff, Nat.reduceLT, Nat.reduceSub]
  refine hK _ ?_
  clear hK K
  refine WP.seqR [] fun K hK => ?_
  simp -implicitDefEqProofs only [leafA, innerA, nodeA, patchA, Leaf.cells, Inner.cells, Node.cells, decide_true, decide_false, he, ne_eq, not_true_eq_false, List.length_nil, Int.natCast_zero, Int.lt_irrefl, hv0, go_sem, Nat.reduceEqDiff, reduceIte, Nat.reduceAdd, Nat.reduceLeDiff, Nat.reduceLT, Nat.reduceSub]
  refine hK _ ?_
  clear hK K
  refine WP.seqR [] fun K hK => ?_
  simp -implicitDefEqProofs only [leafA, innerA, nodeA, patchA, Leaf.cells, Inner.cells, Node.cells, decide_true, decide_false, go_sem, Nat.reduceEqDiff, reduceIte, Nat.reduceAdd, Nat.reduceLeDiff, Nat.reduceLT, Nat.reduceSub]
  refine hK _ (WP.adoptB 2 0 8 (cs := [.list true []]) rfl rfl ?_)
  clear hK K
  refine WP.seq (WP.seqR [] fun K hK => ?_)
  simp -implicitDefEqProofs only [leafA, innerA, nodeA, patchA, Leaf.cells, Inner.cells, Node.cells, decide_true, decide_false, List.set_cons_succ, List.set_cons_zero, List.length_cons, List.length_nil, List.cons_append, List.nil_append, go_sem, Nat.reduceEqDiff, reduceIte, Nat.reduceAdd, Nat.reduceLeDiff, Nat.reduceLT, Nat.reduceSub]
  refine Callee.plain (Callable.of told343) (nspec _) ?_
  rintro _ _ ⟨rfl, rfl⟩
  simp -implicitDefEqProofs only [leafA, innerA, nodeA, patchA, Leaf.cells, Inner.cells, Node.cells, decide_true, decide_false, List.length_cons, List.length_nil, List.cons_append, List.nil_append, go_sem, Nat.reduceEqDiff, reduceIte, Nat.reduceAdd, Nat.reduceLeDiff, Nat.reduceLT, Nat.reduceSub]
  refine hK _ (WP.block ?_)
  clear hK K
  refine WP.rangeP 4 (.box [octs v]) (ys.map ysA) (c := 352) (cap := [.ptr 4 0]) (by simp only [go_sem, Nat.reduceEqDiff, reduceIte, Nat.reduceAdd, Nat.reduceLeDiff, Nat.reduceLT, Nat.reduceSub]) (Callable.of told352) gives (ysA_len ys)
    (fun k e => getG ns k e) (fun k => ∀ j (h : j < ys.length), j < k → ys[j].2 = 0) (by simp) (fun _ _ => rfl) (fun _ _ => rfl) (fun _ _ _ => rfl) (fun _ _ h => absurd h (Nat.not_lt_zero _)) rfl ?_ ?_
  · intro k hk e hP l T b hb
    have hk' : k < ys.length := by simpa using hk
    rw [List.getElem_map]
    simp only [setPs, ysA, getG]
    refine wpc_soundR [] ?_
    simp -implicitDefEqProofs only [leafA, innerA, nodeA, patchA, Leaf.cells, Inner.cells, Node.cells, decide_true, decide_false, List.cons_append, List.nil_append, go_sem, Nat.reduceEqDiff, reduceIte, Nat.reduceAdd, Nat.reduceLeDiff, Nat.reduceLT, Nat.reduceSub]
    refine ⟨_, rfl, fun T' hT' => ?_⟩
    obtain ⟨n, hn⟩ : ∃ n, ys[k].1 = n := ⟨_, rfl⟩
    obtain ⟨en, hen⟩ : ∃ en, ys[k].2 = en := ⟨_, rfl⟩
    rw [hn, hen]
    by_cases hen0 : en = 0
    · subst hen0
      have lt : (T' ++ [Entry.box [AV.int IntKind.i64 n.kind, octs n.leaf.enc, octs n.leaf.cred, AV.int IntKind.i64 n.leaf.source, octs n.leaf.parent, octs n.inner.enc, octs n.inner.hash, ints n.inner.unmerged]])[T.length]? = some (.box [AV.int IntKind.i64 n.kind, octs n.leaf.enc, octs n.leaf.cred, AV.int IntKind.i64 n.leaf.source, octs n.leaf.parent, octs n.inner.enc, octs n.inner.hash, ints n.inner.unmerged]) := by rw [← hT']; simp
      have sn : ∀ (a b c d e' B : Entry) (T : List Entry), seen (a :: b :: c :: d :: e' :: (T ++ [B, .arr 8 0 [.agg [AV.int IntKind.i64 n.kind, octs n.leaf.enc, octs n.leaf.cred, AV.int IntKind.i64 n.leaf.source, octs n.leaf.parent, octs n.inner.enc, octs n.inner.hash, ints n.inner.unmerged]]])) (.own (T.length + 1 + 1 + 1 + 1 + 1 + 1) 0 0 1) = some [.agg [AV.int IntKind.i64 n.kind, octs n.leaf.enc, octs n.leaf.cred, AV.int IntKind.i64 n.leaf.source, octs n.leaf.parent, octs n.inner.enc, octs n.inner.hash, ints n.inner.unmerged]] := fun _ _ _ _ _ _ _ => by simp [seen]
      have ht1 : ns.take (k + 1) = ns.take k ++ [n] := by rw [List.take_succ_eq_append_getElem (by omega), hnat k hk', hn]
      have htl : (ns.take k).length = k := by rw [List.length_take]; omega
      have ap : ∀ (a b c e' : Entry) (T : List Entry), evAppend (a :: b :: c :: .arr 8 k ((ns.take k).map nodeA) :: e' :: T) 8 160 (.own 3 k 0 k) [.agg [AV.int IntKind.i64 n.kind, octs n.leaf.enc, octs n.leaf.cred, AV.int IntKind.i64 n.leaf.source, octs n.leaf.parent, octs n.inner.enc, octs n.inner.hash, ints n.inner.unmerged]] = some (.own 3 (k + 1) 0 (k + 1), a :: b :: c :: .arr 8 (k + 1) ((ns.take (k + 1)).map nodeA) :: e' :: T) := fun a b c e' T => by
        have := encNode.app_owns (H := a :: b :: c :: .arr 8 k ((ns.take k).map nodeA) :: e' :: T) (id := 3) (ver := k) (l := ns.take k) (ys := [n]) (bytes := 160) rfl (by unfold maxRow; simp; omega) (by decide) (by simp)
        rw [htl] at this
        rw [ht1]
        have h2 : ((ns.take k) ++ [n]).length = k + 1 := by simp [htl]
        rw [h2] at this
        exact this
      refine wpc_soundR [] ?_
      simp -implicitDefEqProofs only [leafA, innerA, nodeA, patchA, Leaf.cells, Inner.cells, Node.cells, decide_true, decide_false, ne_eq, not_true_eq_false, lt, sn, ap, Option.bind_some, go_sem, Nat.reduceEqDiff, reduceIte, Nat.reduceAdd, Nat.reduceLeDiff, Nat.reduceLT, Nat.reduceSub]
      refine ⟨[.box [.list true []], .box [.int .i64 0], .box [.own 3 (k + 1) 0 (k + 1)], .arr 8 (k + 1) ((ns.take (k + 1)).map nodeA), e], _, rfl, rfl, fun i hi => List.getElem?_append_left hi, fun j h hj => ?_, rfl⟩
      by_cases hjk : j = k
      · subst hjk; exact hen
      · exact hP j h (by omega)
    · have hf := firstE_at hk' hP (by rw [hen]; exact hen0)
      rw [hen] at hf
      have hRe : R = ([], en) := by rw [hK0, if_pos (by rw [hf]; exact hen0), hf]
      subst hRe
      refine wpc_soundR [] ?_
      simp -implicitDefEqProofs only [leafA, innerA, nodeA, patchA, Leaf.cells, Inner.cells, Node.cells, decide_true, decide_false, ne_eq, hen0, not_false_eq_true, go_sem, Nat.reduceEqDiff, reduceIte, Nat.reduceAdd, Nat.reduceLeDiff, Nat.reduceLT, Nat.reduceSub]
      refine ⟨[.box [.list true []], .box [.int .i64 en], .box [.own 3 k 0 k], .arr 8 k ((ns.take k).map nodeA), e], T' ++ [.box [.int .i64 n.kind, octs n.leaf.enc, octs n.leaf.cred, .int .i64 n.leaf.source, octs n.leaf.parent, octs n.inner.enc, octs n.inner.hash, ints n.inner.unmerged]], rfl, rfl, fun i hi => List.getElem?_append_left hi, .ret, rfl, fun T3 => ?_⟩
      simp -implicitDefEqProofs only [leafA, innerA, nodeA, patchA, Leaf.cells, Inner.cells, Node.cells, decide_true, decide_false, Jump.leave, List.cons_append, List.nil_append, go_sem, Nat.reduceEqDiff, reduceIte, Nat.reduceAdd, Nat.reduceLeDiff, Nat.reduceLT, Nat.reduceSub]
  · intro hP e T
    rw [List.length_map] at hP ⊢
    have hf : firstE ys = 0 := firstE_none fun j hj => hP j hj hj
    rw [if_neg (by simpa using hf)] at hK0
    have htk : ns.take ys.length = ns := List.take_of_length_le (by omega)
    simp only [getG, htk]
    have h127 : ys.length ≤ 127 := by
      have := (ysF_all 128 0 v rfl (by omega) (bytes_of o1) (fun p hp => by
        have hp' : p ∈ ys := by rw [← hys]; exact hp
        obtain ⟨j, hj, rfl⟩ := List.getElem_of_mem hp'
        exact hP j hj hj)).2.1
      change (ysI v).length + 0 ≤ 127 at this
      rw [hys] at this; omega
    rw [← hnl] at hy0 hyl h127 ⊢
    have okp : Tree.Ok (padT ns) := padT_ok (fun n hn => by
      rw [← hns] at hn
      obtain ⟨p, hp, rfl⟩ := List.mem_map.1 hn
      exact ysF_ok 128 0 v o1 p (by change p ∈ ysI v; rw [hys]; exact hp)) h127
    clear hP hf htk gives
    have w2 : IntKind.i64.wrap ((ns.length : Int) - 1) = ((ns.length - 1 : Nat) : Int) := by rw [wrap64 _ (by omega) (by omega)]; omega
    obtain ⟨m, hm⟩ : ∃ m, ns.length - 1 = m := ⟨_, rfl⟩
    have hmn : m < ns.length := by omega
    rw [hm] at w2 hK0
    rw [nodeAt_lt hmn] at hK0
    simp -implicitDefEqProofs only [leafA, innerA, nodeA, patchA, Leaf.cells, Inner.cells, Node.cells, decide_true, decide_false, List.cons_append, List.nil_append, go_sem, Nat.reduceEqDiff, reduceIte, Nat.reduceAdd, Nat.reduceLeDiff, Nat.reduceLT, Nat.reduceSub]
    refine WP.seqR [] fun K hK => ?_
    have ix := fun (a b c e' : Entry) (T : List Entry) => index_nodes3 (G := e' :: T) (e0 := a) (e1 := b) (e2 := c) (ver := ns.length) (l := ns) hmn
    have ld : ∀ (a b c e' : Entry) (T : List Entry), evLoad (a :: b :: c :: .arr 8 ns.length (ns.map nodeA) :: e' :: T) false 1 (.eptr 3 ns.length m 0) = some (.int .i64 ns[m].kind) := fun a b c e' T => by
      have h3 : (ns.map nodeA)[m]? = some (nodeA ns[m]) := by simp [hmn]
      simp only [evLoad, window, List.getElem?_cons_succ, List.getElem?_cons_zero, h3, if_true]
      rfl
    have ad : ∀ (a b c e' : Entry) (T : List Entry), evAddr (a :: b :: c :: .arr 8 ns.length (ns.map nodeA) :: e' :: T) 0 (.eptr 3 ns.length m 0) = some (.eptr 3 ns.length m 0) := fun _ _ _ _ _ => by simp [evAddr, AV.oneIn]
    by_cases hkz : ns[m].kind = 0
    · rw [if_pos hkz] at hK0
      subst hK0
      simp -implicitDefEqProofs only [leafA, innerA, nodeA, patchA, Leaf.cells, Inner.cells, Node.cells, decide_true, decide_false, w2, ix, ad, ld, eq_true hkz, go_sem, Nat.reduceEqDiff, reduceIte, Nat.reduceAdd, Nat.reduceLeDiff, Nat.reduceLT, Nat.reduceSub]
    rw [if_neg hkz] at hK0
    simp -implicitDefEqProofs only [leafA, innerA, nodeA, patchA, Leaf.cells, Inner.cells, Node.cells, decide_true, decide_false, w2, ix, ad, ld, hkz, go_sem, Nat.reduceEqDiff, reduceIte, Nat.reduceAdd, Nat.reduceLeDiff, Nat.reduceLT, Nat.reduceSub]
    refine hK _ (WP.seq (WP.block ?_))
    clear hK K ix ld ad
    have pl := padT_len (t := ns) (by omega)
    have pg := pad_ge ns.length (by omega)
    have pw := pad_whole ns.length
    have pwl := pw.le
    refine WP.weakL [(2, .ptr 0 0), (3, .ptr 1 0), (7, .ptr 2 0)] ?_ ?_
    · simp only [envL_cons, Nat.reduceEqDiff, reduceIte, List.mem_cons, List.not_mem_nil, or_false, forall_eq_or_imp, forall_eq, weak_refl, and_self]
    refine WP.loopG (fun j => j ≤ padW ns.length - ns.length) (fun _ => [(2, .ptr 0 0), (3, .ptr 1 0), (7, .ptr 2 0)]) (fun j => [.box [.list true []], .box [.int .i64 0], .box [.own 3 (ns.length + j) 0 (ns.length + j)], .arr 8 (ns.length + j) (ns.map nodeA ++ List.replicate j zeroA)]) (fun j => padW ns.length - ns.length - j) 0 (Nat.zero_le _)
      (fun j _ => ⟨by simp, by simp , fun e he => by (simp only [List.mem_cons, List.not_mem_nil, or_false] at he); (rcases he with rfl | rfl | rfl | rfl); (simp ); (simp ); (simp ); (exact entB_Zo _ _ _ _)⟩) (by simp ) ?_
    intro j hj
    have rl : ∀ (a b c : Entry), rowLen [a, b, c, .arr 8 (ns.length + j) (ns.map nodeA ++ List.replicate j zeroA)] (.own 3 (ns.length + j) 0 (ns.length + j)) = some (ns.length + j) := fun _ _ _ => by simp [rowLen, AV.oneIn]
    by_cases hlt : j < padW ns.length - ns.length
    · have hnw := pad_first (n := ns.length) (j := j) (by omega) hy0 (by omega)
      refine WP.seqR [r125] fun K hK => ?_
      simp -implicitDefEqProofs only [leafA, innerA, nodeA, patchA, Leaf.cells, Inner.cells, Node.cells, r125_c, r125_ask, decide_true, decide_false, rl, Option.bind_some, hnw, not_false_eq_true, go_sem, Nat.reduceEqDiff, reduceIte, Nat.reduceAdd, Nat.reduceLeDiff, Nat.reduceLT, Nat.reduceSub]
      refine hK _ (WP.block (WP.regionAt [] 2 ?_))
      clear hK K
      simp only [List.take_succ_cons, List.take_zero, List.drop_succ_cons, List.drop_zero]
      simp -implicitDefEqProofs only [leafA, innerA, nodeA, patchA, Leaf.cells, Inner.cells, Node.cells, decide_true, decide_false, go_sem, Nat.reduceEqDiff, reduceIte, Nat.reduceAdd, Nat.reduceLeDiff, Nat.reduceLT, Nat.reduceSub]
      refine SRun.lit (sz := 8) (xs := [zeroA]) rfl rfl (by simp [zeroA, AV.cells]) ?_
      have ap := fun (a b c : Entry) => appZn (H := [a, b, c, .arr 8 (ns.length + j) (ns.map nodeA ++ List.replicate j zeroA)]) (id := 3) (ver := ns.length + j) (l := ns) (k := j) rfl (by omega)
      unfold zeroA at ap
      refine runW_sound (T := []) ?_
      simp -implicitDefEqProofs only [leafA, innerA, nodeA, patchA, Leaf.cells, Inner.cells, Node.cells, decide_true, decide_false, zeroA, ap, go_sem, Nat.reduceEqDiff, reduceIte, Nat.reduceAdd, Nat.reduceLeDiff, Nat.reduceLT, Nat.reduceSub]
      exact ⟨j + 1, by omega, by omega, by simp , by simp [Nat.add_assoc, zeroA]⟩
    · have hje : ns.length + j = padW ns.length := by omega
      have hw : Whole ((ns.length + j : Nat) : Int) := by rw [hje]; exact pw
      have hpad : ns ++ List.replicate j Node.zero = padT ns := by unfold padT; rw [show padW ns.length - ns.length = j by omega]
      refine WP.seqR [r125] fun K hK => ?_
      simp -implicitDefEqProofs only [leafA, innerA, nodeA, patchA, Leaf.cells, Inner.cells, Node.cells, r125_c, r125_ask, decide_true, decide_false, rl, Option.bind_some, hw, not_true_eq_false, go_sem, Nat.reduceEqDiff, reduceIte, Nat.reduceAdd, Nat.reduceLeDiff, Nat.reduceLT, Nat.reduceSub]
      clear hK K
      refine WP.seqR [] fun K hK => ?_
      simp -implicitDefEqProofs only [leafA, innerA, nodeA, patchA, Leaf.cells, Inner.cells, Node.cells, decide_true, decide_false, go_sem, Nat.reduceEqDiff, reduceIte, Nat.reduceAdd, Nat.reduceLeDiff, Nat.reduceLT, Nat.reduceSub]
      refine Callee.lend (r := .bool (decide (NamedT (padT ns)))) 3 told329 ?_ (.bool _) ?_
      · rw [List.map_cons, List.map_nil, canonZn (k := 0) rfl, hpad]
        exact oNamed_spec _ okp
      by_cases hnm : NamedT (padT ns)
      · rw [if_neg (not_not_intro hnm)] at hK0
        subst hK0
        simp -implicitDefEqProofs only [leafA, innerA, nodeA, patchA, Leaf.cells, Inner.cells, Node.cells, decide_true, decide_false, hnm, not_true_eq_false, go_sem, Nat.reduceEqDiff, reduceIte, Nat.reduceAdd, Nat.reduceLeDiff, Nat.reduceLT, Nat.reduceSub]
        refine hK _ ?_
        refine wpc_soundR [] ?_
        simp -implicitDefEqProofs only [leafA, innerA, nodeA, patchA, Leaf.cells, Inner.cells, Node.cells, decide_true, decide_false, go_sem, Nat.reduceEqDiff, reduceIte, Nat.reduceAdd, Nat.reduceLeDiff, Nat.reduceLT, Nat.reduceSub]
        rw [← hpad]
        exact canonZn (k := 0) rfl
      · rw [if_pos hnm] at hK0
        subst hK0
        simp -implicitDefEqProofs only [leafA, innerA, nodeA, patchA, Leaf.cells, Inner.cells, Node.cells, decide_true, decide_false, hnm, not_false_eq_true, go_sem, Nat.reduceEqDiff, reduceIte, Nat.reduceAdd, Nat.reduceLeDiff, Nat.reduceLT, Nat.reduceSub]
noncomputable def r327 : Reg seat := .of told327 (ask1 (fun a0' => isO a0' ∧ Oct (dO a0') ∧ (dO a0').length ≤ 4294967295) fun a0' => .fn (.tup [nodes (getT (dO a0')).1, .int .i64 (getT (dO a0')).2])) (ask1_ok fun a0' h => SaidOk.fn (Fun.weak (.cons (isO.weak h.1) .nil) (oget_spec _ h.2.1 h.2.2)))
theorem r327_c : r327.c = 327 := rfl
open Classical in
theorem r327_ask (a0' : AV) : r327.ask [a0'] = if isO a0' ∧ Oct (dO a0') ∧ (dO a0').length ≤ 4294967295 then some (Said.fn (.tup [nodes (getT (dO a0')).1, .int .i64 (getT (dO a0')).2])) else none := by unfold r327 Reg.of ask1; exact ite_cl
section
attribute [local go_sem high] qgrdW_tt
set_option maxHeartbeats 2000000 in
theorem refNget_spec (b : List Int) (hb : Oct b) (hl : b.length ≤ 4294967295) : Fun seat 237 [octs b] (.tup [nodeA (nget b).1, octs (nget b).2.1, .int .i64 (nget b).2.2]) := by
  have ho := gflag_oct hb
  have hs := (gflag_sub b).1
  unfold nget
  rcases hf : gflag b with ⟨t, r, e⟩
  rw [hf] at ho hs
  simp only at ho hs ⊢
  by_cases he : e = 0
  rotate_left
  · rw [if_pos (.inl he)]
    have hr : r = [] := by
      have := congrArg (fun p => p.2.1) hf
      simp only at this
      rw [← this]
      have h2 : (gflag b).2.2 ≠ 0 := by rw [hf]; exact he
      unfold gflag at h2 ⊢
      split
      · rfl
      · split
        · rfl
        · rename_i h3 h4; simp [h3, h4] at h2
    subst hr
    refine Fun.of0R [r242] told237 (by simp [il237]) (by simp [idb_patchA]) (by simp [idb_patchA]) 4 ?_
    simp -implicitDefEqProofs only [il237, List.zipIdx_cons, List.zipIdx_nil, leafA, innerA, nodeA, patchA, Leaf.cells, Inner.cells, Node.cells, r242_c, r242_ask, decide_true, decide_false, hb, hf, he, go_sem, Nat.reduceEqDiff, reduceIte, Nat.reduceAdd, Nat.reduceLeDiff, Nat.reduceLT, Nat.reduceSub]
    try exact ⟨rfl, rfl, rfl, rfl, rfl, rfl, rfl, rfl⟩
  cases t with
  | false =>
    rw [if_pos (.inr rfl)]
    subst he
    refine Fun.of0R [r242] told237 (by simp [il237]) (by simp [idb_patchA]) (by simp [idb_patchA]) 4 ?_
    simp -implicitDefEqProofs only [il237, List.zipIdx_cons, List.zipIdx_nil, leafA, innerA, nodeA, patchA, Leaf.cells, Inner.cells, Node.cells, r242_c, r242_ask, decide_true, decide_false, hb, hf, go_sem, Nat.reduceEqDiff, reduceIte, Nat.reduceAdd, Nat.reduceLeDiff, Nat.reduceLT, Nat.reduceSub]
    try exact ⟨rfl, rfl, rfl, rfl, rfl, rfl, rfl, rfl⟩
  | true =>
    rw [if_neg (by rintro (h | h); exact h he; cases h)]
    have ho2 := gnum_oct (k := 1) ho
    have hs2 := (gnum_sub 1 r).1
    unfold ngetK
    rcases hg : gnum 1 r with ⟨k, r2, e2⟩
    rw [hg] at ho2 hs2
    simp only at ho2 hs2 ⊢
    have hl2 : r2.length ≤ 4294967295 := by omega
    by_cases h2 : e2 = 0
    rotate_left
    · rw [if_pos h2]
      refine Fun.of0R [r242, r218] told237 (by simp [il237]) (by simp [idb_patchA]) (by simp [idb_patchA]) 4 ?_
      simp -implicitDefEqProofs only [il237, List.zipIdx_cons, List.zipIdx_nil, leafA, innerA, nodeA, patchA, Leaf.cells, Inner.cells, Node.cells, r242_c, r242_ask, r218_c, r218_ask, decide_true, decide_false, hb, hf, he, ho, clamp1, hg, h2, go_sem, Nat.reduceEqDiff, reduceIte, Nat.reduceAdd, Nat.reduceLeDiff, Nat.reduceLT, Nat.reduceSub]
      try exact ⟨rfl, rfl, rfl, rfl, rfl, rfl, rfl, rfl⟩
    rw [if_neg (not_not_intro h2)]
    by_cases k1 : k = 1
    · subst k1
      rw [if_pos rfl]
      rcases hlg : lget r2 with ⟨l, r3, e3⟩
      simp only
      by_cases h3 : e3 = 0
      · rw [if_neg (not_not_intro h3)]
        refine Fun.of0R [r242, r218, r243] told237 (by simp [il237]) (by simp [idb_patchA]) (by simp [idb_patchA]) 4 ?_
        simp -implicitDefEqProofs only [il237, List.zipIdx_cons, List.zipIdx_nil, leafA, innerA, nodeA, patchA, Leaf.cells, Inner.cells, Node.cells, r242_c, r242_ask, r218_c, r218_ask, r243_c, r243_ask, decide_true, decide_false, hb, hf, he, ho, clamp1, hg, h2, ho2, hlg, h3, Int.reduceEq, not_true_eq_false, not_false_eq_true, go_sem, Nat.reduceEqDiff, reduceIte, Nat.reduceAdd, Nat.reduceLeDiff, Nat.reduceLT, Nat.reduceSub]
        try exact ⟨rfl, rfl, rfl⟩
      · rw [if_pos h3]
        refine Fun.of0R [r242, r218, r243] told237 (by simp [il237]) (by simp [idb_patchA]) (by simp [idb_patchA]) 4 ?_
        simp -implicitDefEqProofs only [il237, List.zipIdx_cons, List.zipIdx_nil, leafA, innerA, nodeA, patchA, Leaf.cells, Inner.cells, Node.cells, r242_c, r242_ask, r218_c, r218_ask, r243_c, r243_ask, decide_true, decide_false, hb, hf, he, ho, clamp1, hg, h2, ho2, hlg, h3, Int.reduceEq, not_true_eq_false, not_false_eq_true, go_sem, Nat.reduceEqDiff, reduceIte, Nat.reduceAdd, Nat.reduceLeDiff, Nat.reduceLT, Nat.reduceSub]
        try exact ⟨rfl, rfl, rfl, rfl, rfl, rfl, rfl, rfl⟩
    rw [if_neg k1]
    by_cases k2 : k = 2
    · subst k2
      rw [if_pos rfl]
      rcases hlg : iget r2 with ⟨l, r3, e3⟩
      simp only
      by_cases h3 : e3 = 0
      · rw [if_neg (not_not_intro h3)]
        refine Fun.of0R [r242, r218, r182] told237 (by simp [il237]) (by simp [idb_patchA]) (by simp [idb_patchA]) 4 ?_
        simp -implicitDefEqProofs only [il237, List.zipIdx_cons, List.zipIdx_nil, leafA, innerA, nodeA, patchA, Leaf.cells, Inner.cells, Node.cells, r242_c, r242_ask, r218_c, r218_ask, r182_c, r182_ask, decide_true, decide_false, hb, hf, he, ho, clamp1, hg, h2, ho2, hl2, hlg, h3, Int.reduceEq, not_true_eq_false, not_false_eq_true, go_sem, Nat.reduceEqDiff, reduceIte, Nat.reduceAdd, Nat.reduceLeDiff, Nat.reduceLT, Nat.reduceSub]
        try exact ⟨rfl, rfl, rfl, rfl⟩
      · rw [if_pos h3]
        refine Fun.of0R [r242, r218, r182] told237 (by simp [il237]) (by simp [idb_patchA]) (by simp [idb_patchA]) 4 ?_
        simp -implicitDefEqProofs only [il237, List.zipIdx_cons, List.zipIdx_nil, leafA, innerA, nodeA, patchA, Leaf.cells, Inner.cells, Node.cells, r242_c, r242_ask, r218_c, r218_ask, r182_c, r182_ask, decide_true, decide_false, hb, hf, he, ho, clamp1, hg, h2, ho2, hl2, hlg, h3, Int.reduceEq, not_true_eq_false, not_false_eq_true, go_sem, Nat.reduceEqDiff, reduceIte, Nat.reduceAdd, Nat.reduceLeDiff, Nat.reduceLT, Nat.reduceSub]
        try exact ⟨rfl, rfl, rfl, rfl, rfl, rfl, rfl, rfl⟩
    · rw [if_neg k2]
      refine Fun.of0R [r242, r218] told237 (by simp [il237]) (by simp [idb_patchA]) (by simp [idb_patchA]) 4 ?_
      simp -implicitDefEqProofs only [il237, List.zipIdx_cons, List.zipIdx_nil, leafA, innerA, nodeA, patchA, Leaf.cells, Inner.cells, Node.cells, r242_c, r242_ask, r218_c, r218_ask, decide_true, decide_false, hb, hf, he, ho, clamp1, hg, h2, k1, k2, Int.reduceEq, not_true_eq_false, not_false_eq_true, go_sem, Nat.reduceEqDiff, reduceIte, Nat.reduceAdd, Nat.reduceLeDiff, Nat.reduceLT, Nat.reduceSub]
      try exact ⟨rfl, rfl, rfl, rfl, rfl, rfl, rfl, rfl⟩
noncomputable def r237 : Reg seat := .of told237 (ask1 (fun a0' => isO a0' ∧ Oct (dO a0') ∧ (dO a0').length ≤ 4294967295) fun a0' => .fn (.tup [nodeA (nget (dO a0')).1, octs (nget (dO a0')).2.1, .int .i64 (nget (dO a0')).2.2])) (ask1_ok fun a0' h => SaidOk.fn (Fun.weak (.cons (isO.weak h.1) .nil) (refNget_spec _ h.2.1 h.2.2)))
theorem r237_c : r237.c = 237 := rfl
open Classical in
theorem r237_ask (a0' : AV) : r237.ask [a0'] = if isO a0' ∧ Oct (dO a0') ∧ (dO a0').length ≤ 4294967295 then some (Said.fn (.tup [nodeA (nget (dO a0')).1, octs (nget (dO a0')).2.1, .int .i64 (nget (dO a0')).2.2])) else none := by unfold r237 Reg.of ask1; exact ite_cl

end

set_option maxRecDepth 100000 in
set_option maxHeartbeats 4000000 in
theorem refGet_spec (b : List Int) (hb : Oct b) (hl : b.length ≤ 4294967295) : Fun seat 328 [octs b] (.tup [nodes (getT b).1, .int .i64 (getT b).2]) := by
  obtain ⟨o1, o2⟩ := gbytes_oct hb
  have sub := (gbytes_sub b).1.1
  rcases hg : gbytes b with ⟨v, r, e⟩
  have hT : getT b = if e ≠ 0 then ([], e) else if r ≠ [] then ([], 2) else getK v := by unfold getT; rw [hg]
  rw [hg] at o1 o2 sub
  simp only at o1 o2 sub
  rw [hT]
  clear hT
  by_cases he : e = 0
  rotate_left
  · rw [if_pos he]
    refine Fun.of0R [r194] told328 (by simp [il328]) (by simp [idb_patchA]) (by simp [idb_patchA]) 4 ?_
    simp -implicitDefEqProofs only [il328, List.zipIdx_cons, List.zipIdx_nil, leafA, innerA, nodeA, patchA, Leaf.cells, Inner.cells, Node.cells, r194_c, r194_ask, decide_true, decide_false, hb, hg, he, ne_eq, not_false_eq_true, go_sem, Nat.reduceEqDiff, reduceIte, Nat.reduceAdd, Nat.reduceLeDiff, Nat.reduceLT, Nat.reduceSub]
    try exact ⟨rfl, rfl⟩
  rw [if_neg (not_not_intro he)]
  by_cases hr : r = []
  rotate_left
  · rw [if_pos hr]
    have h1 : (r.length : Int) > 0 := by have := List.length_pos_iff.2 hr; omega
    refine Fun.of0R [r194] told328 (by simp [il328]) (by simp [idb_patchA]) (by simp [idb_patchA]) 4 ?_
    simp -implicitDefEqProofs only [il328, List.zipIdx_cons, List.zipIdx_nil, leafA, innerA, nodeA, patchA, Leaf.cells, Inner.cells, Node.cells, r194_c, r194_ask, decide_true, decide_false, hb, hg, he, h1, ne_eq, not_true_eq_false, go_sem, Nat.reduceEqDiff, reduceIte, Nat.reduceAdd, Nat.reduceLeDiff, Nat.reduceLT, Nat.reduceSub]
    try exact ⟨rfl, rfl⟩
  rw [if_neg (not_not_intro hr)]
  subst hr
  by_cases hv : v = []
  · subst hv
    unfold getK
    rw [if_pos rfl]
    refine Fun.of0R [r194] told328 (by simp [il328]) (by simp [idb_patchA]) (by simp [idb_patchA]) 4 ?_
    simp -implicitDefEqProofs only [il328, List.zipIdx_cons, List.zipIdx_nil, leafA, innerA, nodeA, patchA, Leaf.cells, Inner.cells, Node.cells, r194_c, r194_ask, decide_true, decide_false, hb, hg, he, List.length_nil, Int.natCast_zero, Int.lt_irrefl, ne_eq, not_true_eq_false, go_sem, Nat.reduceEqDiff, reduceIte, Nat.reduceAdd, Nat.reduceLeDiff, Nat.reduceLT, Nat.reduceSub]
    try exact ⟨rfl, rfl⟩
  have hv0 : ¬ (v.length : Int) = 0 := by have := List.length_pos_iff.2 hv; omega
  have hyl : (ysI v).length ≤ 128 := ysF_len _ _ _
  have hy0 : 0 < (ysI v).length := by
    unfold ysI ysF
    rw [if_neg hv, if_neg (by decide)]
    simp
  have hK0 : getK v = if firstE (ysI v) ≠ 0 then ([], firstE (ysI v)) else if (nodeAt ((ysI v).map Prod.fst) (((ysI v).map Prod.fst).length - 1)).kind = 0 then ([], 6) else if ¬ NamedT (padT ((ysI v).map Prod.fst)) then ([], 8) else (padT ((ysI v).map Prod.fst), 0) := by
    conv => lhs; unfold getK
    rw [if_neg hv]
  obtain ⟨R, hR⟩ : ∃ R, getK v = R := ⟨_, rfl⟩
  rw [hR] at hK0 ⊢
  clear hR
  obtain ⟨ys, hys⟩ : ∃ ys, ysI v = ys := ⟨_, rfl⟩
  have okv := fun p (hp : p ∈ ys) => ysF_ok 128 0 v o1 p (by change p ∈ ysI v; rw [hys]; exact hp)
  have h127 : (∀ j (h : j < ys.length), ys[j].2 = 0) → ys.length ≤ 127 := fun hP => by
    have := (ysF_all 128 0 v rfl (by omega) (bytes_of o1) (fun p hp => by
      have hp' : p ∈ ys := by rw [← hys]; exact hp
      obtain ⟨j, hj, rfl⟩ := List.getElem_of_mem hp'
      exact hP j hj)).2.1
    change (ysI v).length + 0 ≤ 127 at this
    rw [hys] at this; omega
  rw [hys] at hyl hy0 hK0
  obtain ⟨ns, hns⟩ : ∃ ns, ys.map Prod.fst = ns := ⟨_, rfl⟩
  have hnl : ns.length = ys.length := by rw [← hns]; simp
  have hnat : ∀ k (h : k < ys.length), ns[k]'(by omega) = ys[k].1 := fun k h => by simp [← hns]
  rw [hns] at hK0
  refine Fun.of0W told328 (by simp [il328]) (by simp ) (by simp ) 4 ?_
  simp only [il328, List.zipIdx_cons, List.zipIdx_nil]
  refine WP.seqR [] fun K hK => ?_
  simp -implicitDefEqProofs only [leafA, innerA, nodeA, patchA, Leaf.cells, Inner.cells, Node.cells, decide_true, decide_false, go_sem, Nat.reduceEqDiff, reduceIte, Nat.reduceAdd, Nat.reduceLeDiff, Nat.reduceLT, Nat.reduceSub]
  refine hK _ ?_
  clear hK K
  refine WP.seqR [r194] fun K hK => ?_
  simp -implicitDefEqProofs only [leafA, innerA, nodeA, patchA, Leaf.cells, Inner.cells, Node.cells, r194_c, r194_ask, decide_true, decide_false, hb, hg, go_sem, Nat.reduceEqDiff, reduceIte, Nat.reduceAdd, Nat.reduceLeDiff, Nat.reduceLT, Nat.reduceSub]
  refine hK _ ?_
  clear hK K
  refine WP.seqR [] fun K hK => ?_
  simp -implicitDefEqProofs only [leafA, innerA, nodeA, patchA, Leaf.cells, Inner.cells, Node.cells, decide_true, decide_false, he, ne_eq, not_true_eq_false, go_sem, Nat.reduceEqDiff, reduceIte, Nat.reduceAdd, Nat.reduceLeDiff, Nat.reduceLT, Nat.reduceSub]
  refine hK _ ?_
  clear hK K
  refine WP.seqR [] fun K hK => ?_
  simp -implicitDefEqProofs only [leafA, innerA, nodeA, patchA, Leaf.cells, Inner.cells, Node.cells, decide_true, decide_false, List.length_nil, Int.natCast_zero, Int.lt_irrefl, go_sem, Nat.reduceEqDiff, reduceIte, Nat.reduceAdd, Nat.reduceLeDiff, Nat.reduceLT, Nat.reduceSub]
  refine hK _ ?_
  clear hK K
  refine WP.seqR [] fun K hK => ?_
  simp -implicitDefEqProofs only [leafA, innerA, nodeA, patchA, Leaf.cells, Inner.cells, Node.cells, decide_true, decide_false, hv0, go_sem, Nat.reduceEqDiff, reduceIte, Nat.reduceAdd, Nat.reduceLeDiff, Nat.reduceLT, Nat.reduceSub]
  refine hK _ ?_
  clear hK K
  refine WP.seqR [] fun K hK => ?_
  simp -implicitDefEqProofs only [leafA, innerA, nodeA, patchA, Leaf.cells, Inner.cells, Node.cells, decide_true, decide_false, go_sem, Nat.reduceEqDiff, reduceIte, Nat.reduceAdd, Nat.reduceLeDiff, Nat.reduceLT, Nat.reduceSub]
  refine hK _ (WP.adopt 7 8 rfl ?_)
  rw [upd_envL]
  clear hK K
  refine WP.seq (WP.block ?_)
  refine WP.weakL [(4, octs v), (7, .own 0 0 0 0)] ?_ ?_
  · simp only [envL_cons, Nat.reduceEqDiff, reduceIte, List.mem_cons, List.not_mem_nil, or_false, forall_eq_or_imp, forall_eq, List.length_nil, weak_refl, and_self]
  refine WP.loopG (fun s : Nat × List Int => s.1 ≤ 127 ∧ s.1 ≤ ys.length ∧ Oct s.2 ∧ s.2.length ≤ 4294967295 ∧ ysF (128 - s.1) s.1 s.2 = ys.drop s.1 ∧ ∀ j (h : j < ys.length), j < s.1 → ys[j].2 = 0) (fun s => [(4, octs s.2), (7, .own 0 s.1 0 s.1)]) (fun s => [.arr 8 s.1 ((ns.take s.1).map nodeA)]) (fun s => 128 - s.1) (0, v)
    ⟨by simp only; omega, Nat.zero_le _, o1, by simp only; omega, hys, fun _ _ h => absurd h (Nat.not_lt_zero _)⟩ (fun k _ => ⟨by simp, by simp [idb_patchA], fun e he => by (simp only [List.mem_cons, List.not_mem_nil, or_false] at he); (rcases he with rfl | rfl | rfl | rfl | rfl | rfl) <;> first | exact encNode.entB _ _ _ _ | exact encI64.entB _ _ _ _ | exact encU8.entB _ _ _ _ | simp ⟩) (by simp ) ?_
  rintro ⟨k, w⟩ ⟨hk7, hky, ho, hwl, hd, hP⟩
  simp only at hk7 hky ho hwl hd hP
  obtain ⟨f, hf⟩ : ∃ f, 128 - k = f + 1 := ⟨127 - k, by omega⟩
  rw [hf] at hd
  by_cases hw : w = []
  · subst hw
    rw [ysF_nil] at hd
    have hke : k = ys.length := by
      have := congrArg List.length hd
      simp only [List.length_nil, List.length_drop] at this
      omega
    subst hke
    refine wpc_soundR [] ?_
    simp -implicitDefEqProofs only [leafA, innerA, nodeA, patchA, Leaf.cells, Inner.cells, Node.cells, decide_true, decide_false, List.length_nil, Int.natCast_zero, Int.lt_irrefl, go_sem, Nat.reduceEqDiff, reduceIte, Nat.reduceAdd, Nat.reduceLeDiff, Nat.reduceLT, Nat.reduceSub]
    have hf : firstE ys = 0 := firstE_none fun j hj => hP j hj hj
    rw [if_neg (by simpa using hf)] at hK0
    have htk : ns.take ys.length = ns := List.take_of_length_le (by omega)
    rw [htk]
    have h127' := h127 fun j hj => hP j hj hj
    rw [← hnl] at hy0 hyl h127' ⊢
    have okp : Tree.Ok (padT ns) := padT_ok (fun n hn => by
      rw [← hns] at hn
      obtain ⟨p, hp, rfl⟩ := List.mem_map.1 hn
      exact okv p hp) h127'
    clear hP hf htk okv h127
    have w2 : IntKind.i64.wrap ((ns.length : Int) - 1) = ((ns.length - 1 : Nat) : Int) := by rw [wrap64 _ (by omega) (by omega)]; omega
    obtain ⟨m, hm⟩ : ∃ m, ns.length - 1 = m := ⟨_, rfl⟩
    have hmn : m < ns.length := by omega
    rw [hm] at w2 hK0
    rw [nodeAt_lt hmn] at hK0
    refine WP.seqR [] fun K hK => ?_
    have rl0 : rowLen [.arr 8 ns.length (ns.map nodeA)] (.own 0 ns.length 0 ns.length) = some ns.length := by simp [rowLen, AV.oneIn]
    have ix := index_nodes0 (G := []) (ver := ns.length) (l := ns) hmn
    have ld : evLoad [.arr 8 ns.length (ns.map nodeA)] false 1 (.eptr 0 ns.length m 0) = some (.int .i64 ns[m].kind) := by
      have h3 : (ns.map nodeA)[m]? = some (nodeA ns[m]) := by simp [hmn]
      simp only [evLoad, window, List.getElem?_cons_zero, h3, if_true]
      rfl
    have ad : evAddr [.arr 8 ns.length (ns.map nodeA)] 0 (.eptr 0 ns.length m 0) = some (.eptr 0 ns.length m 0) := by simp [evAddr, AV.oneIn]
    by_cases hkz : ns[m].kind = 0
    · rw [if_pos hkz] at hK0
      subst hK0
      simp -implicitDefEqProofs only [leafA, innerA, nodeA, patchA, Leaf.cells, Inner.cells, Node.cells, decide_true, decide_false, rl0, Option.bind_some, w2, ix, ad, ld, eq_true hkz, go_sem, Nat.reduceEqDiff, reduceIte, Nat.reduceAdd, Nat.reduceLeDiff, Nat.reduceLT, Nat.reduceSub]
    rw [if_neg hkz] at hK0
    simp -implicitDefEqProofs only [leafA, innerA, nodeA, patchA, Leaf.cells, Inner.cells, Node.cells, decide_true, decide_false, rl0, Option.bind_some, w2, ix, ad, ld, hkz, go_sem, Nat.reduceEqDiff, reduceIte, Nat.reduceAdd, Nat.reduceLeDiff, Nat.reduceLT, Nat.reduceSub]
    refine hK _ (WP.seq (WP.block ?_))
    clear hK K ix ld ad rl0
    have pl := padT_len (t := ns) (by omega)
    have pg := pad_ge ns.length (by omega)
    have pw := pad_whole ns.length
    have pwl := pw.le
    refine WP.weakL [(7, .own 0 ns.length 0 ns.length)] ?_ ?_
    · simp only [envL_cons, Nat.reduceEqDiff, reduceIte, List.mem_cons, List.not_mem_nil, or_false, forall_eq_or_imp, forall_eq, weak_refl, and_self]
    refine WP.loopG (fun j => j ≤ padW ns.length - ns.length) (fun j => [(7, .own 0 (ns.length + j) 0 (ns.length + j))]) (fun j => [.arr 8 (ns.length + j) (ns.map nodeA ++ List.replicate j zeroA)]) (fun j => padW ns.length - ns.length - j) 0 (Nat.zero_le _)
      (fun j _ => ⟨by simp, by simp , fun e he => by (simp only [List.mem_cons, List.not_mem_nil, or_false] at he); (rcases he with rfl); (exact entB_Zo _ _ _ _)⟩) (by simp ) ?_
    intro j hj
    have rl : ∀ T, rowLen (.arr 8 (ns.length + j) (ns.map nodeA ++ List.replicate j zeroA) :: T) (.own 0 (ns.length + j) 0 (ns.length + j)) = some (ns.length + j) := fun _ => by simp [rowLen, AV.oneIn]
    by_cases hlt : j < padW ns.length - ns.length
    · have hnw := pad_first (n := ns.length) (j := j) (by omega) hy0 (by omega)
      refine WP.seqR [r152] fun K hK => ?_
      simp -implicitDefEqProofs only [leafA, innerA, nodeA, patchA, Leaf.cells, Inner.cells, Node.cells, r152_c, r152_ask, decide_true, decide_false, rl, Option.bind_some, hnw, not_false_eq_true, go_sem, Nat.reduceEqDiff, reduceIte, Nat.reduceAdd, Nat.reduceLeDiff, Nat.reduceLT, Nat.reduceSub]
      refine hK _ (WP.block (WP.regionAt [] 2 ?_))
      clear hK K
      simp only [List.take_succ_cons, List.take_zero, List.drop_succ_cons, List.drop_zero]
      simp -implicitDefEqProofs only [leafA, innerA, nodeA, patchA, Leaf.cells, Inner.cells, Node.cells, decide_true, decide_false, go_sem, Nat.reduceEqDiff, reduceIte, Nat.reduceAdd, Nat.reduceLeDiff, Nat.reduceLT, Nat.reduceSub]
      refine SRun.lit (sz := 8) (xs := [zeroA]) rfl rfl (by simp [zeroA, AV.cells]) ?_
      have ap := appZn (H := [.arr 8 (ns.length + j) (ns.map nodeA ++ List.replicate j zeroA)]) (id := 0) (ver := ns.length + j) (l := ns) (k := j) rfl (by omega)
      unfold zeroA at ap
      refine runW_sound (T := []) ?_
      simp -implicitDefEqProofs only [leafA, innerA, nodeA, patchA, Leaf.cells, Inner.cells, Node.cells, decide_true, decide_false, zeroA, ap, go_sem, Nat.reduceEqDiff, reduceIte, Nat.reduceAdd, Nat.reduceLeDiff, Nat.reduceLT, Nat.reduceSub]
      exact ⟨j + 1, by omega, by omega, by simp [Nat.add_assoc], by simp [Nat.add_assoc, zeroA]⟩
    · have hje : ns.length + j = padW ns.length := by omega
      have hw : Whole ((ns.length + j : Nat) : Int) := by rw [hje]; exact pw
      have hpad : ns ++ List.replicate j Node.zero = padT ns := by unfold padT; rw [show padW ns.length - ns.length = j by omega]
      refine WP.seqR [r152] fun K hK => ?_
      simp -implicitDefEqProofs only [leafA, innerA, nodeA, patchA, Leaf.cells, Inner.cells, Node.cells, r152_c, r152_ask, decide_true, decide_false, rl, Option.bind_some, hw, not_true_eq_false, go_sem, Nat.reduceEqDiff, reduceIte, Nat.reduceAdd, Nat.reduceLeDiff, Nat.reduceLT, Nat.reduceSub]
      clear hK K
      refine WP.seqR [] fun K hK => ?_
      simp -implicitDefEqProofs only [leafA, innerA, nodeA, patchA, Leaf.cells, Inner.cells, Node.cells, decide_true, decide_false, go_sem, Nat.reduceEqDiff, reduceIte, Nat.reduceAdd, Nat.reduceLeDiff, Nat.reduceLT, Nat.reduceSub]
      refine Callee.lend (r := .bool (decide (NamedT (padT ns)))) 3 told330 ?_ (.bool _) ?_
      · rw [List.map_cons, List.map_nil, canonZn (k := 0) rfl, hpad]
        exact refNamed_spec _ okp
      by_cases hnm : NamedT (padT ns)
      · rw [if_neg (not_not_intro hnm)] at hK0
        subst hK0
        simp -implicitDefEqProofs only [leafA, innerA, nodeA, patchA, Leaf.cells, Inner.cells, Node.cells, decide_true, decide_false, hnm, not_true_eq_false, go_sem, Nat.reduceEqDiff, reduceIte, Nat.reduceAdd, Nat.reduceLeDiff, Nat.reduceLT, Nat.reduceSub]
        refine hK _ ?_
        refine wpc_soundR [] ?_
        simp -implicitDefEqProofs only [leafA, innerA, nodeA, patchA, Leaf.cells, Inner.cells, Node.cells, decide_true, decide_false, go_sem, Nat.reduceEqDiff, reduceIte, Nat.reduceAdd, Nat.reduceLeDiff, Nat.reduceLT, Nat.reduceSub]
        rw [← hpad]
        exact canonZn (k := 0) rfl
      · rw [if_pos hnm] at hK0
        subst hK0
        simp -implicitDefEqProofs only [leafA, innerA, nodeA, patchA, Leaf.cells, Inner.cells, Node.cells, decide_true, decide_false, hnm, not_false_eq_true, go_sem, Nat.reduceEqDiff, reduceIte, Nat.reduceAdd, Nat.reduceLeDiff, Nat.reduceLT, Nat.reduceSub]
  have hwp : (w.length : Int) > 0 := by have := List.length_pos_iff.2 hw; omega
  have hky' : k < ys.length := by
    refine Classical.byContradiction fun hn => ?_
    rw [List.drop_eq_nil_of_le (by omega)] at hd
    unfold ysF at hd
    rw [if_neg hw] at hd
    split at hd <;> cases hd
  rw [List.drop_eq_getElem_cons hky'] at hd
  have rl : ∀ T, rowLen (.arr 8 k ((ns.take k).map nodeA) :: T) (.own 0 k 0 k) = some k := fun _ => by simp [rowLen, AV.oneIn]
  have fail : ∀ E, ys[k].2 = E → E ≠ 0 → R = ([], E) := fun E hE h0 => by
    have hfe := firstE_at hky' hP (by rw [hE]; exact h0)
    rw [hE] at hfe
    rw [hK0, if_pos (by rw [hfe]; exact h0), hfe]
  by_cases h7 : k = 127
  · subst h7
    rw [ysF_full f hw] at hd
    obtain ⟨e1, e2⟩ := List.cons.inj hd
    obtain rfl := fail 10 (by rw [← e1]) (by decide)
    have h127' : (((127 : Nat) : Int) ≥ 127) = True := eq_true (by decide)
    refine wpc_soundR [] ?_
    simp -implicitDefEqProofs only [leafA, innerA, nodeA, patchA, Leaf.cells, Inner.cells, Node.cells, decide_true, decide_false, hwp, rl, Option.bind_some, h127', go_sem, Nat.reduceEqDiff, reduceIte, Nat.reduceAdd, Nat.reduceLeDiff, Nat.reduceLT, Nat.reduceSub]
  rw [ysF_cons hw (by omega)] at hd
  obtain ⟨e1, e2⟩ := List.cons.inj hd
  obtain ⟨ho2, hl2⟩ := nget_rest ho
  have h7' : ¬ ((k : Nat) : Int) ≥ 127 := by omega
  have e3 := errK_two k w
  rcases hn : nget w with ⟨n, s, e⟩
  rw [hn] at ho2 hl2 e2 e3 e1
  simp only at ho2 hl2 e2 e3 e1
  have hE : ys[k].2 = errK k w := by rw [← e1]
  have hN : ys[k].1 = n := by rw [← e1]
  by_cases hen : e = 0
  rotate_left
  · rw [if_neg (fun h => hen h.1)] at e3
    obtain rfl := fail e (by rw [hE, e3]) hen
    refine wpc_soundR [r237] ?_
    simp -implicitDefEqProofs only [leafA, innerA, nodeA, patchA, Leaf.cells, Inner.cells, Node.cells, r237_c, r237_ask, decide_true, decide_false, hwp, rl, Option.bind_some, h7', ho, hwl, hn, hen, ne_eq, not_false_eq_true, go_sem, Nat.reduceEqDiff, reduceIte, Nat.reduceAdd, Nat.reduceLeDiff, Nat.reduceLT, Nat.reduceSub]
  subst hen
  have ht1 : ns.take (k + 1) = ns.take k ++ [n] := by rw [List.take_succ_eq_append_getElem (by omega), hnat k hky', hN]
  have htl : (ns.take k).length = k := by rw [List.length_take]; omega
  have ap : ∀ (T : List Entry), evAppend (.arr 8 k ((ns.take k).map nodeA) :: T) 8 160 (.own 0 k 0 k) [.agg [AV.int IntKind.i64 n.kind, octs n.leaf.enc, octs n.leaf.cred, AV.int IntKind.i64 n.leaf.source, octs n.leaf.parent, octs n.inner.enc, octs n.inner.hash, ints n.inner.unmerged]] = some (.own 0 (k + 1) 0 (k + 1), .arr 8 (k + 1) ((ns.take (k + 1)).map nodeA) :: T) := fun T => by
    have := encNode.app_owns (H := .arr 8 k ((ns.take k).map nodeA) :: T) (id := 0) (ver := k) (l := ns.take k) (ys := [n]) (bytes := 160) rfl (by unfold maxRow; simp; omega) (by decide) (by simp)
    rw [htl] at this
    rw [ht1]
    have h2 : ((ns.take k) ++ [n]).length = k + 1 := by simp [htl]
    rw [h2] at this
    exact this
  have next : ys[k].2 = 0 → (k + 1 ≤ 127 ∧ k + 1 ≤ ys.length ∧ Oct s ∧ s.length ≤ 4294967295 ∧ ysF (128 - (k + 1)) (k + 1) s = ys.drop (k + 1) ∧ ∀ j (h : j < ys.length), j < k + 1 → ys[j].2 = 0) := fun h0 => by
    refine ⟨by omega, hky', ho2, by omega, by rw [show 128 - (k + 1) = f by omega]; exact e2, fun j h hj => ?_⟩
    by_cases e : j = k
    · subst e; exact h0
    · exact hP j h (by omega)
  by_cases h2 : k % 2 = 0
  · have hm : ((k : Nat) : Int).tmod 2 = 0 := by rw [Int.tmod_eq_emod_of_nonneg (by omega)]; omega
    by_cases hkd : n.kind = 2
    · rw [if_pos h2, if_pos ⟨rfl, hkd⟩] at e3
      obtain rfl := fail 7 (by rw [hE, e3]) (by decide)
      refine wpc_soundR [r237] ?_
      simp -implicitDefEqProofs only [leafA, innerA, nodeA, patchA, Leaf.cells, Inner.cells, Node.cells, r237_c, r237_ask, decide_true, decide_false, hwp, rl, Option.bind_some, h7', ho, hwl, hn, hm, hkd, ne_eq, not_true_eq_false, Int.reduceEq, go_sem, Nat.reduceEqDiff, reduceIte, Nat.reduceAdd, Nat.reduceLeDiff, Nat.reduceLT, Nat.reduceSub]
    · rw [if_pos h2, if_neg (fun h => hkd h.2)] at e3
      have nx := next (by rw [hE, e3])
      refine wpc_soundR [r237] ?_
      simp -implicitDefEqProofs only [leafA, innerA, nodeA, patchA, Leaf.cells, Inner.cells, Node.cells, r237_c, r237_ask, decide_true, decide_false, hwp, rl, Option.bind_some, h7', ho, hwl, hn, hm, hkd, ap, ne_eq, not_true_eq_false, Int.reduceEq, go_sem, Nat.reduceEqDiff, reduceIte, Nat.reduceAdd, Nat.reduceLeDiff, Nat.reduceLT, Nat.reduceSub]
      exact ⟨(k + 1, s), nx, by simp only; omega, by simp , rfl⟩
  · have hm : ((k : Nat) : Int).tmod 2 = 1 := by rw [Int.tmod_eq_emod_of_nonneg (by omega)]; omega
    by_cases hkd : n.kind = 1
    · rw [if_neg h2, if_pos ⟨rfl, hkd⟩] at e3
      obtain rfl := fail 7 (by rw [hE, e3]) (by decide)
      refine wpc_soundR [r237] ?_
      simp -implicitDefEqProofs only [leafA, innerA, nodeA, patchA, Leaf.cells, Inner.cells, Node.cells, r237_c, r237_ask, decide_true, decide_false, hwp, rl, Option.bind_some, h7', ho, hwl, hn, hm, hkd, ne_eq, not_true_eq_false, Int.reduceEq, go_sem, Nat.reduceEqDiff, reduceIte, Nat.reduceAdd, Nat.reduceLeDiff, Nat.reduceLT, Nat.reduceSub]
    · rw [if_neg h2, if_neg (fun h => hkd h.2)] at e3
      have nx := next (by rw [hE, e3])
      refine wpc_soundR [r237] ?_
      simp -implicitDefEqProofs only [leafA, innerA, nodeA, patchA, Leaf.cells, Inner.cells, Node.cells, r237_c, r237_ask, decide_true, decide_false, hwp, rl, Option.bind_some, h7', ho, hwl, hn, hm, hkd, ap, ne_eq, not_true_eq_false, Int.reduceEq, go_sem, Nat.reduceEqDiff, reduceIte, Nat.reduceAdd, Nat.reduceLeDiff, Nat.reduceLT, Nat.reduceSub]
      exact ⟨(k + 1, s), nx, by simp only; omega, by simp , rfl⟩
noncomputable def r328 : Reg seat := .of told328 (ask1 (fun a0' => isO a0' ∧ Oct (dO a0') ∧ (dO a0').length ≤ 4294967295) fun a0' => .fn (.tup [nodes (getT (dO a0')).1, .int .i64 (getT (dO a0')).2])) (ask1_ok fun a0' h => SaidOk.fn (Fun.weak (.cons (isO.weak h.1) .nil) (refGet_spec _ h.2.1 h.2.2)))
theorem r328_c : r328.c = 328 := rfl
open Classical in
theorem r328_ask (a0' : AV) : r328.ask [a0'] = if isO a0' ∧ Oct (dO a0') ∧ (dO a0').length ≤ 4294967295 then some (Said.fn (.tup [nodes (getT (dO a0')).1, .int .i64 (getT (dO a0')).2])) else none := by unfold r328 Reg.of ask1; exact ite_cl
def t15 : List Node := [n9, .zero, n9]
theorem t15_ok : Tree.Ok t15 := ⟨by simp [Small, t15], by simp [t15, Node.Ok.zero, n9_ok]⟩
theorem awake15_facts : putT t15 = [13, 1, 1, 1, 7, 0, 1, 0, 1, 1, 1, 7, 0, 1] ∧ getT [13, 1, 1, 1, 7, 0, 1, 0, 1, 1, 1, 7, 0, 1] = (t15, 0) ∧ getT [0] = ([], 5) ∧ getT [1, 0] = ([], 6) ∧ putT [] = [0] ∧ NamedT t15 := by
  refine ⟨?_, ?_, ?_, ?_, ?_, ?_⟩ <;> decide +kernel
theorem oct14 : Oct [13, 1, 1, 1, 7, 0, 1, 0, 1, 1, 1, 7, 0, 1] := ⟨by simp [Small], by simp; decide⟩
theorem oct1 : Oct [0] := ⟨by simp [Small], by simp; decide⟩
theorem oct2 : Oct [1, 0] := ⟨by simp [Small], by simp; decide⟩
theorem bs15 (H : List Entry) (a b : Int) : evBslice H 1 2 (.int .u8 0) [(0, .int .u8 a), (1, .int .u8 b)] = some (.own H.length 0 0 2, H ++ [.arr 1 0 [.int .u8 a, .int .u8 b]]) := (rfl)
theorem bsl_t15 (H : List Entry) : evBslice H 8 3 (.agg [.int .i64 0, .list true [], .list true [], .int .i64 0, .list true [], .list true [], .list true [], .list true []]) [(0, .agg [.int .i64 n9.kind, octs n9.leaf.enc, octs n9.leaf.cred, .int .i64 n9.leaf.source, octs n9.leaf.parent, octs n9.inner.enc, octs n9.inner.hash, ints n9.inner.unmerged]), (1, .agg [.int .i64 0, .list true [], .list true [], .int .i64 0, .list true [], .list true [], .list true [], .list true []]), (2, .agg [.int .i64 n9.kind, octs n9.leaf.enc, octs n9.leaf.cred, .int .i64 n9.leaf.source, octs n9.leaf.parent, octs n9.inner.enc, octs n9.inner.hash, ints n9.inner.unmerged])] = some (.own H.length 0 0 3, H ++ [.arr 8 0 [.agg [.int .i64 n9.kind, octs n9.leaf.enc, octs n9.leaf.cred, .int .i64 n9.leaf.source, octs n9.leaf.parent, octs n9.inner.enc, octs n9.inner.hash, ints n9.inner.unmerged], .agg [.int .i64 0, .list true [], .list true [], .int .i64 0, .list true [], .list true [], .list true [], .list true []], .agg [.int .i64 n9.kind, octs n9.leaf.enc, octs n9.leaf.cred, .int .i64 n9.leaf.source, octs n9.leaf.parent, octs n9.inner.enc, octs n9.inner.hash, ints n9.inner.unmerged]]]) := (rfl)
theorem frzE_frz15 (a b : Nat) (c : List AV) : (Entry.frz a b c).frzE = .frz a b c := (rfl)
set_option maxHeartbeats 2000000 in
theorem awake15_spec : Fun seat 326 [] (.bool true) := by
  obtain ⟨f1, f2, f3, f4, f5, f6⟩ := awake15_facts
  refine Fun.of0W told326 (by simp [il326]) (by simp) (by simp ) 4 ?_
  simp only [il326, List.zipIdx_nil, List.map_nil]
  refine WP.seqR [] fun K hK => ?_
  simp only [go_sem, Nat.reduceEqDiff, reduceIte, Nat.reduceAdd, Nat.reduceLeDiff, Nat.reduceLT, Nat.reduceSub]
  refine hK _ (WP.seqR [] ?_)
  clear hK K; intro K hK
  simp only [leafA, innerA, nodeA, patchA, Leaf.cells, Inner.cells, Node.cells, go_sem, Nat.reduceEqDiff, reduceIte, Nat.reduceAdd, Nat.reduceLeDiff, Nat.reduceLT, Nat.reduceSub]
  refine hK _ (WP.freeze all (WP.derefB 1 2 rfl ?_))
  clear hK K
  refine WP.weakL [(1, .ptr 1 0)] ?_ ?_
  · simp only [envL_cons, Nat.reduceEqDiff, reduceIte, List.mem_cons, List.not_mem_nil, or_false, forall_eq_or_imp, forall_eq, weak_refl, and_self]
  have e : ((freezeP all [Entry.arr 1 0 [AV.int .u8 7], .box [.int .i64 1, .own 0 0 0 1, .list true [], .int .i64 1, .list true [], .list true [], .list true [], .list true []]]).set 1
    (.box ([AV.int .i64 1, .own 0 0 0 1, .list true [], .int .i64 1, .list true [], .list true [], .list true [], .list true []].map (derefN (freezeP all [Entry.arr 1 0 [AV.int .u8 7], .box [.int .i64 1, .own 0 0 0 1, .list true [], .int .i64 1, .list true [], .list true [], .list true [], .list true []]]) 2)))) =
    [.frz 1 0 [AV.int .u8 7], .box [.int .i64 n9.kind, octs n9.leaf.enc, octs n9.leaf.cred, .int .i64 n9.leaf.source, octs n9.leaf.parent, octs n9.inner.enc, octs n9.inner.hash, ints n9.inner.unmerged]] := rfl
  rw [e]
  refine WP.seqR [] fun K hK => ?_
  simp only [leafA, innerA, nodeA, patchA, Leaf.cells, Inner.cells, Node.cells, bsl_t15, go_sem, Nat.reduceEqDiff, reduceIte, Nat.reduceAdd, Nat.reduceLeDiff, Nat.reduceLT, Nat.reduceSub]
  refine hK _ (WP.freeze all (WP.deref 2 3 ?_))
  clear hK K e
  have rB : derefN [.frz 1 0 [AV.int .u8 7], .box [.int .i64 n9.kind, octs n9.leaf.enc, octs n9.leaf.cred, .int .i64 n9.leaf.source, octs n9.leaf.parent, octs n9.inner.enc, octs n9.inner.hash, ints n9.inner.unmerged], .frz 8 0 [.agg [.int .i64 n9.kind, octs n9.leaf.enc, octs n9.leaf.cred, .int .i64 n9.leaf.source, octs n9.leaf.parent, octs n9.inner.enc, octs n9.inner.hash, ints n9.inner.unmerged], .agg [.int .i64 0, .list true [], .list true [], .int .i64 0, .list true [], .list true [], .list true [], .list true []], .agg [.int .i64 n9.kind, octs n9.leaf.enc, octs n9.leaf.cred, .int .i64 n9.leaf.source, octs n9.leaf.parent, octs n9.inner.enc, octs n9.inner.hash, ints n9.inner.unmerged]]] 3 (.own 2 0 0 3) = nodes t15 := rfl
  refine WP.weakL [(2, nodes t15)] ?_ ?_
  · simp only [upd_envL, freezeP_all_cons, freezeP_all_nil, frzE_frz15, frzE_box, frzE_arr, envL_cons, Nat.reduceEqDiff, reduceIte, rB, List.mem_cons, List.not_mem_nil, or_false, forall_eq_or_imp, forall_eq, weak_refl, and_self]
  simp only [freezeP_all_cons, freezeP_all_nil, frzE_frz15, frzE_box, frzE_arr]
  clear rB
  have ot := t15_ok
  have o14 := oct14
  have l14 : ([13, 1, 1, 1, 7, 0, 1, 0, 1, 1, 1, 7, 0, 1] : List Int).length ≤ 4294967295 := by decide
  refine WP.seqR [r331, r327] fun K hK => ?_
  simp -implicitDefEqProofs only [leafA, innerA, nodeA, patchA, Leaf.cells, Inner.cells, Node.cells, r331_c, r331_ask, r327_c, r327_ask, decide_true, decide_false, ot, f1, o14, l14, f2, go_sem, Nat.reduceEqDiff, reduceIte, Nat.reduceAdd, Nat.reduceLeDiff, Nat.reduceLT, Nat.reduceSub]
  refine hK _ ?_
  clear hK K
  refine WP.seqR [] fun K hK => ?_
  simp -implicitDefEqProofs only [leafA, innerA, nodeA, patchA, Leaf.cells, Inner.cells, Node.cells, decide_true, decide_false, go_sem, Nat.reduceEqDiff, reduceIte, Nat.reduceAdd, Nat.reduceLeDiff, Nat.reduceLT, Nat.reduceSub]
  refine Callee.frz 1 told327 (r := .tup [nodes [], .int .i64 5]) (by
    have := oget_spec [0] oct1 (by decide)
    rw [f3] at this; exact this) ?_
  simp only [freezeP_all_cons, freezeP_all_nil, frzE_frz15, frzE_box, frzE_arr]
  simp -implicitDefEqProofs only [leafA, innerA, nodeA, patchA, Leaf.cells, Inner.cells, Node.cells, decide_true, decide_false, go_sem, Nat.reduceEqDiff, reduceIte, Nat.reduceAdd, Nat.reduceLeDiff, Nat.reduceLT, Nat.reduceSub]
  refine hK _ ?_
  clear hK K
  refine WP.seqR [] fun K hK => ?_
  simp -implicitDefEqProofs only [leafA, innerA, nodeA, patchA, Leaf.cells, Inner.cells, Node.cells, decide_true, decide_false, bs15, go_sem, Nat.reduceEqDiff, reduceIte, Nat.reduceAdd, Nat.reduceLeDiff, Nat.reduceLT, Nat.reduceSub]
  refine Callee.frz 1 told327 (r := .tup [nodes [], .int .i64 6]) (by
    have := oget_spec [1, 0] oct2 (by decide)
    rw [f4] at this; exact this) ?_
  simp only [freezeP_all_cons, freezeP_all_nil, frzE_frz15, frzE_box, frzE_arr]
  simp -implicitDefEqProofs only [leafA, innerA, nodeA, patchA, Leaf.cells, Inner.cells, Node.cells, decide_true, decide_false, go_sem, Nat.reduceEqDiff, reduceIte, Nat.reduceAdd, Nat.reduceLeDiff, Nat.reduceLT, Nat.reduceSub]
  refine hK _ (wpc_soundR [r331, r106, r329] ?_)
  clear hK K
  have on : Tree.Ok [] := .nil
  have m1 : [AV.int .u8 0].mapM byteOf = some [0] := bytes_octs [0]
  simp -implicitDefEqProofs only [leafA, innerA, nodeA, patchA, Leaf.cells, Inner.cells, Node.cells, r331_c, r331_ask, r106_c, r106_ask, r329_c, r329_ask, decide_true, decide_false, ot, on, f5, f6, m1, evStr_eql, go_sem, Nat.reduceEqDiff, reduceIte, Nat.reduceAdd, Nat.reduceLeDiff, Nat.reduceLT, Nat.reduceSub]
noncomputable def r326 : Reg seat := .of told326 (ask0 (.fn (.bool true))) (ask0_ok (SaidOk.fn (awake15_spec)))
theorem r326_c : r326.c = 326 := rfl
theorem r326_ask : r326.ask [] = some (.fn (.bool true)) := rfl
section
attribute [local go_sem high] qgrdW_tt
theorem getT_ok {b : List Int} (hb : Oct b) : Tree.Ok (getT b).1 := by
  obtain ⟨o1, _⟩ := gbytes_oct hb
  unfold getT
  split
  · exact .nil
  split
  · exact .nil
  generalize (gbytes b).1 = v at o1
  unfold getK
  split
  · exact .nil
  split
  · exact .nil
  rename_i hf
  split
  · exact .nil
  split
  · exact .nil
  refine padT_ok (fun n hn => ?_) ?_
  · obtain ⟨p, hp, rfl⟩ := List.mem_map.1 hn
    exact ysF_ok 128 0 v o1 p hp
  · have := (ysF_all 128 0 v rfl (by omega) (bytes_of o1) (firstE_zero (Classical.not_not.1 hf))).2.1
    rw [List.length_map]
    change (ysI v).length + 0 ≤ 127 at this
    omega
end

section
attribute [local go_sem high] qgrdW_tt
set_option maxRecDepth 100000 in
set_option maxHeartbeats 2000000 in
theorem octetsIs_spec (t : List Node) (b : List Int) (ht : Tree.Ok t) (hb : Oct b) : Fun seat 314 [nodes t, octs b] (.bool true) := by
  by_cases hf : Few t
  rotate_left
  · refine Fun.of0R [r326, r100] told314 (by simp [il314]) (by simp [idb_patchA]) (by simp [idb_patchA]) 4 ?_
    simp -implicitDefEqProofs only [il314, List.zipIdx_cons, List.zipIdx_nil, leafA, innerA, nodeA, patchA, Leaf.cells, Inner.cells, Node.cells, r326_c, r326_ask, r100_c, r100_ask, decide_true, decide_false, ht, hf, go_sem, Nat.reduceEqDiff, reduceIte, Nat.reduceAdd, Nat.reduceLeDiff, Nat.reduceLT, Nat.reduceSub]
  by_cases h2 : (b.length : Int) > 20000
  · refine Fun.of0R [r326, r100] told314 (by simp [il314]) (by simp [idb_patchA]) (by simp [idb_patchA]) 4 ?_
    simp -implicitDefEqProofs only [il314, List.zipIdx_cons, List.zipIdx_nil, leafA, innerA, nodeA, patchA, Leaf.cells, Inner.cells, Node.cells, r326_c, r326_ask, r100_c, r100_ask, decide_true, decide_false, ht, hf, h2, go_sem, Nat.reduceEqDiff, reduceIte, Nat.reduceAdd, Nat.reduceLeDiff, Nat.reduceLT, Nat.reduceSub]
  have hbl : b.length ≤ 4294967295 := by omega
  have ok := getT_ok hb
  rcases hg : getT b with ⟨x, e⟩
  rw [hg] at ok
  simp only at ok
  refine Fun.of0W told314 (by simp [il314]) (by simp ) (by simp ) 4 ?_
  simp only [il314, List.zipIdx_cons, List.zipIdx_nil]
  refine WP.seqR [] fun K hK => ?_
  simp -implicitDefEqProofs only [leafA, innerA, nodeA, patchA, Leaf.cells, Inner.cells, Node.cells, decide_true, decide_false, go_sem, Nat.reduceEqDiff, reduceIte, Nat.reduceAdd, Nat.reduceLeDiff, Nat.reduceLT, Nat.reduceSub]
  refine hK _ ?_
  clear hK K
  refine WP.seqR [r326] fun K hK => ?_
  simp -implicitDefEqProofs only [leafA, innerA, nodeA, patchA, Leaf.cells, Inner.cells, Node.cells, r326_c, r326_ask, decide_true, decide_false, go_sem, Nat.reduceEqDiff, reduceIte, Nat.reduceAdd, Nat.reduceLeDiff, Nat.reduceLT, Nat.reduceSub]
  refine hK _ ?_
  clear hK K
  refine WP.seqR [r100] fun K hK => ?_
  simp -implicitDefEqProofs only [leafA, innerA, nodeA, patchA, Leaf.cells, Inner.cells, Node.cells, r100_c, r100_ask, decide_true, decide_false, ht, hf, h2, go_sem, Nat.reduceEqDiff, reduceIte, Nat.reduceAdd, Nat.reduceLeDiff, Nat.reduceLT, Nat.reduceSub]
  refine hK _ ?_
  clear hK K
  refine WP.seqR [r327] fun K hK => ?_
  simp -implicitDefEqProofs only [leafA, innerA, nodeA, patchA, Leaf.cells, Inner.cells, Node.cells, r327_c, r327_ask, decide_true, decide_false, hb, hbl, hg, go_sem, Nat.reduceEqDiff, reduceIte, Nat.reduceAdd, Nat.reduceLeDiff, Nat.reduceLT, Nat.reduceSub]
  refine hK _ ?_
  clear hK K
  refine WP.seqR [r328] fun K hK => ?_
  simp -implicitDefEqProofs only [leafA, innerA, nodeA, patchA, Leaf.cells, Inner.cells, Node.cells, r328_c, r328_ask, decide_true, decide_false, hb, hbl, hg, go_sem, Nat.reduceEqDiff, reduceIte, Nat.reduceAdd, Nat.reduceLeDiff, Nat.reduceLT, Nat.reduceSub]
  refine hK _ ?_
  clear hK K
  refine WP.seqR [] fun K hK => ?_
  refine WP.drawQ [r106, r329, r330, r331, r332] [.l, .l, .l, .l, .l, .l, .l, .l, .l, .l, .l, .l, .l, .l, .l, .l, .l, .l, .l, .l, .l, .g 0 0, .l, .l, .g 0 0, .l, .l, .l] mixed (by decide) ?_
  simp -implicitDefEqProofs only [leafA, innerA, nodeA, patchA, Leaf.cells, Inner.cells, Node.cells, r106_c, r106_ask, r329_c, r329_ask, r330_c, r330_ask, r331_c, r331_ask, r332_c, r332_ask, decide_true, decide_false, ht, ok, bytes_octs, evStr_eql, go_sem, Nat.reduceEqDiff, reduceIte, Nat.reduceAdd, Nat.reduceLeDiff, Nat.reduceLT, Nat.reduceSub]
  refine hK _ (wpc_soundR [] ?_)
  simp -implicitDefEqProofs only [leafA, innerA, nodeA, patchA, Leaf.cells, Inner.cells, Node.cells, decide_true, decide_false, go_sem, Nat.reduceEqDiff, reduceIte, Nat.reduceAdd, Nat.reduceLeDiff, Nat.reduceLT, Nat.reduceSub]
end

end Go.Proofs.YtihhinbjhiankaaGreatDoor.Al
