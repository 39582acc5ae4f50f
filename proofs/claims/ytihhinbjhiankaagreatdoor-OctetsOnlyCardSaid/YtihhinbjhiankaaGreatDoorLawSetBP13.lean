/-
  JOINED: O3, D11, D12, O4, O5, I5, IlsE, T1, O6
-/
import Derived.Test.YtihhinbjhiankaaGreatDoorLawSetBP12
import Derived.Test.YtihhinbjhiankaaGreatDoorLawSetBP9
import Derived.Test.YtihhinbjhiankaaGreatDoorLawSetBP11
import Derived.Test.YtihhinbjhiankaaGreatDoorLawSetBP10
import Derived.Test.YtihhinbjhiankaaGreatDoorLawSetBP3
import Derived.Test.YtihhinbjhiankaaGreatDoorLawSetBP4
set_option linter.unusedSimpArgs false
set_option linter.unusedVariables false
namespace Go.Proofs.YtihhinbjhiankaaGreatDoor.Al
open Go
attribute [local go_sem] W_mv W_pick W_alloc W_box W_build W_bslice W_load W_store W_bin W_isnil W_un W_convI W_convS W_mkiface W_mkfunc W_slice W_faddr W_iaddr W_idxA W_extract W_len W_min W_max W_append W_appendZ W_clear W_invoke thenQ_normal thenQ_exit thenQ_goto thenQ_ret blockQ_normal blockQ_ret blockQ_goto blockQ_exit wpc_skip wpc_region wpc_draw wpc_seq wpc_cond wpc_block wpc_exit wpc_goto wpc_label wpc_ret wpc_loop wpc_range wpc_scope condW_true condW_false condW_dec condW_any W_nil W_call resW_some evalOp Opd.ev updo_envL updo_none setL_cons setL_nil envL_cons Option.map_some Option.bind_some evBin evInt List.map_cons List.map_nil Option.pure_def Option.bind_eq_bind W_grd' grdW_tt grdW_ff grdW_tf grdW_ft grdW_tup grdW_dt grdW_df lgrdW_tup L_mv L_load L_bin L_un L_faddr L_iaddr L_nil L_call lresW_some upd_envL evUn beq_dec bne_dec leaves_ret1 leaves_ret0 leaves_end0 rowLen_ints load_iptr0 not_dec heap_get0 heap_get1 heap_set0 heap_set1 heap_len1 heap_app bslice1_int seen_ints seen_one0 bslice0_int Nat.sub_zero Bool.not_true Bool.not_false List.length_nil List.length_cons List.nil_append List.cons_append Nat.zero_add load_iptrA canon_ptrI canon_bool canon_tup canon_agg canon_ints' canon_ints0 rowLen_ints1 rowLen_octs seen_octs canon_octs' seen_intss seen_octss rowLen_nodes seen_nodes canon_nodes' rowLen_nodes3 seen_list cells_int oneIn_int cells_bool oneIn_bool cells_str oneIn_str cells_list oneIn_list cells_func oneIn_func cells_nilfunc oneIn_nilfunc cells_iptr oneIn_iptr cells_iface oneIn_iface cells_nilIface oneIn_nilIface cells_own cells_ptr cells_anybool oneIn_anybool cells_agg oneIn_own0 oneIn_own1 seenL1 seenM1 oneIn_ptr2 seenL2 oneIn_own3 seenL3 cells_ints oneIn_ints cells_octs oneIn_octs cells_intss oneIn_intss cells_octss oneIn_octss cells_nodes oneIn_nodes ldB0 ldA0 adB0 stB0 ldB1 ldA1 adB1 stB1 ldB2 ldA2 adB2 stB2 ldB3 ldA3 adB3 stB3 ldB4 ldA4 adB4 stB4 ldB5 ldA5 adB5 stB5 List.getElem?_cons_zero List.getElem?_cons_succ beq_self_eq_true splice List.take_zero List.take_succ_cons List.drop_zero List.drop_succ_cons List.append_nil List.set_cons_zero List.set_cons_succ List.all_cons List.all_nil Bool.and_self and_self and_true true_and Nat.lt_irrefl Nat.zero_lt_one Nat.le_refl fillA evNil notA Bool.false_eq_true evMin_int evMax_int Option.map_none freezeP_all_nil freezeP_all_cons frzE_box frzE_arr frzE_dead foldA List.foldlM_cons List.foldlM_nil callW_f lcallW_f ansW_fn ansW_own lansW_fn lansW_own ansW_none lansW_none tab_cons tab_nil dI_int dB_bool dO_octs dO_ints dO_list dO_nil dOs_nil dN_nodeA dLf_agg dIn_agg dN_agg dNs_nodes dNs_nil isI_int isB_bool isO_octs isO_nil isO_list isS_ints isS_nil isNs_nodes isNs_nil isN_nodeA isLf_agg isIn_agg isN_agg leaf_eta inner_eta node_eta leaf_zero inner_zero node_zero dP_agg isP_agg patch_eta decide_eq_true_eq decide_eq_false_iff_not eq_self forall_const true_implies false_implies Bool.not_eq_true' Bool.not_eq_false' Bool.true_eq_false implies_true ne_eq ldI ldIA adI AV.tup.injEq AV.agg.injEq List.cons.injEq AV.int.injEq AV.bool.injEq nodes_inj octs_inj ints_inj nil_nodes nil_octs nil_ints canon_nilL decide_eq_decide two_ne four_ne lendA_fn lendA_own lendA_none llendA_fn llendA_none false_and and_false Q_nil Q_l Q_g Q_h Q_grd qgrdW_b qgrdW_tup lightD_some heavyD_some readD_some fnD_some fnD_own fnD_none callL_f ownH_some litD_some litE_some Q_call Q_bslice H_call pendOk_nil pendOk_cons pastOk_nil pastOk_cons Q_mv Q_pick Q_bin Q_un Q_convI Q_mkfunc Q_extract Q_min Q_max Q_lenS Q_lenA Q_field Q_idxA Q_mkiface Q_tassert Q_alloc Q_box Q_store Q_mkslice Q_append Q_appendZ Q_copy Q_clear Q_build Q_load Q_nilck Q_isnil Q_convS Q_slice Q_faddr Q_iaddr Q_iaddrA Q_len H_alloc H_box H_bslice H_store H_mkslice H_append H_appendZ H_copy H_clear free_mv free_pick free_bin free_un free_convI free_mkfunc free_extract free_min free_max free_lenS free_lenA free_field free_idxA free_mkiface free_tassert free_build free_load free_nilck free_isnil free_convS free_slice free_faddr free_iaddr free_iaddrA free_len callW_y List.length_map List.length_set leaves_r evR_some evRess1 evRess2 evRess3 evRes_t evRes_c nz_kind nz_enc nz_cred nz_source nz_parent nz_ienc nz_hash nz_un true_or or_true bsl_node appI appO ixo_nodes canon_rowI canon_rowO not_false_eq_true not_true_eq_false ldE_a ldE_c adE_b stE_b onE_a onP_b bsl_zero
attribute [local go_sem low] condW_b grdW_b lgrdW_b ldP adP stP onO onPt
attribute [local simp] envL_cons envL_nil idb_int idb_bool idb_ints idb_nil idb_own idb_ptr idb_octs idb_nodes idb_leafA idb_innerA idb_nodeA idb_agg idb_tup idb_iptr idb_fn entB_dead entB_box
/-- An iterator that writes into a box of its own, and makes new boxes. -/
def GivesP (S : Seat) (c : Nat) (cap : List AV) (p : Nat) (st : Entry) (xs : List (List AV)) : Prop :=
  ∀ (id : Nat) (H0 : List Entry) (J : Nat → List Entry → Prop) (Jx : List Entry → Prop), H0[p]? = some st → J 0 H0 → (∀ k H e, J k H → J k (H.set p e)) → (∀ k H X, J k H → J k (H ++ X)) →
    (∀ k (hk : k < xs.length) H1, J k H1 → AYield S id xs[k] H1 (fun r H2 => (r = .bool true ∧ H2[p]? = H1[p]? ∧ J (k + 1) H2) ∨ (r = .bool false ∧ Jx H2))) →
    ACall S c ([.func (.y id) [] []] ++ cap) H0 (fun _ H' => J xs.length H' ∨ Jx H')

section
variable {S : Seat}
theorem WP.rangeP {N b : Nat} {Q : Exit → St → Prop} {H : List Entry} {env : Env} {g : Opd} {ps : List Nat} {assign body : IC} {c : Nat} {cap : List AV} (p : Nat) (st : Entry) (xs : List (List AV)) (hg : g.ev env = .func (.f c) [] cap) (hcb : Callable S c) (hG : GivesP S c cap p st xs)
    (hps : ∀ x ∈ xs, x.length = ps.length) (G : Nat → Entry → List Entry) (P : Nat → Prop) (hp : p < H.length) (hlen : ∀ k e, (G k e).length = H.length) (hGp : ∀ k e, (G k e)[p]? = some e) (hGs : ∀ k e e', (G k e).set p e' = G k e') (hP : P 0) (h0 : G 0 st = H)
    (hround : ∀ k (hk : k < xs.length) (e : Entry), P k → ∀ (l : Nat) (T : List Entry) (b : Nat), b = H.length + T.length → WP S (some l) N b assign (fun x s => x = .normal ∧ ∃ X, s.H = G k e ++ (T ++ X) ∧
      ∀ T', T'.length = T.length → WP S (some l) N b body (RoundQ (fun k => G k e) P H.length Q env k T') ⟨s.env, G k e ++ (T' ++ X)⟩) ⟨setPs env ps xs[k], G k e ++ T⟩)
    (hend : P xs.length → ∀ e T, Q .normal ⟨env, G xs.length e ++ T⟩) : WP S none N b (.rangeFunc g ps assign body) Q ⟨env, H⟩ := by
  refine WP.range (first := []) hg hcb fun L hy => ?_
  have getT : ∀ (A T : List Entry), A.length = H.length → (A ++ T)[H.length]? = T[0]? := fun A T h => by
    rw [List.getElem?_append_right (by omega), h, Nat.sub_self]
  have setT : ∀ (A T : List Entry) (x : Entry), A.length = H.length → (A ++ T).set H.length x = A ++ T.set 0 x := fun A T x h => by
    rw [List.set_append_right _ _ (by omega), h, Nat.sub_self]
  have getp : ∀ k e T, (G k e ++ T)[p]? = some e := fun k e T => by rw [List.getElem?_append_left (by rw [hlen]; exact hp), hGp]
  refine (hG H.length _ (fun k H1 => P k ∧ ∃ e T, H1 = G k e ++ T ∧ T[0]? = some (L .ready)) (fun H1 => ∃ j H2 T, H1 = H2 ++ T ∧ H2.length = H.length ∧ T[0]? = some (L (.done j)) ∧ ∀ T3, Q j.leave ⟨env, H2 ++ T3⟩) ?_ ⟨hP, st, [L .ready], by rw [h0], rfl⟩ ?_ ?_ ?_).mono ?_
  · rw [← h0]; exact getp 0 st _
  · rintro k _ e' ⟨a, e, T, rfl, hT⟩
    exact ⟨a, e', T, by rw [List.set_append_left _ _ (by rw [hlen]; exact hp), hGs], hT⟩
  · rintro k _ X ⟨a, e, T, rfl, hT⟩
    exact ⟨a, e, T ++ X, by rw [List.append_assoc], by rw [List.getElem?_append_left (lt_of_get hT)]; exact hT⟩
  · rintro k hk H1 ⟨hpk, e, T, rfl, hT⟩
    have hT0 : 0 < T.length := lt_of_get hT
    refine hy _ _ _ ⟨by rw [getT _ _ (hlen k e)]; exact hT, hps _ (List.getElem_mem hk), fun l => ?_⟩
    refine WP.mono (hround k hk e hpk l T _ (by simp [hlen])) ?_
    rintro x s ⟨rfl, X, hH, hbody⟩
    have hTX : (T ++ X)[0]? = T[0]? := List.getElem?_append_left hT0
    have hTS : ∀ x, (T ++ X).set 0 x = T.set 0 x ++ X := fun x => by rw [List.set_append_left _ _ hT0]
    refine ⟨rfl, by rw [hH, getT _ _ (hlen k e), hTX]; exact hT, ?_⟩
    rw [hH, setT _ _ _ (hlen k e), hTS]
    have hb := hbody (T.set 0 (L .busy)) (by simp)
    refine WP.mono hb ?_
    rintro e' st' ⟨H2, T2, h1, h2, h3, h4⟩
    have hbz : T2[0]? = some (L .busy) := by
      rw [h3 0 (by simpa using hT0), List.getElem?_set_self hT0]
    refine ⟨by rw [h1, getT _ _ h2]; exact hbz, ?_⟩
    have hl2 := lt_of_get hbz
    cases e' with
    | normal =>
      obtain ⟨h5, rfl⟩ := h4
      exact .inl ⟨rfl, by rw [h1, setT _ _ _ h2, getp, getp], h5, e, T2.set 0 (L .ready), by rw [h1, setT _ _ _ h2], List.getElem?_set_self hl2⟩
    | _ =>
      obtain ⟨j, h5, h6⟩ := h4
      exact ⟨j, h5, .inr ⟨rfl, j, H2, T2.set 0 (L (.done j)), by rw [h1, setT _ _ _ h2], h2, List.getElem?_set_self hl2, h6⟩⟩
  · rintro r H' (⟨hpe, e, T, rfl, hT⟩ | ⟨j, H2, T, rfl, h2, hT, hq⟩)
    · refine .inl ⟨by rw [getT _ _ (hlen _ _)]; exact hT, ?_⟩
      rw [setT _ _ _ (hlen _ _)]
      exact hend hpe _ _
    · refine .inr ⟨j, by rw [getT _ _ h2]; exact hT, ?_⟩
      rw [setT _ _ _ h2]
      exact hq _

end

theorem nget_rest {b : List Int} (hb : Oct b) : Oct (nget b).2.1 ∧ (nget b).2.1.length ≤ b.length := by
  rcases h : nget b with ⟨n, r, e⟩
  by_cases he : e = 0
  · subst he
    obtain ⟨_, hp⟩ := nget_only (bytes_of hb) h
    have hl : r.length ≤ b.length := by rw [← hp, List.length_append]; omega
    have hbl := hb.1
    simp only [Small] at hbl
    exact ⟨⟨by simp only [Small]; omega, fun x hx => hb.2 x (by rw [← hp]; exact List.mem_append_right _ hx)⟩, hl⟩
  · obtain ⟨_, rfl⟩ := nget_bad h he
    exact ⟨⟨Nat.zero_le _, fun x hx => by cases hx⟩, Nat.zero_le _⟩
theorem AYield.weak {S : Seat} {id : Nat} {args args' : List AV} {H : List Entry} {R : AV → List Entry → Prop} (hw : Weaks args args') (h : AYield S id args' H R) : AYield S id args H R :=
  fun m I X w vs hs hv => h m I X w vs hs (hw.rels hv)
def ysA (p : Node × Int) : List AV := [nodeA p.1, .int .i64 p.2]
theorem zeroY_weak : Weaks [AV.agg [.int .i64 0, .list true [], .list true [], .int .i64 0, .list true [], .list true [], .list true [], .list true []], .int .i64 10] (ysA (.zero, 10)) :=
  .cons (.agg (.cons (.refl _) (.cons (.list _ _) (.cons (.list _ _) (.cons (.refl _) (.cons (.list _ _) (.cons (.list _ _) (.cons (.list _ _) (.cons (.list _ _) .nil))))))))) (.cons (.refl _) .nil)
theorem ysF_cons {f k : Nat} {v : List Int} (hv : v ≠ []) (hk : k < 127) : ysF (f + 1) k v = ((nget v).1, errK k v) :: ysF f (k + 1) (nget v).2.1 := by
  conv => lhs; unfold ysF
  rw [if_neg hv, if_neg (by omega)]
theorem errK_two (k : Nat) (v : List Int) : errK k v = if (nget v).2.2 = 0 ∧ (nget v).1.kind = (if k % 2 = 0 then 2 else 1) then 7 else (nget v).2.2 := by
  unfold errK BadK
  by_cases h : k % 2 = 0
  · simp [h]
  · have h1 : k % 2 = 1 := by omega
    simp [h1]
theorem nodes_spec (v : List Int) (H : List Entry) : ACall seat 343 [octs v] H (fun r H' => r = .func (.f 352) [] [.ptr H.length 0] ∧ H' = H ++ [.box [octs v]]) := by
  refine ACall.of_wp told343 (by simp [il343]) ?_
  rw [start_env]
  simp only [il343, List.zipIdx_cons, List.zipIdx_nil, Nat.zero_add]
  refine wpc_soundR [] ?_
  simp -implicitDefEqProofs only [leafA, innerA, nodeA, patchA, Leaf.cells, Inner.cells, Node.cells, decide_true, decide_false, go_sem, Nat.reduceEqDiff, reduceIte, Nat.reduceAdd, Nat.reduceLeDiff, Nat.reduceLT, Nat.reduceSub]
theorem ix20 (G : List Entry) : (if 0 ≤ (0 : Int) ∧ (0 : Int) < ((2 : Nat) : Int) then Option.map (fun v => (v, G)) [AV.int IntKind.i64 2, AV.int IntKind.i64 1][Int.toNat 0 * 1]? else none) = some (.int .i64 2, G) := (rfl)
theorem ix21 (G : List Entry) : (if 0 ≤ (1 : Int) ∧ (1 : Int) < ((2 : Nat) : Int) then Option.map (fun v => (v, G)) [AV.int IntKind.i64 2, AV.int IntKind.i64 1][Int.toNat 1 * 1]? else none) = some (.int .i64 1, G) := (rfl)
set_option maxHeartbeats 2000000 in
theorem nodes1_gives (v0 : List Int) (hv0 : Oct v0) (hl0 : v0.length ≤ 4294967295) (p : Nat) : GivesP seat 352 [.ptr p 0] p (.box [octs v0]) ((ysI v0).map ysA) := by
  intro id H0 J Jx hst h0 hset happ hround
  refine ACall.of_wp told352 (by simp [il352]) ?_
  rw [start_env]
  simp only [il352, List.zipIdx_cons, List.zipIdx_nil, Nat.zero_add, List.cons_append, List.nil_append]
  refine wpc_soundR [] ?_
  simp -implicitDefEqProofs only [leafA, innerA, nodeA, patchA, Leaf.cells, Inner.cells, Node.cells, decide_true, decide_false, go_sem, Nat.reduceEqDiff, reduceIte, Nat.reduceAdd, Nat.reduceLeDiff, Nat.reduceLT, Nat.reduceSub]
  have hyl : (ysI v0).length ≤ 128 := ysF_len _ _ _
  refine WP.loopJ (fun k : Nat => [(0, .func (.y id) [] []), (1, .ptr p 0), (3, .int .i64 (k : Nat))]) (fun k H => k ≤ 127 ∧ k ≤ (ysI v0).length ∧ J k H ∧ ∃ v, H[p]? = some (.box [octs v]) ∧ Oct v ∧ v.length ≤ 4294967295 ∧ ysF (128 - k) k v = (ysI v0).drop k) (fun k => 128 - k) 0 (by simp ) ⟨by omega, Nat.zero_le _, h0, v0, hst, hv0, hl0, rfl⟩ ?_
  rintro k H ⟨hk7, hky, hj, v, hp, ho, hl, hd⟩
  obtain ⟨f, hf⟩ : ∃ f, 128 - k = f + 1 := ⟨127 - k, by omega⟩
  rw [hf] at hd
  refine WP.seq ?_
  by_cases hv : v = []
  · subst hv
    rw [ysF_nil] at hd
    have hke : k = (ysI v0).length := by
      have := congrArg List.length hd
      simp only [List.length_nil, List.length_drop] at this
      omega
    subst hke
    refine wpc_soundR [] ?_
    simp -implicitDefEqProofs only [leafA, innerA, nodeA, patchA, Leaf.cells, Inner.cells, Node.cells, decide_true, decide_false, load_box hp, List.length_nil, Int.natCast_zero, Int.lt_irrefl, go_sem, Nat.reduceEqDiff, reduceIte, Nat.reduceAdd, Nat.reduceLeDiff, Nat.reduceLT, Nat.reduceSub]
    exact .inl hj
  have hvl : (v.length : Int) > 0 := by have := List.length_pos_iff.2 hv; omega
  have hky' : k < (ysI v0).length := by
    refine Classical.byContradiction fun hn => ?_
    rw [List.drop_eq_nil_of_le (by omega)] at hd
    unfold ysF at hd
    rw [if_neg hv] at hd
    split at hd <;> cases hd
  rw [List.drop_eq_getElem_cons hky'] at hd
  have hr := hround k (by simpa using hky')
  rw [List.getElem_map] at hr
  refine wpc_soundR [] ?_
  simp -implicitDefEqProofs only [leafA, innerA, nodeA, patchA, Leaf.cells, Inner.cells, Node.cells, decide_true, decide_false, load_box hp, hvl, go_sem, Nat.reduceEqDiff, reduceIte, Nat.reduceAdd, Nat.reduceLeDiff, Nat.reduceLT, Nat.reduceSub]
  refine WP.seq (WP.block (WP.seqR [] fun K hK => ?_))
  by_cases h7 : k = 127
  · subst h7
    rw [ysF_full f hv] at hd
    obtain ⟨e1, e2⟩ := List.cons.inj hd
    have hke : (ysI v0).length = 128 := by
      have := congrArg List.length e2
      simp only [List.length_nil, List.length_drop] at this
      omega
    rw [← e1] at hr
    have h127 : (((127 : Nat) : Int) = 127) = True := eq_true rfl
    simp -implicitDefEqProofs only [leafA, innerA, nodeA, patchA, Leaf.cells, Inner.cells, Node.cells, decide_true, decide_false, h127, go_sem, Nat.reduceEqDiff, reduceIte, Nat.reduceAdd, Nat.reduceLeDiff, Nat.reduceLT, Nat.reduceSub]
    refine Callee.yld (AYield.weak zeroY_weak (hr H hj)) ?_
    rintro r H' (⟨rfl, hp', hj'⟩ | ⟨rfl, hx'⟩)
    · exact .inl (by rw [hke]; exact hj')
    · exact .inr hx'
  rw [ysF_cons hv (by omega)] at hd
  obtain ⟨e1, e2⟩ := List.cons.inj hd
  rw [← e1] at hr
  obtain ⟨ho2, hl2⟩ := nget_rest ho
  have h7' : ¬ (k : Int) = 127 := by omega
  simp -implicitDefEqProofs only [leafA, innerA, nodeA, patchA, Leaf.cells, Inner.cells, Node.cells, decide_true, decide_false, h7', go_sem, Nat.reduceEqDiff, reduceIte, Nat.reduceAdd, Nat.reduceLeDiff, Nat.reduceLT, Nat.reduceSub]
  refine hK _ ?_
  clear hK K
  have e3 := errK_two k v
  rcases hn : nget v with ⟨n, s, e⟩
  rw [hn] at ho2 hl2 e2 e3 hr
  simp only at ho2 hl2 e2 e3
  simp only [ysA] at hr
  refine WP.seqR [r189] fun K hK => ?_
  simp -implicitDefEqProofs only [leafA, innerA, nodeA, patchA, Leaf.cells, Inner.cells, Node.cells, r189_c, r189_ask, decide_true, decide_false, load_box hp, ho, hl, hn, go_sem, Nat.reduceEqDiff, reduceIte, Nat.reduceAdd, Nat.reduceLeDiff, Nat.reduceLT, Nat.reduceSub]
  refine hK _ ?_
  clear hK K
  obtain ⟨G, hG⟩ : ∃ G, H ++ [Entry.box [AV.int IntKind.i64 n.kind, octs n.leaf.enc, octs n.leaf.cred, AV.int IntKind.i64 n.leaf.source, octs n.leaf.parent, octs n.inner.enc, octs n.inner.hash, ints n.inner.unmerged]] = G := ⟨_, rfl⟩
  have hq : G[H.length]? = some (.box [AV.int IntKind.i64 n.kind, octs n.leaf.enc, octs n.leaf.cred, AV.int IntKind.i64 n.leaf.source, octs n.leaf.parent, octs n.inner.enc, octs n.inner.hash, ints n.inner.unmerged]) := by rw [← hG]; simp
  have hjG : J k G := by rw [← hG]; exact happ _ _ _ hj
  have hpG : G[p]? = some (.box [octs v]) := by rw [← hG, List.getElem?_append_left (lt_of_get hp)]; exact hp
  rw [hG]
  generalize H.length = q at *
  have hrG := hr G hjG
  obtain ⟨E, hE⟩ : ∃ E, errK k v = E := ⟨_, rfl⟩
  rw [hE] at e3 hrG
  refine WP.weakL [(0, .func (.y id) [] []), (1, .ptr p 0), (3, .int .i64 k), (4, .ptr q 0), (5, octs s), (6, .int .i64 e)] ?_ ?_
  · simp only [envL_cons, Nat.reduceEqDiff, reduceIte, List.mem_cons, List.not_mem_nil, or_false, forall_eq_or_imp, forall_eq, weak_refl, and_self]
  have lq1 : evLoad G true 8 (.ptr q 0) = some (.agg [AV.int IntKind.i64 n.kind, octs n.leaf.enc, octs n.leaf.cred, AV.int IntKind.i64 n.leaf.source, octs n.leaf.parent, octs n.inner.enc, octs n.inner.hash, ints n.inner.unmerged]) := by simp [evLoad, window, hq]
  have lq0 : evLoad G false 1 (.ptr q 0) = some (.int .i64 n.kind) := by simp [evLoad, window, hq]
  refine WP.seqR [] fun K hK => ?_
  have TAIL : ∀ env', (∀ p' ∈ [(0, AV.func (.y id) [] []), (1, .ptr p 0), (3, .int .i64 (k : Nat)), (4, .ptr q 0), (5, octs s), (6, .int .i64 E)], env' p'.1 = p'.2) → K ⟨env', G⟩ := by
    intro env' he
    refine hK _ (WP.slots he ?_)
    clear hK K
    refine WP.seqR [] fun K hK => ?_
    simp -implicitDefEqProofs only [leafA, innerA, nodeA, patchA, Leaf.cells, Inner.cells, Node.cells, decide_true, decide_false, lq1, go_sem, Nat.reduceEqDiff, reduceIte, Nat.reduceAdd, Nat.reduceLeDiff, Nat.reduceLT, Nat.reduceSub]
    simp only [nodeA, Node.cells, Leaf.cells, Inner.cells, List.cons_append, List.nil_append] at hrG
    refine Callee.yld hrG ?_
    rintro r H' (⟨rfl, hp', hj'⟩ | ⟨rfl, hx'⟩)
    · rw [hpG] at hp'
      simp -implicitDefEqProofs only [leafA, innerA, nodeA, patchA, Leaf.cells, Inner.cells, Node.cells, decide_true, decide_false, go_sem, Nat.reduceEqDiff, reduceIte, Nat.reduceAdd, Nat.reduceLeDiff, Nat.reduceLT, Nat.reduceSub]
      refine hK _ ?_
      clear hK K
      refine wpc_soundR [] ?_
      have st : evStore H' 1 (.ptr p 0) (octs s) = some (H'.set p (.box [octs s])) := store_box hp' rfl rfl
      simp -implicitDefEqProofs only [leafA, innerA, nodeA, patchA, Leaf.cells, Inner.cells, Node.cells, decide_true, decide_false, st, go_sem, Nat.reduceEqDiff, reduceIte, Nat.reduceAdd, Nat.reduceLeDiff, Nat.reduceLT, Nat.reduceSub]
      refine wpc_soundR [] ?_
      simp -implicitDefEqProofs only [leafA, innerA, nodeA, patchA, Leaf.cells, Inner.cells, Node.cells, decide_true, decide_false, go_sem, Nat.reduceEqDiff, reduceIte, Nat.reduceAdd, Nat.reduceLeDiff, Nat.reduceLT, Nat.reduceSub]
      refine ⟨k + 1, ⟨by omega, by omega, hset _ _ _ hj', s, List.getElem?_set_self (lt_of_get hp'), ho2, by omega, ?_⟩, by omega, by simp [wrapS (show k < 9223372036854775807 by omega)]⟩
      rw [show 128 - (k + 1) = f by omega]; exact e2
    · simp -implicitDefEqProofs only [leafA, innerA, nodeA, patchA, Leaf.cells, Inner.cells, Node.cells, decide_true, decide_false, go_sem, Nat.reduceEqDiff, reduceIte, Nat.reduceAdd, Nat.reduceLeDiff, Nat.reduceLT, Nat.reduceSub]
      exact .inr hx'
  have had : adE G[q]? q 0 = some (.ptr q 0) := by rw [hq]; rfl
  by_cases hm2 : k % 2 = 0
  · have hm : ((k : Nat) : Int).tmod 2 = 0 := by rw [Int.tmod_eq_emod_of_nonneg (by omega)]; omega
    rw [if_pos hm2] at e3
    by_cases hbad : e = 0 ∧ n.kind = 2
    · obtain ⟨he, hkd⟩ := hbad
      rw [if_pos ⟨he, hkd⟩] at e3
      simp -implicitDefEqProofs only [leafA, innerA, nodeA, patchA, Leaf.cells, Inner.cells, Node.cells, decide_true, decide_false, hm, ix20, eq_true he, had, lq0, eq_true hkd, go_sem, Nat.reduceEqDiff, reduceIte, Nat.reduceAdd, Nat.reduceLeDiff, Nat.reduceLT, Nat.reduceSub]
      refine TAIL _ ?_
      simp [e3]
    · rw [if_neg hbad] at e3
      by_cases he : e = 0
      · have hkd : ¬ n.kind = 2 := fun h => hbad ⟨he, h⟩
        simp -implicitDefEqProofs only [leafA, innerA, nodeA, patchA, Leaf.cells, Inner.cells, Node.cells, decide_true, decide_false, hm, ix20, eq_true he, had, lq0, hkd, go_sem, Nat.reduceEqDiff, reduceIte, Nat.reduceAdd, Nat.reduceLeDiff, Nat.reduceLT, Nat.reduceSub]
        refine TAIL _ ?_
        simp [e3]
      · simp -implicitDefEqProofs only [leafA, innerA, nodeA, patchA, Leaf.cells, Inner.cells, Node.cells, decide_true, decide_false, hm, ix20, he, go_sem, Nat.reduceEqDiff, reduceIte, Nat.reduceAdd, Nat.reduceLeDiff, Nat.reduceLT, Nat.reduceSub]
        refine TAIL _ ?_
        simp [e3]
  · have hm : ((k : Nat) : Int).tmod 2 = 1 := by rw [Int.tmod_eq_emod_of_nonneg (by omega)]; omega
    rw [if_neg hm2] at e3
    by_cases hbad : e = 0 ∧ n.kind = 1
    · obtain ⟨he, hkd⟩ := hbad
      rw [if_pos ⟨he, hkd⟩] at e3
      simp -implicitDefEqProofs only [leafA, innerA, nodeA, patchA, Leaf.cells, Inner.cells, Node.cells, decide_true, decide_false, hm, ix21, eq_true he, had, lq0, eq_true hkd, go_sem, Nat.reduceEqDiff, reduceIte, Nat.reduceAdd, Nat.reduceLeDiff, Nat.reduceLT, Nat.reduceSub]
      refine TAIL _ ?_
      simp [e3]
    · rw [if_neg hbad] at e3
      by_cases he : e = 0
      · have hkd : ¬ n.kind = 1 := fun h => hbad ⟨he, h⟩
        simp -implicitDefEqProofs only [leafA, innerA, nodeA, patchA, Leaf.cells, Inner.cells, Node.cells, decide_true, decide_false, hm, ix21, eq_true he, had, lq0, hkd, go_sem, Nat.reduceEqDiff, reduceIte, Nat.reduceAdd, Nat.reduceLeDiff, Nat.reduceLT, Nat.reduceSub]
        refine TAIL _ ?_
        simp [e3]
      · simp -implicitDefEqProofs only [leafA, innerA, nodeA, patchA, Leaf.cells, Inner.cells, Node.cells, decide_true, decide_false, hm, ix21, he, go_sem, Nat.reduceEqDiff, reduceIte, Nat.reduceAdd, Nat.reduceLeDiff, Nat.reduceLT, Nat.reduceSub]
        refine TAIL _ ?_
        simp [e3]
end Go.Proofs.YtihhinbjhiankaaGreatDoor.Al

set_option linter.unusedSimpArgs false
set_option linter.unusedVariables false
namespace Go.Proofs.YtihhinbjhiankaaGreatDoor.Al
open Go
variable {S : Seat} {m : List ME} {I X : Nat → Prop} {w : World} {H : List Entry}

end Go.Proofs.YtihhinbjhiankaaGreatDoor.Al

set_option linter.unusedSimpArgs false
set_option linter.unusedVariables false
namespace Go.Proofs.YtihhinbjhiankaaGreatDoor.Al
open Go
variable {S : Seat} {m : List ME} {I X : Nat → Prop} {w : World} {H : List Entry}

/-- Some operations, then others by themselves. -/
theorem runW_then {T : List (Reg S)} {r : Option Nat} {N : Nat} {l2 : List IOper} {Q : St → Prop} : ∀ {l : List IOper} {st : St}, runW S T l (fun st => SRun S r N l2 Q st) st → SRun S r N (l ++ l2) Q st
  | [], st, h => by simpa [runW] using h
  | ⟨d, op, g, aft⟩ :: l, ⟨env, H⟩, h => by
    simp only [runW] at h
    split at h
    · rename_i hg
      split at h
      · rename_i f xs
        rcases h.sound with ⟨c, first, captured, R, h1, h2, h3, h4⟩ | ⟨id, R, h1, h3, h4⟩
        · exact .call (o := ⟨d, .call f xs, g, aft⟩) hg rfl h1 h2 h3 fun v H' hR => runW_then (h4 v H' hR)
        · exact .yield (o := ⟨d, .call f xs, g, aft⟩) hg rfl h1 h3 fun v H' hR => runW_then (h4 v H' hR)
      · rename_i f nm xs
        obtain ⟨t, v, c, R, rv, h1, h2, h3, h4, h5⟩ := h
        exact .invoke (o := ⟨d, .invoke f nm xs, g, aft⟩) hg rfl ⟨t, v, c, R, rv, h1, h2, h3, h4, fun v H' hR => runW_then (h5 v H' hR)⟩
      · split at h
        · rename_i v H' he
          exact .op (o := ⟨d, op, g, aft⟩) hg he (runW_then h)
        · exact h.elim
    · rename_i hg
      exact .skip (o := ⟨d, op, g, aft⟩) hg (runW_then h)
    · exact h.elim
theorem WP.regionAt (T : List (Reg S)) (n : Nat) {r : Option Nat} {N b : Nat} {l : List IOper} {Q : Exit → St → Prop} {st : St} (h : runW S T (l.take n) (fun st => SRun S r N (l.drop n) (Q .normal) st) st) : WP S r N b (.region l false) Q st :=
  WP.region (by have := runW_then h; rwa [List.take_append_drop] at this)

end Go.Proofs.YtihhinbjhiankaaGreatDoor.Al

set_option linter.unusedSimpArgs false
set_option linter.unusedVariables false
namespace Go.Proofs.YtihhinbjhiankaaGreatDoor.Al
open Go
attribute [local go_sem] W_mv W_pick W_alloc W_box W_build W_bslice W_load W_store W_bin W_isnil W_un W_convI W_convS W_mkiface W_mkfunc W_slice W_faddr W_iaddr W_idxA W_extract W_len W_min W_max W_append W_appendZ W_clear W_invoke thenQ_normal thenQ_exit thenQ_goto thenQ_ret blockQ_normal blockQ_ret blockQ_goto blockQ_exit wpc_skip wpc_region wpc_draw wpc_seq wpc_cond wpc_block wpc_exit wpc_goto wpc_label wpc_ret wpc_loop wpc_range wpc_scope condW_true condW_false condW_dec condW_any W_nil W_call resW_some evalOp Opd.ev updo_envL updo_none setL_cons setL_nil envL_cons Option.map_some Option.bind_some evBin evInt List.map_cons List.map_nil Option.pure_def Option.bind_eq_bind W_grd' grdW_tt grdW_ff grdW_tf grdW_ft grdW_tup grdW_dt grdW_df lgrdW_tup L_mv L_load L_bin L_un L_faddr L_iaddr L_nil L_call lresW_some upd_envL evUn beq_dec bne_dec leaves_ret1 leaves_ret0 leaves_end0 rowLen_ints load_iptr0 not_dec heap_get0 heap_get1 heap_set0 heap_set1 heap_len1 heap_app bslice1_int seen_ints seen_one0 bslice0_int Nat.sub_zero Bool.not_true Bool.not_false List.length_nil List.length_cons List.nil_append List.cons_append Nat.zero_add load_iptrA canon_ptrI canon_bool canon_tup canon_agg canon_ints' canon_ints0 rowLen_ints1 rowLen_octs seen_octs canon_octs' seen_intss seen_octss rowLen_nodes seen_nodes canon_nodes' rowLen_nodes3 seen_list cells_int oneIn_int cells_bool oneIn_bool cells_str oneIn_str cells_list oneIn_list cells_func oneIn_func cells_nilfunc oneIn_nilfunc cells_iptr oneIn_iptr cells_iface oneIn_iface cells_nilIface oneIn_nilIface cells_own cells_ptr cells_anybool oneIn_anybool cells_agg oneIn_own0 oneIn_own1 seenL1 seenM1 oneIn_ptr2 seenL2 oneIn_own3 seenL3 cells_ints oneIn_ints cells_octs oneIn_octs cells_intss oneIn_intss cells_octss oneIn_octss cells_nodes oneIn_nodes ldB0 ldA0 adB0 stB0 ldB1 ldA1 adB1 stB1 ldB2 ldA2 adB2 stB2 ldB3 ldA3 adB3 stB3 ldB4 ldA4 adB4 stB4 ldB5 ldA5 adB5 stB5 List.getElem?_cons_zero List.getElem?_cons_succ beq_self_eq_true splice List.take_zero List.take_succ_cons List.drop_zero List.drop_succ_cons List.append_nil List.set_cons_zero List.set_cons_succ List.all_cons List.all_nil Bool.and_self and_self and_true true_and Nat.lt_irrefl Nat.zero_lt_one Nat.le_refl fillA evNil notA Bool.false_eq_true evMin_int evMax_int Option.map_none freezeP_all_nil freezeP_all_cons frzE_box frzE_arr frzE_dead foldA List.foldlM_cons List.foldlM_nil callW_f lcallW_f ansW_fn ansW_own lansW_fn lansW_own ansW_none lansW_none tab_cons tab_nil dI_int dB_bool dO_octs dO_ints dO_list dO_nil dOs_nil dN_nodeA dLf_agg dIn_agg dN_agg dNs_nodes dNs_nil isI_int isB_bool isO_octs isO_nil isO_list isS_ints isS_nil isNs_nodes isNs_nil isN_nodeA isLf_agg isIn_agg isN_agg leaf_eta inner_eta node_eta leaf_zero inner_zero node_zero dP_agg isP_agg patch_eta decide_eq_true_eq decide_eq_false_iff_not eq_self forall_const true_implies false_implies Bool.not_eq_true' Bool.not_eq_false' Bool.true_eq_false implies_true ne_eq ldI ldIA adI AV.tup.injEq AV.agg.injEq List.cons.injEq AV.int.injEq AV.bool.injEq nodes_inj octs_inj ints_inj nil_nodes nil_octs nil_ints canon_nilL decide_eq_decide two_ne four_ne lendA_fn lendA_own lendA_none llendA_fn llendA_none false_and and_false Q_nil Q_l Q_g Q_h Q_grd qgrdW_b qgrdW_tup lightD_some heavyD_some readD_some fnD_some fnD_own fnD_none callL_f ownH_some litD_some litE_some Q_call Q_bslice H_call pendOk_nil pendOk_cons pastOk_nil pastOk_cons Q_mv Q_pick Q_bin Q_un Q_convI Q_mkfunc Q_extract Q_min Q_max Q_lenS Q_lenA Q_field Q_idxA Q_mkiface Q_tassert Q_alloc Q_box Q_store Q_mkslice Q_append Q_appendZ Q_copy Q_clear Q_build Q_load Q_nilck Q_isnil Q_convS Q_slice Q_faddr Q_iaddr Q_iaddrA Q_len H_alloc H_box H_bslice H_store H_mkslice H_append H_appendZ H_copy H_clear free_mv free_pick free_bin free_un free_convI free_mkfunc free_extract free_min free_max free_lenS free_lenA free_field free_idxA free_mkiface free_tassert free_build free_load free_nilck free_isnil free_convS free_slice free_faddr free_iaddr free_iaddrA free_len callW_y List.length_map List.length_set leaves_r evR_some evRess1 evRess2 evRess3 evRes_t evRes_c nz_kind nz_enc nz_cred nz_source nz_parent nz_ienc nz_hash nz_un true_or or_true bsl_node appI appO ixo_nodes canon_rowI canon_rowO not_false_eq_true not_true_eq_false ldE_a ldE_c adE_b stE_b onE_a onP_b bsl_zero
attribute [local go_sem low] condW_b grdW_b lgrdW_b ldP adP stP onO onPt
attribute [local simp] envL_cons envL_nil idb_int idb_bool idb_ints idb_nil idb_own idb_ptr idb_octs idb_nodes idb_leafA idb_innerA idb_nodeA idb_agg idb_tup idb_iptr idb_fn entB_dead entB_box
theorem firstE_at {ys : List (Node × Int)} {k : Nat} (hk : k < ys.length) (h0 : ∀ j (h : j < ys.length), j < k → ys[j].2 = 0) (h : ys[k].2 ≠ 0) : firstE ys = ys[k].2 := by
  unfold firstE
  have : ys.find? (fun p => decide (p.2 ≠ 0)) = some ys[k] := by
    rw [List.find?_eq_some_iff_getElem]
    refine ⟨by simpa using h, k, hk, rfl, fun j hj => ?_⟩
    simpa using h0 j (by omega) hj
  rw [this]
theorem firstE_none {ys : List (Node × Int)} (h0 : ∀ j (h : j < ys.length), ys[j].2 = 0) : firstE ys = 0 := by
  unfold firstE
  have : ys.find? (fun p => decide (p.2 ≠ 0)) = none := by
    rw [List.find?_eq_none]
    intro p hp
    obtain ⟨j, hj, rfl⟩ := List.getElem_of_mem hp
    simpa using h0 j hj
  rw [this]
theorem ysA_len (ys : List (Node × Int)) : ∀ x ∈ ys.map ysA, x.length = [30, 31].length := by
  intro x hx
  obtain ⟨y, _, rfl⟩ := List.mem_map.1 hx
  rfl
theorem appZn {H : List Entry} {id ver : Nat} {l : List Node} {k : Nat} (hH : H[id]? = some (.arr 8 ver (l.map nodeA ++ List.replicate k zeroA))) (h : l.length + k + 1 ≤ 4294967296) :
    evAppend H 8 160 (.own id ver 0 (l.length + k)) [.agg [.int .i64 0, .list true [], .list true [], .int .i64 0, .list true [], .list true [], .list true [], .list true []]] = some (.own id (ver + 1) 0 (l.length + k + 1), H.set id (.arr 8 (ver + 1) (l.map nodeA ++ List.replicate (k + 1) zeroA))) := by
  have h1 : szOk H 8 [zeroA] = true := rfl
  show evAppend _ _ _ _ [zeroA] = _
  rw [Al.app_own hH (by simp) (by unfold maxRow; simpa using h) (by decide) (by decide) (by simp) h1, List.take_of_length_le (by simp), List.append_assoc, ← List.replicate_succ']
  rfl
theorem canonZn {H : List Entry} {id ver n k : Nat} {l : List Node} (h : H[id]? = some (.arr 8 ver (l.map nodeA ++ List.replicate n zeroA))) : canon H (k + 3) (.own id ver 0 (l.length + n)) = nodes (l ++ List.replicate n .zero) := by
  have h2 : (freezeP all H)[id]? = some (.frz 8 ver (l.map nodeA ++ List.replicate n zeroA)) := by rw [freezeP_get, h]; rfl
  have h3 : ∀ x : Node, derefN (freezeP all H) (k + 2) (nodeA x) = nodeA x := fun x => encNode.norm _ _ x
  have h4 : derefN (freezeP all H) (k + 2) zeroA = nodeA .zero := zeroA_norm _ k
  rw [canon, derefN]
  simp only [h2, List.length_append, List.length_map, List.length_replicate, Nat.le_refl, and_self, if_true, List.drop_zero]
  rw [List.take_of_length_le (by simp), List.map_append, List.map_map, List.map_replicate, h4, nodes, List.map_append, List.map_replicate]
  congr 2
  exact List.map_congr_left fun x _ => h3 x
theorem entB_Zo (n ver : Nat) (l : List Node) (k : Nat) : EntB n (.arr 8 ver (l.map nodeA ++ List.replicate k zeroA)) := by
  intro x hx y hy
  rcases List.mem_append.1 hx with h | h
  · exact encNode.entB n 0 8 l x h y hy
  · rw [(List.mem_replicate.1 h).2] at hy
    simp only [zeroA, AV.cells, List.mem_cons, List.not_mem_nil, or_false] at hy
    rcases hy with rfl | rfl | rfl | rfl | rfl | rfl | rfl | rfl <;> simp 
/-- The heap of octets.Get. -/
def getG (ns : List Node) (k : Nat) (e : Entry) : List Entry := [.box [.list true []], .box [.int .i64 0], .box [.own 3 k 0 k], .arr 8 k ((ns.take k).map nodeA), e]
theorem ysF_ok : ∀ (f k : Nat) (v : List Int), Oct v → ∀ p ∈ ysF f k v, p.1.Ok
  | 0, _, _, _, p, hp => by simp [ysF] at hp
  | f + 1, k, v, hv, p, hp => by
    unfold ysF at hp
    split at hp
    · cases hp
    · split at hp
      · rw [List.mem_singleton.1 hp]; exact .zero
      · rcases List.mem_cons.1 hp with rfl | hp
        · exact nget_ok hv
        · exact ysF_ok f (k + 1) _ (nget_rest hv).1 p hp
theorem padT_ok {t : List Node} (h : ∀ n ∈ t, n.Ok) (h7 : t.length ≤ 127) : Tree.Ok (padT t) := by
  refine ⟨?_, fun n hn => ?_⟩
  · rw [Small, padT_len h7]
    have := (pad_whole t.length).le; omega
  · unfold padT at hn
    rcases List.mem_append.1 hn with hn | hn
    · exact h n hn
    · rw [(List.mem_replicate.1 hn).2]; exact .zero
set_option maxRecDepth 100000 in
set_option maxHeartbeats 2000000 in
theorem oget_spec (b : List Int) (hb : Oct b) (hl : b.length ≤ 4294967295) : Fun seat 327 [octs b] (.tup [nodes (getT b).1, .int .i64 (getT b).2]) := by
  obtain ⟨o1, o2⟩ := gbytes_oct hb
  have sub := (gbytes_sub b).1.1
  rcases hg : gbytes b with ⟨v, r, e⟩
  have hT : getT b = if e ≠ 0 then ([], e) else if r ≠ [] then ([], 2) else getK v := by unfold getT; rw [hg]
  rw [hg] at o1 o2 sub
  simp only at o1 o2 sub
  rw [hT]
  clear hT
  by_cases he : e = 0
  rotate_left
  · rw [if_pos he]
    refine Fun.of0R [r192] told327 (by simp [il327]) (by simp [idb_patchA]) (by simp [idb_patchA]) 4 ?_
    simp -implicitDefEqProofs only [il327, List.zipIdx_cons, List.zipIdx_nil, leafA, innerA, nodeA, patchA, Leaf.cells, Inner.cells, Node.cells, r192_c, r192_ask, decide_true, decide_false, hb, hg, he, ne_eq, not_false_eq_true, go_sem, Nat.reduceEqDiff, reduceIte, Nat.reduceAdd, Nat.reduceLeDiff, Nat.reduceLT, Nat.reduceSub]
    try exact ⟨rfl, rfl⟩
  rw [if_neg (not_not_intro he)]
  by_cases hr : r = []
  rotate_left
  · rw [if_pos hr]
    have h1 : (r.length : Int) > 0 := by have := List.length_pos_iff.2 hr; omega
    refine Fun.of0R [r192] told327 (by simp [il327]) (by simp [idb_patchA]) (by simp [idb_patchA]) 4 ?_
    simp -implicitDefEqProofs only [il327, List.zipIdx_cons, List.zipIdx_nil, leafA, innerA, nodeA, patchA, Leaf.cells, Inner.cells, Node.cells, r192_c, r192_ask, decide_true, decide_false, hb, hg, he, h1, ne_eq, not_true_eq_false, go_sem, Nat.reduceEqDiff, reduceIte, Nat.reduceAdd, Nat.reduceLeDiff, Nat.reduceLT, Nat.reduceSub]
    try exact ⟨rfl, rfl⟩
  rw [if_neg (not_not_intro hr)]
  subst hr
  have hr0 : ¬ ((([] : List Int).length : Nat) : Int) > 0 := by simp
  by_cases hv : v = []
  · subst hv
    unfold getK
    rw [if_pos rfl]
    refine Fun.of0R [r192] told327 (by simp [il327]) (by simp [idb_patchA]) (by simp [idb_patchA]) 4 ?_
    simp -implicitDefEqProofs only [il327, List.zipIdx_cons, List.zipIdx_nil, leafA, innerA, nodeA, patchA, Leaf.cells, Inner.cells, Node.cells, r192_c, r192_ask, decide_true, decide_false, hb, hg, he, List.length_nil, Int.natCast_zero, Int.lt_irrefl, ne_eq, not_true_eq_false, go_sem, Nat.reduceEqDiff, reduceIte, Nat.reduceAdd, Nat.reduceLeDiff, Nat.reduceLT, Nat.reduceSub]
    try exact ⟨rfl, rfl⟩
  have hv0 : ¬ (v.length : Int) = 0 := by have := List.length_pos_iff.2 hv; omega
  have hyl : (ysI v).length ≤ 128 := ysF_len _ _ _
  have hy0 : 0 < (ysI v).length := by
    unfold ysI ysF
    rw [if_neg hv, if_neg (by decide)]
    simp
  have hK0 : getK v = if firstE (ysI v) ≠ 0 then ([], firstE (ysI v)) else if (nodeAt ((ysI v).map Prod.fst) (((ysI v).map Prod.fst).length - 1)).kind = 0 then ([], 6) else if ¬ NamedT (padT ((ysI v).map Prod.fst)) then ([], 8) else (padT ((ysI v).map Prod.fst), 0) := by
    conv => lhs; unfold getK
    rw [if_neg hv]
  obtain ⟨R, hR⟩ : ∃ R, getK v = R := ⟨_, rfl⟩
  rw [hR] at hK0 ⊢
  clear hR
  have hlen := fun (k : Nat) (e : Entry) => (rfl : (getG ((ysI v).map Prod.fst) k e).length = 5)
  have gives := nodes1_gives v o1 (by omega) 4
  have nspec := nodes_spec v
  obtain ⟨ys, hys⟩ : ∃ ys, ysI v = ys := ⟨_, rfl⟩
  rw [hys] at hyl hy0 hK0 gives
  obtain ⟨ns, hns⟩ : ∃ ns, ys.map Prod.fst = ns := ⟨_, rfl⟩
  have hnl : ns.length = ys.length := by rw [← hns]; simp
  have hnat : ∀ k (h : k < ys.length), ns[k]'(by omega) = ys[k].1 := fun k h => by simp [← hns]
  rw [hns] at hK0
  refine Fun.of0W told327 (by simp [il327]) (by simp ) (by simp ) 4 ?_
  simp only [il327, List.zipIdx_cons, List.zipIdx_nil]
  refine WP.seqR [] fun K hK => ?_
  simp -implicitDefEqProofs only [leafA, innerA, nodeA, patchA, Leaf.cells, Inner.cells, Node.cells, decide_true, decide_false, go_sem, Nat.reduceEqDiff, reduceIte, Nat.reduceAdd, Nat.reduceLeDiff, Nat.reduceLT, Nat.reduceSub]
  refine hK _ ?_
  clear hK K
  refine WP.seqR [r192] fun K hK => ?_
  simp -implicitDefEqProofs only [leafA, innerA, nodeA, patchA, Leaf.cells, Inner.cells, Node.cells, r192_c, r192_ask, decide_true, decide_false, hb, hg, go_sem, Nat.reduceEqDiff, reduceIte, Nat.reduceAdd, Nat.reduceLeDiff, Nat.reduceLT, Nat.reduceSub]
  refine hK _ ?_
  clear hK K
  refine WP.seqR [] fun K hK => ?_
  simp -implicitDefEqProofs only [leafA, innerA, nodeA, patchA, Leaf.cells, Inner.cells, Node.cells, decide_true, decide_false, he, ne_eq, not_true_eq_false, List.length_nil, Int.natCast_zero, Int.lt_irrefl, hv0, go_sem, Nat.reduceEqDiff, reduceIte, Nat.reduceAdd, Nat.reduceLeDiff, Nat.reduceLT, Nat.reduceSub]
  refine hK _ ?_
  clear hK K
  refine WP.seqR [] fun K hK => ?_
  simp -implicitDefEqProofs only [leafA, innerA, nodeA, patchA, Leaf.cells, Inner.cells, Node.cells, decide_true, decide_false, go_sem, Nat.reduceEqDiff, reduceIte, Nat.reduceAdd, Nat.reduceLeDiff, Nat.reduceLT, Nat.reduceSub]
  refine hK _ (WP.adoptB 2 0 8 (cs := [.list true []]) rfl rfl ?_)
  clear hK K
  refine WP.seq (WP.seqR [] fun K hK => ?_)
  simp -implicitDefEqProofs only [leafA, innerA, nodeA, patchA, Leaf.cells, Inner.cells, Node.cells, decide_true, decide_false, List.set_cons_succ, List.set_cons_zero, List.length_cons, List.length_nil, List.cons_append, List.nil_append, go_sem, Nat.reduceEqDiff, reduceIte, Nat.reduceAdd, Nat.reduceLeDiff, Nat.reduceLT, Nat.reduceSub]
  refine Callee.plain (Callable.of told343) (nspec _) ?_
  rintro _ _ ⟨rfl, rfl⟩
  simp -implicitDefEqProofs only [leafA, innerA, nodeA, patchA, Leaf.cells, Inner.cells, Node.cells, decide_true, decide_false, List.length_cons, List.length_nil, List.cons_append, List.nil_append, go_sem, Nat.reduceEqDiff, reduceIte, Nat.reduceAdd, Nat.reduceLeDiff, Nat.reduceLT, Nat.reduceSub]
  refine hK _ (WP.block ?_)
  clear hK K
  refine WP.rangeP 4 (.box [octs v]) (ys.map ysA) (c := 352) (cap := [.ptr 4 0]) (by simp only [go_sem, Nat.reduceEqDiff, reduceIte, Nat.reduceAdd, Nat.reduceLeDiff, Nat.reduceLT, Nat.reduceSub]) (Callable.of told352) gives (ysA_len ys)
    (fun k e => getG ns k e) (fun k => ∀ j (h : j < ys.length), j < k → ys[j].2 = 0) (by simp) (fun _ _ => rfl) (fun _ _ => rfl) (fun _ _ _ => rfl) (fun _ _ h => absurd h (Nat.not_lt_zero _)) rfl ?_ ?_
  · intro k hk e hP l T b hb
    have hk' : k < ys.length := by simpa using hk
    rw [List.getElem_map]
    simp only [setPs, ysA, getG]
    refine wpc_soundR [] ?_
    simp -implicitDefEqProofs only [leafA, innerA, nodeA, patchA, Leaf.cells, Inner.cells, Node.cells, decide_true, decide_false, List.cons_append, List.nil_append, go_sem, Nat.reduceEqDiff, reduceIte, Nat.reduceAdd, Nat.reduceLeDiff, Nat.reduceLT, Nat.reduceSub]
    refine ⟨_, rfl, fun T' hT' => ?_⟩
    obtain ⟨n, hn⟩ : ∃ n, ys[k].1 = n := ⟨_, rfl⟩
    obtain ⟨en, hen⟩ : ∃ en, ys[k].2 = en := ⟨_, rfl⟩
    rw [hn, hen]
    by_cases hen0 : en = 0
    · subst hen0
      have lt : (T' ++ [Entry.box [AV.int IntKind.i64 n.kind, octs n.leaf.enc, octs n.leaf.cred, AV.int IntKind.i64 n.leaf.source, octs n.leaf.parent, octs n.inner.enc, octs n.inner.hash, ints n.inner.unmerged]])[T.length]? = some (.box [AV.int IntKind.i64 n.kind, octs n.leaf.enc, octs n.leaf.cred, AV.int IntKind.i64 n.leaf.source, octs n.leaf.parent, octs n.inner.enc, octs n.inner.hash, ints n.inner.unmerged]) := by rw [← hT']; simp
      have sn : ∀ (a b c d e' B : Entry) (T : List Entry), seen (a :: b :: c :: d :: e' :: (T ++ [B, .arr 8 0 [.agg [AV.int IntKind.i64 n.kind, octs n.leaf.enc, octs n.leaf.cred, AV.int IntKind.i64 n.leaf.source, octs n.leaf.parent, octs n.inner.enc, octs n.inner.hash, ints n.inner.unmerged]]])) (.own (T.length + 1 + 1 + 1 + 1 + 1 + 1) 0 0 1) = some [.agg [AV.int IntKind.i64 n.kind, octs n.leaf.enc, octs n.leaf.cred, AV.int IntKind.i64 n.leaf.source, octs n.leaf.parent, octs n.inner.enc, octs n.inner.hash, ints n.inner.unmerged]] := fun _ _ _ _ _ _ _ => by simp [seen]
      have ht1 : ns.take (k + 1) = ns.take k ++ [n] := by rw [List.take_succ_eq_append_getElem (by omega), hnat k hk', hn]
      have htl : (ns.take k).length = k := by rw [List.length_take]; omega
      have ap : ∀ (a b c e' : Entry) (T : List Entry), evAppend (a :: b :: c :: .arr 8 k ((ns.take k).map nodeA) :: e' :: T) 8 160 (.own 3 k 0 k) [.agg [AV.int IntKind.i64 n.kind, octs n.leaf.enc, octs n.leaf.cred, AV.int IntKind.i64 n.leaf.source, octs n.leaf.parent, octs n.inner.enc, octs n.inner.hash, ints n.inner.unmerged]] = some (.own 3 (k + 1) 0 (k + 1), a :: b :: c :: .arr 8 (k + 1) ((ns.take (k + 1)).map nodeA) :: e' :: T) := fun a b c e' T => by
        have := encNode.app_owns (H := a :: b :: c :: .arr 8 k ((ns.take k).map nodeA) :: e' :: T) (id := 3) (ver := k) (l := ns.take k) (ys := [n]) (bytes := 160) rfl (by unfold maxRow; simp; omega) (by decide) (by simp)
        rw [htl] at this
        rw [ht1]
        have h2 : ((ns.take k) ++ [n]).length = k + 1 := by simp [htl]
        rw [h2] at this
        exact this
      refine wpc_soundR [] ?_
      simp -implicitDefEqProofs only [leafA, innerA, nodeA, patchA, Leaf.cells, Inner.cells, Node.cells, decide_true, decide_false, ne_eq, not_true_eq_false, lt, sn, ap, Option.bind_some, go_sem, Nat.reduceEqDiff, reduceIte, Nat.reduceAdd, Nat.reduceLeDiff, Nat.reduceLT, Nat.reduceSub]
      refine ⟨[.box [.list true []], .box [.int .i64 0], .box [.own 3 (k + 1) 0 (k + 1)], .arr 8 (k + 1) ((ns.take (k + 1)).map nodeA), e], _, rfl, rfl, fun i hi => List.getElem?_append_left hi, fun j h hj => ?_, rfl⟩
      by_cases hjk : j = k
      · subst hjk; exact hen
      · exact hP j h (by omega)
    · have hf := firstE_at hk' hP (by rw [hen]; exact hen0)
      rw [hen] at hf
      have hRe : R = ([], en) := by rw [hK0, if_pos (by rw [hf]; exact hen0), hf]
      subst hRe
      refine wpc_soundR [] ?_
      simp -implicitDefEqProofs only [leafA, innerA, nodeA, patchA, Leaf.cells, Inner.cells, Node.cells, decide_true, decide_false, ne_eq, hen0, not_false_eq_true, go_sem, Nat.reduceEqDiff, reduceIte, Nat.reduceAdd, Nat.reduceLeDiff, Nat.reduceLT, Nat.reduceSub]
      refine ⟨[.box [.list true []], .box [.int .i64 en], .box [.own 3 k 0 k], .arr 8 k ((ns.take k).map nodeA), e], T' ++ [.box [.int .i64 n.kind, octs n.leaf.enc, octs n.leaf.cred, .int .i64 n.leaf.source, octs n.leaf.parent, octs n.inner.enc, octs n.inner.hash, ints n.inner.unmerged]], rfl, rfl, fun i hi => List.getElem?_append_left hi, .ret, rfl, fun T3 => ?_⟩
      simp -implicitDefEqProofs only [leafA, innerA, nodeA, patchA, Leaf.cells, Inner.cells, Node.cells, decide_true, decide_false, Jump.leave, List.cons_append, List.nil_append, go_sem, Nat.reduceEqDiff, reduceIte, Nat.reduceAdd, Nat.reduceLeDiff, Nat.reduceLT, Nat.reduceSub]
  · intro hP e T
    rw [List.length_map] at hP ⊢
    have hf : firstE ys = 0 := firstE_none fun j hj => hP j hj hj
    rw [if_neg (by simpa using hf)] at hK0
    have htk : ns.take ys.length = ns := List.take_of_length_le (by omega)
    simp only [getG, htk]
    have h127 : ys.length ≤ 127 := by
      have := (ysF_all 128 0 v rfl (by omega) (bytes_of o1) (fun p hp => by
        have hp' : p ∈ ys := by rw [← hys]; exact hp
        obtain ⟨j, hj, rfl⟩ := List.getElem_of_mem hp'
        exact hP j hj hj)).2.1
      change (ysI v).length + 0 ≤ 127 at this
      rw [hys] at this; omega
    rw [← hnl] at hy0 hyl h127 ⊢
    have okp : Tree.Ok (padT ns) := padT_ok (fun n hn => by
      rw [← hns] at hn
      obtain ⟨p, hp, rfl⟩ := List.mem_map.1 hn
      exact ysF_ok 128 0 v o1 p (by change p ∈ ysI v; rw [hys]; exact hp)) h127
    clear hP hf htk gives
    have w2 : IntKind.i64.wrap ((ns.length : Int) - 1) = ((ns.length - 1 : Nat) : Int) := by rw [wrap64 _ (by omega) (by omega)]; omega
    obtain ⟨m, hm⟩ : ∃ m, ns.length - 1 = m := ⟨_, rfl⟩
    have hmn : m < ns.length := by omega
    rw [hm] at w2 hK0
    rw [nodeAt_lt hmn] at hK0
    simp -implicitDefEqProofs only [leafA, innerA, nodeA, patchA, Leaf.cells, Inner.cells, Node.cells, decide_true, decide_false, List.cons_append, List.nil_append, go_sem, Nat.reduceEqDiff, reduceIte, Nat.reduceAdd, Nat.reduceLeDiff, Nat.reduceLT, Nat.reduceSub]
    refine WP.seqR [] fun K hK => ?_
    have ix := fun (a b c e' : Entry) (T : List Entry) => index_nodes3 (G := e' :: T) (e0 := a) (e1 := b) (e2 := c) (ver := ns.length) (l := ns) hmn
    have ld : ∀ (a b c e' : Entry) (T : List Entry), evLoad (a :: b :: c :: .arr 8 ns.length (ns.map nodeA) :: e' :: T) false 1 (.eptr 3 ns.length m 0) = some (.int .i64 ns[m].kind) := fun a b c e' T => by
      have h3 : (ns.map nodeA)[m]? = some (nodeA ns[m]) := by simp [hmn]
      simp only [evLoad, window, List.getElem?_cons_succ, List.getElem?_cons_zero, h3, if_true]
      rfl
    have ad : ∀ (a b c e' : Entry) (T : List Entry), evAddr (a :: b :: c :: .arr 8 ns.length (ns.map nodeA) :: e' :: T) 0 (.eptr 3 ns.length m 0) = some (.eptr 3 ns.length m 0) := fun _ _ _ _ _ => by simp [evAddr, AV.oneIn]
    by_cases hkz : ns[m].kind = 0
    · rw [if_pos hkz] at hK0
      subst hK0
      simp -implicitDefEqProofs only [leafA, innerA, nodeA, patchA, Leaf.cells, Inner.cells, Node.cells, decide_true, decide_false, w2, ix, ad, ld, eq_true hkz, go_sem, Nat.reduceEqDiff, reduceIte, Nat.reduceAdd, Nat.reduceLeDiff, Nat.reduceLT, Nat.reduceSub]
    rw [if_neg hkz] at hK0
    simp -implicitDefEqProofs only [leafA, innerA, nodeA, patchA, Leaf.cells, Inner.cells, Node.cells, decide_true, decide_false, w2, ix, ad, ld, hkz, go_sem, Nat.reduceEqDiff, reduceIte, Nat.reduceAdd, Nat.reduceLeDiff, Nat.reduceLT, Nat.reduceSub]
    refine hK _ (WP.seq (WP.block ?_))
    clear hK K ix ld ad
    have pl := padT_len (t := ns) (by omega)
    have pg := pad_ge ns.length (by omega)
    have pw := pad_whole ns.length
    have pwl := pw.le
    refine WP.weakL [(2, .ptr 0 0), (3, .ptr 1 0), (7, .ptr 2 0)] ?_ ?_
    · simp only [envL_cons, Nat.reduceEqDiff, reduceIte, List.mem_cons, List.not_mem_nil, or_false, forall_eq_or_imp, forall_eq, weak_refl, and_self]
    refine WP.loopG (fun j => j ≤ padW ns.length - ns.length) (fun _ => [(2, .ptr 0 0), (3, .ptr 1 0), (7, .ptr 2 0)]) (fun j => [.box [.list true []], .box [.int .i64 0], .box [.own 3 (ns.length + j) 0 (ns.length + j)], .arr 8 (ns.length + j) (ns.map nodeA ++ List.replicate j zeroA)]) (fun j => padW ns.length - ns.length - j) 0 (Nat.zero_le _)
      (fun j _ => ⟨by simp, by simp , fun e he => by (simp only [List.mem_cons, List.not_mem_nil, or_false] at he); (rcases he with rfl | rfl | rfl | rfl); (simp ); (simp ); (simp ); (exact entB_Zo _ _ _ _)⟩) (by simp ) ?_
    intro j hj
    have rl : ∀ (a b c : Entry), rowLen [a, b, c, .arr 8 (ns.length + j) (ns.map nodeA ++ List.replicate j zeroA)] (.own 3 (ns.length + j) 0 (ns.length + j)) = some (ns.length + j) := fun _ _ _ => by simp [rowLen, AV.oneIn]
    by_cases hlt : j < padW ns.length - ns.length
    · have hnw := pad_first (n := ns.length) (j := j) (by omega) hy0 (by omega)
      refine WP.seqR [r125] fun K hK => ?_
      simp -implicitDefEqProofs only [leafA, innerA, nodeA, patchA, Leaf.cells, Inner.cells, Node.cells, r125_c, r125_ask, decide_true, decide_false, rl, Option.bind_some, hnw, not_false_eq_true, go_sem, Nat.reduceEqDiff, reduceIte, Nat.reduceAdd, Nat.reduceLeDiff, Nat.reduceLT, Nat.reduceSub]
      refine hK _ (WP.block (WP.regionAt [] 2 ?_))
      clear hK K
      simp only [List.take_succ_cons, List.take_zero, List.drop_succ_cons, List.drop_zero]
      simp -implicitDefEqProofs only [leafA, innerA, nodeA, patchA, Leaf.cells, Inner.cells, Node.cells, decide_true, decide_false, go_sem, Nat.reduceEqDiff, reduceIte, Nat.reduceAdd, Nat.reduceLeDiff, Nat.reduceLT, Nat.reduceSub]
      refine SRun.lit (sz := 8) (xs := [zeroA]) rfl rfl (by simp [zeroA, AV.cells]) ?_
      have ap := fun (a b c : Entry) => appZn (H := [a, b, c, .arr 8 (ns.length + j) (ns.map nodeA ++ List.replicate j zeroA)]) (id := 3) (ver := ns.length + j) (l := ns) (k := j) rfl (by omega)
      unfold zeroA at ap
      refine runW_sound (T := []) ?_
      simp -implicitDefEqProofs only [leafA, innerA, nodeA, patchA, Leaf.cells, Inner.cells, Node.cells, decide_true, decide_false, zeroA, ap, go_sem, Nat.reduceEqDiff, reduceIte, Nat.reduceAdd, Nat.reduceLeDiff, Nat.reduceLT, Nat.reduceSub]
      exact ⟨j + 1, by omega, by omega, by simp , by simp [Nat.add_assoc, zeroA]⟩
    · have hje : ns.length + j = padW ns.length := by omega
      have hw : Whole ((ns.length + j : Nat) : Int) := by rw [hje]; exact pw
      have hpad : ns ++ List.replicate j Node.zero = padT ns := by unfold padT; rw [show padW ns.length - ns.length = j by omega]
      refine WP.seqR [r125] fun K hK => ?_
      simp -implicitDefEqProofs only [leafA, innerA, nodeA, patchA, Leaf.cells, Inner.cells, Node.cells, r125_c, r125_ask, decide_true, decide_false, rl, Option.bind_some, hw, not_true_eq_false, go_sem, Nat.reduceEqDiff, reduceIte, Nat.reduceAdd, Nat.reduceLeDiff, Nat.reduceLT, Nat.reduceSub]
      clear hK K
      refine WP.seqR [] fun K hK => ?_
      simp -implicitDefEqProofs only [leafA, innerA, nodeA, patchA, Leaf.cells, Inner.cells, Node.cells, decide_true, decide_false, go_sem, Nat.reduceEqDiff, reduceIte, Nat.reduceAdd, Nat.reduceLeDiff, Nat.reduceLT, Nat.reduceSub]
      refine Callee.lend (r := .bool (decide (NamedT (padT ns)))) 3 told329 ?_ (.bool _) ?_
      · rw [List.map_cons, List.map_nil, canonZn (k := 0) rfl, hpad]
        exact oNamed_spec _ okp
      by_cases hnm : NamedT (padT ns)
      · rw [if_neg (not_not_intro hnm)] at hK0
        subst hK0
        simp -implicitDefEqProofs only [leafA, innerA, nodeA, patchA, Leaf.cells, Inner.cells, Node.cells, decide_true, decide_false, hnm, not_true_eq_false, go_sem, Nat.reduceEqDiff, reduceIte, Nat.reduceAdd, Nat.reduceLeDiff, Nat.reduceLT, Nat.reduceSub]
        refine hK _ ?_
        refine wpc_soundR [] ?_
        simp -implicitDefEqProofs only [leafA, innerA, nodeA, patchA, Leaf.cells, Inner.cells, Node.cells, decide_true, decide_false, go_sem, Nat.reduceEqDiff, reduceIte, Nat.reduceAdd, Nat.reduceLeDiff, Nat.reduceLT, Nat.reduceSub]
        rw [← hpad]
        exact canonZn (k := 0) rfl
      · rw [if_pos hnm] at hK0
        subst hK0
        simp -implicitDefEqProofs only [leafA, innerA, nodeA, patchA, Leaf.cells, Inner.cells, Node.cells, decide_true, decide_false, hnm, not_false_eq_true, go_sem, Nat.reduceEqDiff, reduceIte, Nat.reduceAdd, Nat.reduceLeDiff, Nat.reduceLT, Nat.reduceSub]
noncomputable def r327 : Reg seat := .of told327 (ask1 (fun a0' => isO a0' ∧ Oct (dO a0') ∧ (dO a0').length ≤ 4294967295) fun a0' => .fn (.tup [nodes (getT (dO a0')).1, .int .i64 (getT (dO a0')).2])) (ask1_ok fun a0' h => SaidOk.fn (Fun.weak (.cons (isO.weak h.1) .nil) (oget_spec _ h.2.1 h.2.2)))
theorem r327_c : r327.c = 327 := rfl
open Classical in
theorem r327_ask (a0' : AV) : r327.ask [a0'] = if isO a0' ∧ Oct (dO a0') ∧ (dO a0').length ≤ 4294967295 then some (Said.fn (.tup [nodes (getT (dO a0')).1, .int .i64 (getT (dO a0')).2])) else none := by unfold r327 Reg.of ask1; exact ite_cl
end Go.Proofs.YtihhinbjhiankaaGreatDoor.Al

set_option linter.unusedSimpArgs false
set_option linter.unusedVariables false
namespace Go.Proofs.YtihhinbjhiankaaGreatDoor.Al
open Go
attribute [local go_sem] W_mv W_pick W_alloc W_box W_build W_bslice W_load W_store W_bin W_isnil W_un W_convI W_convS W_mkiface W_mkfunc W_slice W_faddr W_iaddr W_idxA W_extract W_len W_min W_max W_append W_appendZ W_clear W_invoke thenQ_normal thenQ_exit thenQ_goto thenQ_ret blockQ_normal blockQ_ret blockQ_goto blockQ_exit wpc_skip wpc_region wpc_draw wpc_seq wpc_cond wpc_block wpc_exit wpc_goto wpc_label wpc_ret wpc_loop wpc_range wpc_scope condW_true condW_false condW_dec condW_any W_nil W_call resW_some evalOp Opd.ev updo_envL updo_none setL_cons setL_nil envL_cons Option.map_some Option.bind_some evBin evInt List.map_cons List.map_nil Option.pure_def Option.bind_eq_bind W_grd' grdW_tt grdW_ff grdW_tf grdW_ft grdW_tup grdW_dt grdW_df lgrdW_tup L_mv L_load L_bin L_un L_faddr L_iaddr L_nil L_call lresW_some upd_envL evUn beq_dec bne_dec leaves_ret1 leaves_ret0 leaves_end0 rowLen_ints load_iptr0 not_dec heap_get0 heap_get1 heap_set0 heap_set1 heap_len1 heap_app bslice1_int seen_ints seen_one0 bslice0_int Nat.sub_zero Bool.not_true Bool.not_false List.length_nil List.length_cons List.nil_append List.cons_append Nat.zero_add load_iptrA canon_ptrI canon_bool canon_tup canon_agg canon_ints' canon_ints0 rowLen_ints1 rowLen_octs seen_octs canon_octs' seen_intss seen_octss rowLen_nodes seen_nodes canon_nodes' rowLen_nodes3 seen_list cells_int oneIn_int cells_bool oneIn_bool cells_str oneIn_str cells_list oneIn_list cells_func oneIn_func cells_nilfunc oneIn_nilfunc cells_iptr oneIn_iptr cells_iface oneIn_iface cells_nilIface oneIn_nilIface cells_own cells_ptr cells_anybool oneIn_anybool cells_agg oneIn_own0 oneIn_own1 seenL1 seenM1 oneIn_ptr2 seenL2 oneIn_own3 seenL3 cells_ints oneIn_ints cells_octs oneIn_octs cells_intss oneIn_intss cells_octss oneIn_octss cells_nodes oneIn_nodes ldB0 ldA0 adB0 stB0 ldB1 ldA1 adB1 stB1 ldB2 ldA2 adB2 stB2 ldB3 ldA3 adB3 stB3 ldB4 ldA4 adB4 stB4 ldB5 ldA5 adB5 stB5 List.getElem?_cons_zero List.getElem?_cons_succ beq_self_eq_true splice List.take_zero List.take_succ_cons List.drop_zero List.drop_succ_cons List.append_nil List.set_cons_zero List.set_cons_succ List.all_cons List.all_nil Bool.and_self and_self and_true true_and Nat.lt_irrefl Nat.zero_lt_one Nat.le_refl fillA evNil notA Bool.false_eq_true evMin_int evMax_int Option.map_none freezeP_all_nil freezeP_all_cons frzE_box frzE_arr frzE_dead foldA List.foldlM_cons List.foldlM_nil callW_f lcallW_f ansW_fn ansW_own lansW_fn lansW_own ansW_none lansW_none tab_cons tab_nil dI_int dB_bool dO_octs dO_ints dO_list dO_nil dOs_nil dN_nodeA dLf_agg dIn_agg dN_agg dNs_nodes dNs_nil isI_int isB_bool isO_octs isO_nil isO_list isS_ints isS_nil isNs_nodes isNs_nil isN_nodeA isLf_agg isIn_agg isN_agg leaf_eta inner_eta node_eta leaf_zero inner_zero node_zero dP_agg isP_agg patch_eta decide_eq_true_eq decide_eq_false_iff_not eq_self forall_const true_implies false_implies Bool.not_eq_true' Bool.not_eq_false' Bool.true_eq_false implies_true ne_eq ldI ldIA adI AV.tup.injEq AV.agg.injEq List.cons.injEq AV.int.injEq AV.bool.injEq nodes_inj octs_inj ints_inj nil_nodes nil_octs nil_ints canon_nilL decide_eq_decide two_ne four_ne lendA_fn lendA_own lendA_none llendA_fn llendA_none false_and and_false Q_nil Q_l Q_g Q_h Q_grd qgrdW_b qgrdW_tup lightD_some heavyD_some readD_some fnD_some fnD_own fnD_none callL_f ownH_some litD_some litE_some Q_call Q_bslice H_call pendOk_nil pendOk_cons pastOk_nil pastOk_cons Q_mv Q_pick Q_bin Q_un Q_convI Q_mkfunc Q_extract Q_min Q_max Q_lenS Q_lenA Q_field Q_idxA Q_mkiface Q_tassert Q_alloc Q_box Q_store Q_mkslice Q_append Q_appendZ Q_copy Q_clear Q_build Q_load Q_nilck Q_isnil Q_convS Q_slice Q_faddr Q_iaddr Q_iaddrA Q_len H_alloc H_box H_bslice H_store H_mkslice H_append H_appendZ H_copy H_clear free_mv free_pick free_bin free_un free_convI free_mkfunc free_extract free_min free_max free_lenS free_lenA free_field free_idxA free_mkiface free_tassert free_build free_load free_nilck free_isnil free_convS free_slice free_faddr free_iaddr free_iaddrA free_len callW_y List.length_map List.length_set leaves_r evR_some evRess1 evRess2 evRess3 evRes_t evRes_c nz_kind nz_enc nz_cred nz_source nz_parent nz_ienc nz_hash nz_un true_or or_true bsl_node appI appO ixo_nodes canon_rowI canon_rowO not_false_eq_true not_true_eq_false ldE_a ldE_c adE_b stE_b onE_a onP_b bsl_zero
attribute [local go_sem low] condW_b grdW_b lgrdW_b ldP adP stP onO onPt
attribute [local simp] envL_cons envL_nil idb_int idb_bool idb_ints idb_nil idb_own idb_ptr idb_octs idb_nodes idb_leafA idb_innerA idb_nodeA idb_agg idb_tup idb_iptr idb_fn entB_dead entB_box
def t15 : List Node := [n9, .zero, n9]
theorem t15_ok : Tree.Ok t15 := ⟨by simp [Small, t15], by simp [t15, Node.Ok.zero, n9_ok]⟩
theorem awake15_facts : putT t15 = [13, 1, 1, 1, 7, 0, 1, 0, 1, 1, 1, 7, 0, 1] ∧ getT [13, 1, 1, 1, 7, 0, 1, 0, 1, 1, 1, 7, 0, 1] = (t15, 0) ∧ getT [0] = ([], 5) ∧ getT [1, 0] = ([], 6) ∧ putT [] = [0] ∧ NamedT t15 := by
  refine ⟨?_, ?_, ?_, ?_, ?_, ?_⟩ <;> decide +kernel
theorem oct14 : Oct [13, 1, 1, 1, 7, 0, 1, 0, 1, 1, 1, 7, 0, 1] := ⟨by simp [Small], by simp; decide⟩
theorem oct1 : Oct [0] := ⟨by simp [Small], by simp; decide⟩
theorem oct2 : Oct [1, 0] := ⟨by simp [Small], by simp; decide⟩
theorem bs15 (H : List Entry) (a b : Int) : evBslice H 1 2 (.int .u8 0) [(0, .int .u8 a), (1, .int .u8 b)] = some (.own H.length 0 0 2, H ++ [.arr 1 0 [.int .u8 a, .int .u8 b]]) := (rfl)
theorem bsl_t15 (H : List Entry) : evBslice H 8 3 (.agg [.int .i64 0, .list true [], .list true [], .int .i64 0, .list true [], .list true [], .list true [], .list true []]) [(0, .agg [.int .i64 n9.kind, octs n9.leaf.enc, octs n9.leaf.cred, .int .i64 n9.leaf.source, octs n9.leaf.parent, octs n9.inner.enc, octs n9.inner.hash, ints n9.inner.unmerged]), (1, .agg [.int .i64 0, .list true [], .list true [], .int .i64 0, .list true [], .list true [], .list true [], .list true []]), (2, .agg [.int .i64 n9.kind, octs n9.leaf.enc, octs n9.leaf.cred, .int .i64 n9.leaf.source, octs n9.leaf.parent, octs n9.inner.enc, octs n9.inner.hash, ints n9.inner.unmerged])] = some (.own H.length 0 0 3, H ++ [.arr 8 0 [.agg [.int .i64 n9.kind, octs n9.leaf.enc, octs n9.leaf.cred, .int .i64 n9.leaf.source, octs n9.leaf.parent, octs n9.inner.enc, octs n9.inner.hash, ints n9.inner.unmerged], .agg [.int .i64 0, .list true [], .list true [], .int .i64 0, .list true [], .list true [], .list true [], .list true []], .agg [.int .i64 n9.kind, octs n9.leaf.enc, octs n9.leaf.cred, .int .i64 n9.leaf.source, octs n9.leaf.parent, octs n9.inner.enc, octs n9.inner.hash, ints n9.inner.unmerged]]]) := (rfl)
theorem frzE_frz15 (a b : Nat) (c : List AV) : (Entry.frz a b c).frzE = .frz a b c := (rfl)
set_option maxHeartbeats 2000000 in
theorem awake15_spec : Fun seat 326 [] (.bool true) := by
  obtain ⟨f1, f2, f3, f4, f5, f6⟩ := awake15_facts
  refine Fun.of0W told326 (by simp [il326]) (by simp) (by simp ) 4 ?_
  simp only [il326, List.zipIdx_nil, List.map_nil]
  refine WP.seqR [] fun K hK => ?_
  simp only [go_sem, Nat.reduceEqDiff, reduceIte, Nat.reduceAdd, Nat.reduceLeDiff, Nat.reduceLT, Nat.reduceSub]
  refine hK _ (WP.seqR [] ?_)
  clear hK K; intro K hK
  simp only [leafA, innerA, nodeA, patchA, Leaf.cells, Inner.cells, Node.cells, go_sem, Nat.reduceEqDiff, reduceIte, Nat.reduceAdd, Nat.reduceLeDiff, Nat.reduceLT, Nat.reduceSub]
  refine hK _ (WP.freeze all (WP.derefB 1 2 rfl ?_))
  clear hK K
  refine WP.weakL [(1, .ptr 1 0)] ?_ ?_
  · simp only [envL_cons, Nat.reduceEqDiff, reduceIte, List.mem_cons, List.not_mem_nil, or_false, forall_eq_or_imp, forall_eq, weak_refl, and_self]
  have e : ((freezeP all [Entry.arr 1 0 [AV.int .u8 7], .box [.int .i64 1, .own 0 0 0 1, .list true [], .int .i64 1, .list true [], .list true [], .list true [], .list true []]]).set 1
    (.box ([AV.int .i64 1, .own 0 0 0 1, .list true [], .int .i64 1, .list true [], .list true [], .list true [], .list true []].map (derefN (freezeP all [Entry.arr 1 0 [AV.int .u8 7], .box [.int .i64 1, .own 0 0 0 1, .list true [], .int .i64 1, .list true [], .list true [], .list true [], .list true []]]) 2)))) =
    [.frz 1 0 [AV.int .u8 7], .box [.int .i64 n9.kind, octs n9.leaf.enc, octs n9.leaf.cred, .int .i64 n9.leaf.source, octs n9.leaf.parent, octs n9.inner.enc, octs n9.inner.hash, ints n9.inner.unmerged]] := rfl
  rw [e]
  refine WP.seqR [] fun K hK => ?_
  simp only [leafA, innerA, nodeA, patchA, Leaf.cells, Inner.cells, Node.cells, bsl_t15, go_sem, Nat.reduceEqDiff, reduceIte, Nat.reduceAdd, Nat.reduceLeDiff, Nat.reduceLT, Nat.reduceSub]
  refine hK _ (WP.freeze all (WP.deref 2 3 ?_))
  clear hK K e
  have rB : derefN [.frz 1 0 [AV.int .u8 7], .box [.int .i64 n9.kind, octs n9.leaf.enc, octs n9.leaf.cred, .int .i64 n9.leaf.source, octs n9.leaf.parent, octs n9.inner.enc, octs n9.inner.hash, ints n9.inner.unmerged], .frz 8 0 [.agg [.int .i64 n9.kind, octs n9.leaf.enc, octs n9.leaf.cred, .int .i64 n9.leaf.source, octs n9.leaf.parent, octs n9.inner.enc, octs n9.inner.hash, ints n9.inner.unmerged], .agg [.int .i64 0, .list true [], .list true [], .int .i64 0, .list true [], .list true [], .list true [], .list true []], .agg [.int .i64 n9.kind, octs n9.leaf.enc, octs n9.leaf.cred, .int .i64 n9.leaf.source, octs n9.leaf.parent, octs n9.inner.enc, octs n9.inner.hash, ints n9.inner.unmerged]]] 3 (.own 2 0 0 3) = nodes t15 := rfl
  refine WP.weakL [(2, nodes t15)] ?_ ?_
  · simp only [upd_envL, freezeP_all_cons, freezeP_all_nil, frzE_frz15, frzE_box, frzE_arr, envL_cons, Nat.reduceEqDiff, reduceIte, rB, List.mem_cons, List.not_mem_nil, or_false, forall_eq_or_imp, forall_eq, weak_refl, and_self]
  simp only [freezeP_all_cons, freezeP_all_nil, frzE_frz15, frzE_box, frzE_arr]
  clear rB
  have ot := t15_ok
  have o14 := oct14
  have l14 : ([13, 1, 1, 1, 7, 0, 1, 0, 1, 1, 1, 7, 0, 1] : List Int).length ≤ 4294967295 := by decide
  refine WP.seqR [r331, r327] fun K hK => ?_
  simp -implicitDefEqProofs only [leafA, innerA, nodeA, patchA, Leaf.cells, Inner.cells, Node.cells, r331_c, r331_ask, r327_c, r327_ask, decide_true, decide_false, ot, f1, o14, l14, f2, go_sem, Nat.reduceEqDiff, reduceIte, Nat.reduceAdd, Nat.reduceLeDiff, Nat.reduceLT, Nat.reduceSub]
  refine hK _ ?_
  clear hK K
  refine WP.seqR [] fun K hK => ?_
  simp -implicitDefEqProofs only [leafA, innerA, nodeA, patchA, Leaf.cells, Inner.cells, Node.cells, decide_true, decide_false, go_sem, Nat.reduceEqDiff, reduceIte, Nat.reduceAdd, Nat.reduceLeDiff, Nat.reduceLT, Nat.reduceSub]
  refine Callee.frz 1 told327 (r := .tup [nodes [], .int .i64 5]) (by
    have := oget_spec [0] oct1 (by decide)
    rw [f3] at this; exact this) ?_
  simp only [freezeP_all_cons, freezeP_all_nil, frzE_frz15, frzE_box, frzE_arr]
  simp -implicitDefEqProofs only [leafA, innerA, nodeA, patchA, Leaf.cells, Inner.cells, Node.cells, decide_true, decide_false, go_sem, Nat.reduceEqDiff, reduceIte, Nat.reduceAdd, Nat.reduceLeDiff, Nat.reduceLT, Nat.reduceSub]
  refine hK _ ?_
  clear hK K
  refine WP.seqR [] fun K hK => ?_
  simp -implicitDefEqProofs only [leafA, innerA, nodeA, patchA, Leaf.cells, Inner.cells, Node.cells, decide_true, decide_false, bs15, go_sem, Nat.reduceEqDiff, reduceIte, Nat.reduceAdd, Nat.reduceLeDiff, Nat.reduceLT, Nat.reduceSub]
  refine Callee.frz 1 told327 (r := .tup [nodes [], .int .i64 6]) (by
    have := oget_spec [1, 0] oct2 (by decide)
    rw [f4] at this; exact this) ?_
  simp only [freezeP_all_cons, freezeP_all_nil, frzE_frz15, frzE_box, frzE_arr]
  simp -implicitDefEqProofs only [leafA, innerA, nodeA, patchA, Leaf.cells, Inner.cells, Node.cells, decide_true, decide_false, go_sem, Nat.reduceEqDiff, reduceIte, Nat.reduceAdd, Nat.reduceLeDiff, Nat.reduceLT, Nat.reduceSub]
  refine hK _ (wpc_soundR [r331, r106, r329] ?_)
  clear hK K
  have on : Tree.Ok [] := .nil
  have m1 : [AV.int .u8 0].mapM byteOf = some [0] := bytes_octs [0]
  simp -implicitDefEqProofs only [leafA, innerA, nodeA, patchA, Leaf.cells, Inner.cells, Node.cells, r331_c, r331_ask, r106_c, r106_ask, r329_c, r329_ask, decide_true, decide_false, ot, on, f5, f6, m1, evStr_eql, go_sem, Nat.reduceEqDiff, reduceIte, Nat.reduceAdd, Nat.reduceLeDiff, Nat.reduceLT, Nat.reduceSub]
noncomputable def r326 : Reg seat := .of told326 (ask0 (.fn (.bool true))) (ask0_ok (SaidOk.fn (awake15_spec)))
theorem r326_c : r326.c = 326 := rfl
theorem r326_ask : r326.ask [] = some (.fn (.bool true)) := rfl
end Go.Proofs.YtihhinbjhiankaaGreatDoor.Al

set_option linter.unusedSimpArgs false
set_option linter.unusedVariables false
namespace Go.Proofs.YtihhinbjhiankaaGreatDoor.Al
open Go
attribute [local go_sem] W_mv W_pick W_alloc W_box W_build W_bslice W_load W_store W_bin W_isnil W_un W_convI W_convS W_mkiface W_mkfunc W_slice W_faddr W_iaddr W_idxA W_extract W_len W_min W_max W_append W_appendZ W_clear W_invoke thenQ_normal thenQ_exit thenQ_goto thenQ_ret blockQ_normal blockQ_ret blockQ_goto blockQ_exit wpc_skip wpc_region wpc_draw wpc_seq wpc_cond wpc_block wpc_exit wpc_goto wpc_label wpc_ret wpc_loop wpc_range wpc_scope condW_true condW_false condW_dec condW_any W_nil W_call resW_some evalOp Opd.ev updo_envL updo_none setL_cons setL_nil envL_cons Option.map_some Option.bind_some evBin evInt List.map_cons List.map_nil Option.pure_def Option.bind_eq_bind W_grd' grdW_tt grdW_ff grdW_tf grdW_ft grdW_tup grdW_dt grdW_df lgrdW_tup L_mv L_load L_bin L_un L_faddr L_iaddr L_nil L_call lresW_some upd_envL evUn beq_dec bne_dec leaves_ret1 leaves_ret0 leaves_end0 rowLen_ints load_iptr0 not_dec heap_get0 heap_get1 heap_set0 heap_set1 heap_len1 heap_app bslice1_int seen_ints seen_one0 bslice0_int Nat.sub_zero Bool.not_true Bool.not_false List.length_nil List.length_cons List.nil_append List.cons_append Nat.zero_add load_iptrA canon_ptrI canon_bool canon_tup canon_agg canon_ints' canon_ints0 rowLen_ints1 rowLen_octs seen_octs canon_octs' seen_intss seen_octss rowLen_nodes seen_nodes canon_nodes' rowLen_nodes3 seen_list cells_int oneIn_int cells_bool oneIn_bool cells_str oneIn_str cells_list oneIn_list cells_func oneIn_func cells_nilfunc oneIn_nilfunc cells_iptr oneIn_iptr cells_iface oneIn_iface cells_nilIface oneIn_nilIface cells_own cells_ptr cells_anybool oneIn_anybool cells_agg oneIn_own0 oneIn_own1 seenL1 seenM1 oneIn_ptr2 seenL2 oneIn_own3 seenL3 cells_ints oneIn_ints cells_octs oneIn_octs cells_intss oneIn_intss cells_octss oneIn_octss cells_nodes oneIn_nodes ldB0 ldA0 adB0 stB0 ldB1 ldA1 adB1 stB1 ldB2 ldA2 adB2 stB2 ldB3 ldA3 adB3 stB3 ldB4 ldA4 adB4 stB4 ldB5 ldA5 adB5 stB5 List.getElem?_cons_zero List.getElem?_cons_succ beq_self_eq_true splice List.take_zero List.take_succ_cons List.drop_zero List.drop_succ_cons List.append_nil List.set_cons_zero List.set_cons_succ List.all_cons List.all_nil Bool.and_self and_self and_true true_and Nat.lt_irrefl Nat.zero_lt_one Nat.le_refl fillA evNil notA Bool.false_eq_true evMin_int evMax_int Option.map_none freezeP_all_nil freezeP_all_cons frzE_box frzE_arr frzE_dead foldA List.foldlM_cons List.foldlM_nil callW_f lcallW_f ansW_fn ansW_own lansW_fn lansW_own ansW_none lansW_none tab_cons tab_nil dI_int dB_bool dO_octs dO_ints dO_list dO_nil dOs_nil dN_nodeA dLf_agg dIn_agg dN_agg dNs_nodes dNs_nil isI_int isB_bool isO_octs isO_nil isO_list isS_ints isS_nil isNs_nodes isNs_nil isN_nodeA isLf_agg isIn_agg isN_agg leaf_eta inner_eta node_eta leaf_zero inner_zero node_zero dP_agg isP_agg patch_eta decide_eq_true_eq decide_eq_false_iff_not eq_self forall_const true_implies false_implies Bool.not_eq_true' Bool.not_eq_false' Bool.true_eq_false implies_true ne_eq ldI ldIA adI AV.tup.injEq AV.agg.injEq List.cons.injEq AV.int.injEq AV.bool.injEq nodes_inj octs_inj ints_inj nil_nodes nil_octs nil_ints canon_nilL decide_eq_decide two_ne four_ne lendA_fn lendA_own lendA_none llendA_fn llendA_none false_and and_false Q_nil Q_l Q_g Q_h Q_grd qgrdW_b qgrdW_tup lightD_some heavyD_some readD_some fnD_some fnD_own fnD_none callL_f ownH_some litD_some litE_some Q_call Q_bslice H_call pendOk_nil pendOk_cons pastOk_nil pastOk_cons Q_mv Q_pick Q_bin Q_un Q_convI Q_mkfunc Q_extract Q_min Q_max Q_lenS Q_lenA Q_field Q_idxA Q_mkiface Q_tassert Q_alloc Q_box Q_store Q_mkslice Q_append Q_appendZ Q_copy Q_clear Q_build Q_load Q_nilck Q_isnil Q_convS Q_slice Q_faddr Q_iaddr Q_iaddrA Q_len H_alloc H_box H_bslice H_store H_mkslice H_append H_appendZ H_copy H_clear free_mv free_pick free_bin free_un free_convI free_mkfunc free_extract free_min free_max free_lenS free_lenA free_field free_idxA free_mkiface free_tassert free_build free_load free_nilck free_isnil free_convS free_slice free_faddr free_iaddr free_iaddrA free_len callW_y List.length_map List.length_set leaves_r evR_some evRess1 evRess2 evRess3 evRes_t evRes_c nz_kind nz_enc nz_cred nz_source nz_parent nz_ienc nz_hash nz_un true_or or_true bsl_node appI appO ixo_nodes canon_rowI canon_rowO not_false_eq_true not_true_eq_false ldE_a ldE_c adE_b stE_b onE_a onP_b bsl_zero
attribute [local go_sem low] condW_b grdW_b lgrdW_b ldP adP stP onO onPt
attribute [local simp] envL_cons envL_nil idb_int idb_bool idb_ints idb_nil idb_own idb_ptr idb_octs idb_nodes idb_leafA idb_innerA idb_nodeA idb_agg idb_tup idb_iptr idb_fn entB_dead entB_box
end Go.Proofs.YtihhinbjhiankaaGreatDoor.Al

namespace Go.Proofs.YtihhinbjhiankaaGreatDoor.Al
open Go

end Go.Proofs.YtihhinbjhiankaaGreatDoor.Al

set_option linter.unusedSimpArgs false
set_option linter.unusedVariables false
namespace Go.Proofs.YtihhinbjhiankaaGreatDoor.Al
open Go
attribute [local go_sem] W_mv W_pick W_alloc W_box W_build W_bslice W_load W_store W_bin W_isnil W_un W_convI W_convS W_mkiface W_mkfunc W_slice W_faddr W_iaddr W_idxA W_extract W_len W_min W_max W_append W_appendZ W_clear W_invoke thenQ_normal thenQ_exit thenQ_goto thenQ_ret blockQ_normal blockQ_ret blockQ_goto blockQ_exit wpc_skip wpc_region wpc_draw wpc_seq wpc_cond wpc_block wpc_exit wpc_goto wpc_label wpc_ret wpc_loop wpc_range wpc_scope condW_true condW_false condW_dec condW_any W_nil W_call resW_some evalOp Opd.ev updo_envL updo_none setL_cons setL_nil envL_cons Option.map_some Option.bind_some evBin evInt List.map_cons List.map_nil Option.pure_def Option.bind_eq_bind W_grd' grdW_tt grdW_ff grdW_tf grdW_ft grdW_tup grdW_dt grdW_df lgrdW_tup L_mv L_load L_bin L_un L_faddr L_iaddr L_nil L_call lresW_some upd_envL evUn beq_dec bne_dec leaves_ret1 leaves_ret0 leaves_end0 rowLen_ints load_iptr0 not_dec heap_get0 heap_get1 heap_set0 heap_set1 heap_len1 heap_app bslice1_int seen_ints seen_one0 bslice0_int Nat.sub_zero Bool.not_true Bool.not_false List.length_nil List.length_cons List.nil_append List.cons_append Nat.zero_add load_iptrA canon_ptrI canon_bool canon_tup canon_agg canon_ints' canon_ints0 rowLen_ints1 rowLen_octs seen_octs canon_octs' seen_intss seen_octss rowLen_nodes seen_nodes canon_nodes' rowLen_nodes3 seen_list cells_int oneIn_int cells_bool oneIn_bool cells_str oneIn_str cells_list oneIn_list cells_func oneIn_func cells_nilfunc oneIn_nilfunc cells_iptr oneIn_iptr cells_iface oneIn_iface cells_nilIface oneIn_nilIface cells_own cells_ptr cells_anybool oneIn_anybool cells_agg oneIn_own0 oneIn_own1 seenL1 seenM1 oneIn_ptr2 seenL2 oneIn_own3 seenL3 cells_ints oneIn_ints cells_octs oneIn_octs cells_intss oneIn_intss cells_octss oneIn_octss cells_nodes oneIn_nodes ldB0 ldA0 adB0 stB0 ldB1 ldA1 adB1 stB1 ldB2 ldA2 adB2 stB2 ldB3 ldA3 adB3 stB3 ldB4 ldA4 adB4 stB4 ldB5 ldA5 adB5 stB5 List.getElem?_cons_zero List.getElem?_cons_succ beq_self_eq_true splice List.take_zero List.take_succ_cons List.drop_zero List.drop_succ_cons List.append_nil List.set_cons_zero List.set_cons_succ List.all_cons List.all_nil Bool.and_self and_self and_true true_and Nat.lt_irrefl Nat.zero_lt_one Nat.le_refl fillA evNil notA Bool.false_eq_true evMin_int evMax_int Option.map_none freezeP_all_nil freezeP_all_cons frzE_box frzE_arr frzE_dead foldA List.foldlM_cons List.foldlM_nil callW_f lcallW_f ansW_fn ansW_own lansW_fn lansW_own ansW_none lansW_none tab_cons tab_nil dI_int dB_bool dO_octs dO_ints dO_list dO_nil dOs_nil dN_nodeA dLf_agg dIn_agg dN_agg dNs_nodes dNs_nil isI_int isB_bool isO_octs isO_nil isO_list isS_ints isS_nil isNs_nodes isNs_nil isN_nodeA isLf_agg isIn_agg isN_agg leaf_eta inner_eta node_eta leaf_zero inner_zero node_zero dP_agg isP_agg patch_eta decide_eq_true_eq decide_eq_false_iff_not eq_self forall_const true_implies false_implies Bool.not_eq_true' Bool.not_eq_false' Bool.true_eq_false implies_true ne_eq ldI ldIA adI AV.tup.injEq AV.agg.injEq List.cons.injEq AV.int.injEq AV.bool.injEq nodes_inj octs_inj ints_inj nil_nodes nil_octs nil_ints canon_nilL decide_eq_decide two_ne four_ne lendA_fn lendA_own lendA_none llendA_fn llendA_none false_and and_false Q_nil Q_l Q_g Q_h Q_grd qgrdW_b qgrdW_tup lightD_some heavyD_some readD_some fnD_some fnD_own fnD_none callL_f ownH_some litD_some litE_some Q_call Q_bslice H_call pendOk_nil pendOk_cons pastOk_nil pastOk_cons Q_mv Q_pick Q_bin Q_un Q_convI Q_mkfunc Q_extract Q_min Q_max Q_lenS Q_lenA Q_field Q_idxA Q_mkiface Q_tassert Q_alloc Q_box Q_store Q_mkslice Q_append Q_appendZ Q_copy Q_clear Q_build Q_load Q_nilck Q_isnil Q_convS Q_slice Q_faddr Q_iaddr Q_iaddrA Q_len H_alloc H_box H_bslice H_store H_mkslice H_append H_appendZ H_copy H_clear free_mv free_pick free_bin free_un free_convI free_mkfunc free_extract free_min free_max free_lenS free_lenA free_field free_idxA free_mkiface free_tassert free_build free_load free_nilck free_isnil free_convS free_slice free_faddr free_iaddr free_iaddrA free_len callW_y List.length_map List.length_set leaves_r evR_some evRess1 evRess2 evRess3 evRes_t evRes_c nz_kind nz_enc nz_cred nz_source nz_parent nz_ienc nz_hash nz_un true_or or_true bsl_node appI appO ixo_nodes canon_rowI canon_rowO not_false_eq_true not_true_eq_false ldE_a ldE_c adE_b stE_b onE_a onP_b bsl_zero
attribute [local go_sem low] condW_b grdW_b lgrdW_b ldP adP stP onO onPt
attribute [local simp] envL_cons envL_nil idb_int idb_bool idb_ints idb_nil idb_own idb_ptr idb_octs idb_nodes idb_leafA idb_innerA idb_nodeA idb_agg idb_tup idb_iptr idb_fn entB_dead entB_box
/-- An element of a row of one's own is told in other words. -/
theorem WP.weakR {S : Seat} {r : Option Nat} {N b : Nat} {ic : IC} {Q : Exit → St → Prop} {env : Env} {H : List Entry} (id k : Nat) {sz ver : Nat} {xs : List AV} {x : AV} (y : AV) (hH : H[id]? = some (.arr sz ver xs)) (hk : xs[k]? = some x) (hw : Weaks x.cells y.cells)
    (h : WP S r N b ic Q ⟨env, H.set id (.arr sz ver (xs.set k y))⟩) : WP S r N b ic Q ⟨env, H⟩ := by
  refine WP.ghost ?_ h
  intro m I X w n0 a hs hfr
  refine ⟨m, I, .refl m, fun _ hb => hb, hs.retell (e1 := .arr sz ver (xs.set k y)) hH rfl ?_, hfr⟩
  obtain ⟨e, h1, h2, h3, h4, h5, h6, h7⟩ := hs.hok id _ hH
  refine ⟨e, h1, h2, h3, by rw [List.length_set]; exact h4, h5, fun z hz => ?_, ?_⟩
  · rcases List.mem_or_eq_of_mem_set hz with hz | rfl
    · exact h6 z hz
    · rw [← hw.get.1]; exact h6 x (List.mem_of_getElem? hk)
  · rcases h7 with h7 | ⟨h8, arr, T, h9, h10, h11⟩
    · exact .inl h7
    · refine .inr ⟨h8, arr, T, h9, h10, fun i z hz j u hu => ?_⟩
      by_cases hik : i = k
      · subst hik
        have hlt : i < xs.length := (List.getElem?_eq_some_iff.1 hk).1
        rw [List.getElem?_set_self hlt] at hz
        cases hz
        obtain ⟨u', hu', hw'⟩ := hw.get.2 j u hu
        exact hw' _ _ _ _ _ (h11 i x hk j u' hu')
      · rw [List.getElem?_set_ne (Ne.symm hik)] at hz
        exact h11 i z hz j u hu

end Go.Proofs.YtihhinbjhiankaaGreatDoor.Al

set_option linter.unusedSimpArgs false
set_option linter.unusedVariables false
namespace Go.Proofs.YtihhinbjhiankaaGreatDoor.Al
open Go
attribute [local go_sem] W_mv W_pick W_alloc W_box W_build W_bslice W_load W_store W_bin W_isnil W_un W_convI W_convS W_mkiface W_mkfunc W_slice W_faddr W_iaddr W_idxA W_extract W_len W_min W_max W_append W_appendZ W_clear W_invoke thenQ_normal thenQ_exit thenQ_goto thenQ_ret blockQ_normal blockQ_ret blockQ_goto blockQ_exit wpc_skip wpc_region wpc_draw wpc_seq wpc_cond wpc_block wpc_exit wpc_goto wpc_label wpc_ret wpc_loop wpc_range wpc_scope condW_true condW_false condW_dec condW_any W_nil W_call resW_some evalOp Opd.ev updo_envL updo_none setL_cons setL_nil envL_cons Option.map_some Option.bind_some evBin evInt List.map_cons List.map_nil Option.pure_def Option.bind_eq_bind W_grd' grdW_tt grdW_ff grdW_tf grdW_ft grdW_tup grdW_dt grdW_df lgrdW_tup L_mv L_load L_bin L_un L_faddr L_iaddr L_nil L_call lresW_some upd_envL evUn beq_dec bne_dec leaves_ret1 leaves_ret0 leaves_end0 rowLen_ints load_iptr0 not_dec heap_get0 heap_get1 heap_set0 heap_set1 heap_len1 heap_app bslice1_int seen_ints seen_one0 bslice0_int Nat.sub_zero Bool.not_true Bool.not_false List.length_nil List.length_cons List.nil_append List.cons_append Nat.zero_add load_iptrA canon_ptrI canon_bool canon_tup canon_agg canon_ints' canon_ints0 rowLen_ints1 rowLen_octs seen_octs canon_octs' seen_intss seen_octss rowLen_nodes seen_nodes canon_nodes' rowLen_nodes3 seen_list cells_int oneIn_int cells_bool oneIn_bool cells_str oneIn_str cells_list oneIn_list cells_func oneIn_func cells_nilfunc oneIn_nilfunc cells_iptr oneIn_iptr cells_iface oneIn_iface cells_nilIface oneIn_nilIface cells_own cells_ptr cells_anybool oneIn_anybool cells_agg oneIn_own0 oneIn_own1 seenL1 seenM1 oneIn_ptr2 seenL2 oneIn_own3 seenL3 cells_ints oneIn_ints cells_octs oneIn_octs cells_intss oneIn_intss cells_octss oneIn_octss cells_nodes oneIn_nodes ldB0 ldA0 adB0 stB0 ldB1 ldA1 adB1 stB1 ldB2 ldA2 adB2 stB2 ldB3 ldA3 adB3 stB3 ldB4 ldA4 adB4 stB4 ldB5 ldA5 adB5 stB5 List.getElem?_cons_zero List.getElem?_cons_succ beq_self_eq_true splice List.take_zero List.take_succ_cons List.drop_zero List.drop_succ_cons List.append_nil List.set_cons_zero List.set_cons_succ List.all_cons List.all_nil Bool.and_self and_self and_true true_and Nat.lt_irrefl Nat.zero_lt_one Nat.le_refl fillA evNil notA Bool.false_eq_true evMin_int evMax_int Option.map_none freezeP_all_nil freezeP_all_cons frzE_box frzE_arr frzE_dead foldA List.foldlM_cons List.foldlM_nil callW_f lcallW_f ansW_fn ansW_own lansW_fn lansW_own ansW_none lansW_none tab_cons tab_nil dI_int dB_bool dO_octs dO_ints dO_list dO_nil dOs_nil dN_nodeA dLf_agg dIn_agg dN_agg dNs_nodes dNs_nil isI_int isB_bool isO_octs isO_nil isO_list isS_ints isS_nil isNs_nodes isNs_nil isN_nodeA isLf_agg isIn_agg isN_agg leaf_eta inner_eta node_eta leaf_zero inner_zero node_zero dP_agg isP_agg patch_eta decide_eq_true_eq decide_eq_false_iff_not eq_self forall_const true_implies false_implies Bool.not_eq_true' Bool.not_eq_false' Bool.true_eq_false implies_true ne_eq ldI ldIA adI AV.tup.injEq AV.agg.injEq List.cons.injEq AV.int.injEq AV.bool.injEq nodes_inj octs_inj ints_inj nil_nodes nil_octs nil_ints canon_nilL decide_eq_decide two_ne four_ne lendA_fn lendA_own lendA_none llendA_fn llendA_none false_and and_false Q_nil Q_l Q_g Q_h Q_grd qgrdW_b qgrdW_tup lightD_some heavyD_some readD_some fnD_some fnD_own fnD_none callL_f ownH_some litD_some litE_some Q_call Q_bslice H_call pendOk_nil pendOk_cons pastOk_nil pastOk_cons Q_mv Q_pick Q_bin Q_un Q_convI Q_mkfunc Q_extract Q_min Q_max Q_lenS Q_lenA Q_field Q_idxA Q_mkiface Q_tassert Q_alloc Q_box Q_store Q_mkslice Q_append Q_appendZ Q_copy Q_clear Q_build Q_load Q_nilck Q_isnil Q_convS Q_slice Q_faddr Q_iaddr Q_iaddrA Q_len H_alloc H_box H_bslice H_store H_mkslice H_append H_appendZ H_copy H_clear free_mv free_pick free_bin free_un free_convI free_mkfunc free_extract free_min free_max free_lenS free_lenA free_field free_idxA free_mkiface free_tassert free_build free_load free_nilck free_isnil free_convS free_slice free_faddr free_iaddr free_iaddrA free_len callW_y List.length_map List.length_set leaves_r evR_some evRess1 evRess2 evRess3 evRes_t evRes_c nz_kind nz_enc nz_cred nz_source nz_parent nz_ienc nz_hash nz_un true_or or_true bsl_node appI appO ixo_nodes canon_rowI canon_rowO not_false_eq_true not_true_eq_false ldE_a ldE_c adE_b stE_b onE_a onP_b bsl_zero
attribute [local go_sem low] condW_b grdW_b lgrdW_b ldP adP stP onO onPt
attribute [local simp] envL_cons envL_nil idb_int idb_bool idb_ints idb_nil idb_own idb_ptr idb_octs idb_nodes idb_leafA idb_innerA idb_nodeA idb_agg idb_tup idb_iptr idb_fn entB_dead entB_box
theorem hknown_spec (t : List Node) (ht : Tree.Ok t) : Fun seat 348 [nodes t] (nodes (known t)) := by
  unfold known
  by_cases h : Sane t
  · rw [if_pos h]
    refine Fun.of0R [r101] told348 (by simp [il348]) (by simp [idb_patchA]) (by simp [idb_patchA]) 4 ?_
    simp -implicitDefEqProofs only [il348, List.zipIdx_cons, List.zipIdx_nil, leafA, innerA, nodeA, patchA, Leaf.cells, Inner.cells, Node.cells, r101_c, r101_ask, decide_true, decide_false, ht, h, go_sem, Nat.reduceEqDiff, reduceIte, Nat.reduceAdd, Nat.reduceLeDiff, Nat.reduceLT, Nat.reduceSub]
  · rw [if_neg h]
    refine Fun.of0R [r101] told348 (by simp [il348]) (by simp [idb_patchA]) (by simp [idb_patchA]) 4 ?_
    simp -implicitDefEqProofs only [il348, List.zipIdx_cons, List.zipIdx_nil, leafA, innerA, nodeA, patchA, Leaf.cells, Inner.cells, Node.cells, r101_c, r101_ask, decide_true, decide_false, ht, h, go_sem, Nat.reduceEqDiff, reduceIte, Nat.reduceAdd, Nat.reduceLeDiff, Nat.reduceLT, Nat.reduceSub]
    try rfl
noncomputable def r348 : Reg seat := .of told348 (ask1 (fun a0' => isNs a0' ∧ Tree.Ok (dNs a0')) fun a0' => .fn (nodes (known (dNs a0')))) (ask1_ok fun a0' h => SaidOk.fn (Fun.weak (.cons (isNs.weak h.1) .nil) (hknown_spec _ h.2)))
theorem r348_c : r348.c = 348 := rfl
open Classical in
theorem r348_ask (a0' : AV) : r348.ask [a0'] = if isNs a0' ∧ Tree.Ok (dNs a0') then some (Said.fn (nodes (known (dNs a0')))) else none := by unfold r348 Reg.of ask1; exact ite_cl

/-- A node without some leaves. -/
def dropZ (l : List Int) (x : Nat) (n : Node) : Node := if x % 2 = 0 ∧ l.contains ((x / 2 : Nat) : Int) = true then .zero else n
def cutN (l : List Int) (n : Node) : Node := ⟨n.kind, n.leaf, ⟨n.inner.enc, n.inner.hash, cutL n.inner.unmerged l⟩⟩
def dropN (l : List Int) (x : Nat) (n : Node) : Node := cutN l (dropZ l x n)
def dropT (t : List Node) (l : List Int) : List Node := (known t).mapIdx fun x n => dropN l x n
def dropK (l : List Int) (a : List Node) (k : Nat) : List Node := a.mapIdx fun x n => if x < k then dropN l x n else n
theorem dropK_len (l : List Int) (a : List Node) (k : Nat) : (dropK l a k).length = a.length := by simp [dropK]
theorem dropK_zero (l : List Int) (a : List Node) : dropK l a 0 = a := by
  refine List.ext_getElem (by simp [dropK]) fun i h1 h2 => ?_
  simp [dropK]
theorem dropK_all (l : List Int) (a : List Node) : dropK l a a.length = a.mapIdx fun x n => dropN l x n := by
  refine List.ext_getElem (by simp [dropK]) fun i h1 h2 => ?_
  have h3 : i < a.length := by simpa [dropK] using h1
  simp [dropK, h3]
theorem dropK_at (l : List Int) (a : List Node) {k : Nat} (h : k < (dropK l a k).length) : (dropK l a k)[k] = a[k]'(by rwa [dropK_len] at h) := by simp [dropK]
theorem dropK_set (l : List Int) (a : List Node) {k : Nat} (h : k < a.length) : dropK l a (k + 1) = (dropK l a k).set k (dropN l k a[k]) := by
  refine List.ext_getElem (by simp [dropK]) fun i h1 h2 => ?_
  rw [List.getElem_set]
  have h3 : i < a.length := by simpa [dropK] using h1
  by_cases hk : k = i
  · subst hk; simp [dropK]
  · rw [if_neg hk]
    simp only [dropK, List.getElem_mapIdx]
    by_cases hi : i < k
    · rw [if_pos (by omega), if_pos hi]
    · rw [if_neg (by omega), if_neg hi]
theorem st_unm0 {ver p : Nat} {R : List Node} (u : List Int) (hp : p < R.length) :
    evStore [.arr 8 ver (R.map nodeA)] 1 (.eptr 0 ver p 7) (ints u) = some [.arr 8 ver ((R.set p ⟨R[p].kind, R[p].leaf, ⟨R[p].inner.enc, R[p].inner.hash, u⟩⟩).map nodeA)] := by
  have h3 : (R.map nodeA)[p]? = some (nodeA R[p]) := by simp [hp]
  have h4 : setPart (nodeA R[p]) 7 (ints u) = nodeA ⟨R[p].kind, R[p].leaf, ⟨R[p].inner.enc, R[p].inner.hash, u⟩⟩ := rfl
  have h5 : (nodeA R[p]).cells.length = 8 := rfl
  have h2 : (ints u).cells.all (AV.oneIn [.arr 8 ver (R.map nodeA)]) = true := by
    have := encInts.one u [.arr 8 ver (R.map nodeA)]
    exact this
  have h1 : (ints u).cells.length = 1 := rfl
  simp only [evStore, h1, h2, List.getElem?_cons_zero, h3, h4, h5, true_and, and_self, if_true, show (0 : Nat) < 1 by decide, show 7 + 1 ≤ 8 by decide, List.set_cons_zero, List.map_set]
theorem ld_field0 {ver p off : Nat} {R : List Node} (hp : p < R.length) : evLoad [.arr 8 ver (R.map nodeA)] false 1 (.eptr 0 ver p off) = (nodeA R[p]).cells[off]? := by
  have h3 : (R.map nodeA)[p]? = some (nodeA R[p]) := by simp [hp]
  simp only [evLoad, window, List.getElem?_cons_zero, h3, if_true]
  rfl
theorem st_zero0 {ver p : Nat} {R : List Node} (hp : p < R.length) :
    evStore [.arr 8 ver (R.map nodeA)] 8 (.eptr 0 ver p 0) (.agg [.int .i64 0, .list true [], .list true [], .int .i64 0, .list true [], .list true [], .list true [], .list true []]) = some [.arr 8 ver ((R.map nodeA).set p zeroA)] := by
  have h3 : (R.map nodeA)[p]? = some (nodeA R[p]) := by simp [hp]
  have h4 : setPart (nodeA R[p]) 0 zeroA = zeroA := rfl
  have h5 : (nodeA R[p]).cells.length = 8 := rfl
  have h2 : zeroA.cells.all (AV.oneIn [.arr 8 ver (R.map nodeA)]) = true := rfl
  have h1 : zeroA.cells.length = 8 := rfl
  show evStore _ _ _ zeroA = _
  simp only [evStore, h1, h2, List.getElem?_cons_zero, h3, h4, h5, true_and, and_self, if_true, show (0 : Nat) < 8 by decide, show 0 + 8 ≤ 8 by decide, List.set_cons_zero]
theorem zeroA_weak : Weaks zeroA.cells (nodeA .zero).cells :=
  .cons (.refl _) (.cons (.list _ _) (.cons (.list _ _) (.cons (.refl _) (.cons (.list _ _) (.cons (.list _ _) (.cons (.list _ _) (.cons (.list _ _) .nil)))))))
set_option maxRecDepth 100000 in
set_option maxHeartbeats 2000000 in
theorem drop_spec (t : List Node) (l : List Int) (ht : Tree.Ok t) (hl : Small l) : FunOwn seat 333 [nodes t, ints l] 8 ((dropT t l).map nodeA) := by
  have ok := known_ok ht
  have hkl := known_len t
  have hun : ∀ n ∈ known t, n.inner.unmerged.length ≤ 4294967295 := fun n hn => by
    obtain ⟨x, hx, rfl⟩ := List.getElem_of_mem hn
    have := unm_len ((known_sane t).1 x hx).2; omega
  unfold dropT
  obtain ⟨a, ha⟩ : ∃ a, known t = a := ⟨_, rfl⟩
  rw [ha] at ok hkl hun ⊢
  have hc : a.length ≤ 4294967295 := by omega
  refine FunOwn.of0W told333 (by simp [il333]) (by simp ) (encNode.xs_idb _) ?_
  simp only [il333, List.zipIdx_cons, List.zipIdx_nil, Nat.zero_add]
  refine WP.seqR [] fun K hK => ?_
  simp -implicitDefEqProofs only [leafA, innerA, nodeA, patchA, Leaf.cells, Inner.cells, Node.cells, decide_true, decide_false, go_sem, Nat.reduceEqDiff, reduceIte, Nat.reduceAdd, Nat.reduceLeDiff, Nat.reduceLT, Nat.reduceSub]
  refine hK _ ?_
  clear hK K
  refine WP.seqR [r348, r129] fun K hK => ?_
  simp -implicitDefEqProofs only [leafA, innerA, nodeA, patchA, Leaf.cells, Inner.cells, Node.cells, r348_c, r348_ask, r129_c, r129_ask, decide_true, decide_false, ht, ha, hc, go_sem, Nat.reduceEqDiff, reduceIte, Nat.reduceAdd, Nat.reduceLeDiff, Nat.reduceLT, Nat.reduceSub]
  refine hK _ ?_
  clear hK K
  refine WP.seqR [] fun K hK => ?_
  have rl : rowLen [.arr 8 0 (a.map nodeA)] (.own 0 0 0 a.length) = some a.length := by simp [rowLen, AV.oneIn]
  simp -implicitDefEqProofs only [leafA, innerA, nodeA, patchA, Leaf.cells, Inner.cells, Node.cells, decide_true, decide_false, rl, Option.bind_some, List.length_map, go_sem, Nat.reduceEqDiff, reduceIte, Nat.reduceAdd, Nat.reduceLeDiff, Nat.reduceLT, Nat.reduceSub]
  refine WP.weakL [(0, .own 0 0 0 a.length), (1, ints l), (10, .int .i64 (a.length : Nat)), (11, .int .i64 0)] ?_ ?_
  · simp only [envL_cons, Nat.reduceEqDiff, reduceIte, List.mem_cons, List.not_mem_nil, or_false, forall_eq_or_imp, forall_eq, weak_refl, and_self]
  refine WP.loopG (fun j => j ≤ a.length) (fun j => [(0, .own 0 0 0 a.length), (1, ints l), (10, .int .i64 (a.length : Nat)), (11, .int .i64 (j : Nat))]) (fun j => [.arr 8 0 ((dropK l a j).map nodeA)]) (fun j => a.length - j) 0 (Nat.zero_le _) (fun k _ => ⟨by simp, by simp [idb_patchA], fun e he => by (simp only [List.mem_cons, List.not_mem_nil, or_false] at he); (rcases he with rfl | rfl | rfl | rfl | rfl | rfl) <;> first | exact encNode.entB _ _ _ _ | exact encI64.entB _ _ _ _ | exact encU8.entB _ _ _ _ | simp ⟩) (by simp [dropK_zero]) ?_
  intro j hj
  by_cases hlt : (j : Int) < (a.length : Nat)
  rotate_left
  · have e : j = a.length := by omega
    subst e
    rw [dropK_all]
    refine wpc_soundR [] ?_
    simp -implicitDefEqProofs only [leafA, innerA, nodeA, patchA, Leaf.cells, Inner.cells, Node.cells, decide_true, decide_false, hlt, go_sem, Nat.reduceEqDiff, reduceIte, Nat.reduceAdd, Nat.reduceLeDiff, Nat.reduceLT, Nat.reduceSub]
    refine hK _ (wpc_soundR [] ?_)
    simp -implicitDefEqProofs only [leafA, innerA, nodeA, patchA, Leaf.cells, Inner.cells, Node.cells, decide_true, decide_false, go_sem, Nat.reduceEqDiff, reduceIte, Nat.reduceAdd, Nat.reduceLeDiff, Nat.reduceLT, Nat.reduceSub]
    exact .inl ⟨0, 0, by simp, rfl⟩
  have hj' : j < a.length := by omega
  have hRl := dropK_len l a j
  have hRj := dropK_at l a (k := j) (by rw [hRl]; exact hj')
  have hset := dropK_set l a hj'
  obtain ⟨R, hR⟩ : ∃ R, dropK l a j = R := ⟨_, rfl⟩
  rw [hR] at hRl hset
  have hRj' : R[j]'(by omega) = a[j] := by subst hR; exact hRj
  clear hRj
  simp only [hR]
  have hjR : j < R.length := by omega
  obtain ⟨m, hm⟩ : ∃ m, dropZ l j a[j] = m := ⟨_, rfl⟩
  have hmu : m.inner.unmerged.length ≤ 4294967295 := by
    rw [← hm]; unfold dropZ
    split
    · simp [Node.zero, Inner.zero]
    · exact hun _ (List.getElem_mem hj')
  have hdn : dropN l j a[j] = cutN l m := by unfold dropN; rw [hm]
  rw [hdn] at hset
  clear hdn hun
  have sl : Small l := hl
  refine WP.seqR [] fun K2 hK2 => ?_
  simp -implicitDefEqProofs only [leafA, innerA, nodeA, patchA, Leaf.cells, Inner.cells, Node.cells, decide_true, decide_false, go_sem, Nat.reduceEqDiff, reduceIte, Nat.reduceAdd, Nat.reduceLeDiff, Nat.reduceLT, Nat.reduceSub]
  refine hK2 _ ?_
  clear hK2 K2
  refine WP.seqR [] fun K2 hK2 => ?_
  simp -implicitDefEqProofs only [leafA, innerA, nodeA, patchA, Leaf.cells, Inner.cells, Node.cells, decide_true, decide_false, hlt, go_sem, Nat.reduceEqDiff, reduceIte, Nat.reduceAdd, Nat.reduceLeDiff, Nat.reduceLT, Nat.reduceSub]
  refine hK2 _ ?_
  clear hK2 K2
  refine WP.seq (WP.block (WP.seqR [] fun K2 hK2 => ?_))
  simp -implicitDefEqProofs only [leafA, innerA, nodeA, patchA, Leaf.cells, Inner.cells, Node.cells, decide_true, decide_false, go_sem, Nat.reduceEqDiff, reduceIte, Nat.reduceAdd, Nat.reduceLeDiff, Nat.reduceLT, Nat.reduceSub]
  refine hK2 _ ?_
  clear hK2 K2
  refine WP.seqR [r204] fun K2 hK2 => ?_
  have TAIL : ∀ env' xs, (∀ p' ∈ [(0, AV.own 0 0 0 a.length), (1, ints l), (5, .int .i64 (j : Nat)), (10, .int .i64 (a.length : Nat)), (11, .int .i64 (j : Nat))], env' p'.1 = p'.2) → (xs = (R.set j m).map nodeA ∨ (m = .zero ∧ xs = (R.map nodeA).set j zeroA)) → K2 ⟨env', [.arr 8 0 xs]⟩ := by
    intro env' xs he hx
    refine hK2 _ (WP.slots he ?_)
    clear hK2 K2
    obtain ⟨R2, hR2⟩ : ∃ R2, R.set j m = R2 := ⟨_, rfl⟩
    have hl2 : j < R2.length := by rw [← hR2, List.length_set]; exact hjR
    have h2j : R2[j] = m := by subst hR2; simp
    have hl3 : R2.length = a.length := by rw [← hR2, List.length_set, hRl]
    have hs2 : R2.set j (cutN l m) = R.set j (cutN l m) := by rw [← hR2, List.set_set]
    rw [hR2] at hx
    have ixp : evIndex [.arr 8 0 (R2.map nodeA)] 8 (.own 0 0 0 a.length) (.int .i64 (j : Int)) = some (.eptr 0 0 j 0) := by
      have := ixo_nodes (H := [.arr 8 0 (R2.map nodeA)]) (id := 0) (ver := 0) (k := j) (l := R2) rfl hl2
      rwa [hl3] at this
    have ad : ∀ (p q : Nat), evAddr [.arr 8 0 (R2.map nodeA)] q (.eptr 0 0 j p) = some (.eptr 0 0 j (p + q)) := fun _ _ => rfl
    have ldu : evLoad [.arr 8 0 (R2.map nodeA)] false 1 (.eptr 0 0 j 7) = some (ints m.inner.unmerged) := by rw [ld_field0 hl2, h2j]; rfl
    have stu : evStore [.arr 8 0 (R2.map nodeA)] 1 (.eptr 0 0 j 7) (ints (cutL m.inner.unmerged l)) = some [.arr 8 0 ((R.set j (cutN l m)).map nodeA)] := by
      rw [st_unm0 _ hl2, h2j, ← hs2]; rfl
    rcases hx with rfl | ⟨hz, rfl⟩
    rotate_left
    · refine WP.weakR 0 j (nodeA .zero) rfl (x := zeroA) (by simp [hjR]) zeroA_weak ?_
      simp only [List.set_cons_zero, List.set_set]
      rw [← List.map_set, ← hz, hR2]
      refine wpc_soundR [r186] ?_
      simp -implicitDefEqProofs only [leafA, innerA, nodeA, patchA, Leaf.cells, Inner.cells, Node.cells, r186_c, r186_ask, decide_true, decide_false, ixp, ad, Nat.zero_add, Nat.reduceAdd, ldu, hmu, sl, stu, go_sem, Nat.reduceEqDiff, reduceIte, Nat.reduceAdd, Nat.reduceLeDiff, Nat.reduceLT, Nat.reduceSub]
      refine wpc_soundR [] ?_
      simp -implicitDefEqProofs only [leafA, innerA, nodeA, patchA, Leaf.cells, Inner.cells, Node.cells, decide_true, decide_false, go_sem, Nat.reduceEqDiff, reduceIte, Nat.reduceAdd, Nat.reduceLeDiff, Nat.reduceLT, Nat.reduceSub]
      exact ⟨j + 1, by omega, by omega, by simp [wrapS (show j < 9223372036854775807 by omega)], by simp [hset]⟩
    · refine wpc_soundR [r186] ?_
      simp -implicitDefEqProofs only [leafA, innerA, nodeA, patchA, Leaf.cells, Inner.cells, Node.cells, r186_c, r186_ask, decide_true, decide_false, ixp, ad, Nat.zero_add, Nat.reduceAdd, ldu, hmu, sl, stu, go_sem, Nat.reduceEqDiff, reduceIte, Nat.reduceAdd, Nat.reduceLeDiff, Nat.reduceLT, Nat.reduceSub]
      refine wpc_soundR [] ?_
      simp -implicitDefEqProofs only [leafA, innerA, nodeA, patchA, Leaf.cells, Inner.cells, Node.cells, decide_true, decide_false, go_sem, Nat.reduceEqDiff, reduceIte, Nat.reduceAdd, Nat.reduceLeDiff, Nat.reduceLT, Nat.reduceSub]
      exact ⟨j + 1, by omega, by omega, by simp [wrapS (show j < 9223372036854775807 by omega)], by simp [hset]⟩
  have ixR : evIndex [.arr 8 0 (R.map nodeA)] 8 (.own 0 0 0 a.length) (.int .i64 (j : Int)) = some (.eptr 0 0 j 0) := by
    have := ixo_nodes (H := [.arr 8 0 (R.map nodeA)]) (id := 0) (ver := 0) (k := j) (l := R) rfl hjR
    rwa [hRl] at this
  have stz := st_zero0 (ver := 0) hjR
  by_cases h2 : j % 2 = 0
  · have hm2 : ((j : Nat) : Int).tmod 2 = 0 := by rw [Int.tmod_eq_emod_of_nonneg (by omega)]; omega
    have hq2 : ((j : Nat) : Int).tdiv 2 = ((j / 2 : Nat) : Int) := by rw [Int.tdiv_eq_ediv_of_nonneg (by omega)]; omega
    have wq : IntKind.i64.wrap ((j / 2 : Nat) : Int) = ((j / 2 : Nat) : Int) := wrap64 _ (by omega) (by omega)
    by_cases hcn : l.contains ((j / 2 : Nat) : Int) = true
    · have hmz : m = .zero := by rw [← hm]; unfold dropZ; rw [if_pos ⟨h2, hcn⟩]
      simp -implicitDefEqProofs only [leafA, innerA, nodeA, patchA, Leaf.cells, Inner.cells, Node.cells, r204_c, r204_ask, decide_true, decide_false, hm2, hq2, wq, sl, hcn, ixR, stz, go_sem, Nat.reduceEqDiff, reduceIte, Nat.reduceAdd, Nat.reduceLeDiff, Nat.reduceLT, Nat.reduceSub]
      refine TAIL _ _ ?_ (.inr ⟨hmz, rfl⟩)
      simp 
    · have hma : m = a[j] := by rw [← hm]; unfold dropZ; rw [if_neg (fun h => hcn h.2)]
      simp -implicitDefEqProofs only [leafA, innerA, nodeA, patchA, Leaf.cells, Inner.cells, Node.cells, r204_c, r204_ask, decide_true, decide_false, hm2, hq2, wq, sl, hcn, go_sem, Nat.reduceEqDiff, reduceIte, Nat.reduceAdd, Nat.reduceLeDiff, Nat.reduceLT, Nat.reduceSub]
      refine TAIL _ _ ?_ (.inl ?_)
      · simp 
      · rw [hma, ← hRj', List.set_getElem_self]
  · have hm2 : ¬ ((j : Nat) : Int).tmod 2 = 0 := by rw [Int.tmod_eq_emod_of_nonneg (by omega)]; omega
    have hma : m = a[j] := by rw [← hm]; unfold dropZ; rw [if_neg (fun h => h2 h.1)]
    simp -implicitDefEqProofs only [leafA, innerA, nodeA, patchA, Leaf.cells, Inner.cells, Node.cells, r204_c, r204_ask, decide_true, decide_false, hm2, go_sem, Nat.reduceEqDiff, reduceIte, Nat.reduceAdd, Nat.reduceLeDiff, Nat.reduceLT, Nat.reduceSub]
    refine TAIL _ _ ?_ (.inl ?_)
    · simp 
    · rw [hma, ← hRj', List.set_getElem_self]
theorem dropF_spec (t : List Node) (l : List Int) (ht : Tree.Ok t) (hl : Small l) : Fun seat 333 [nodes t, ints l] (nodes (dropT t l)) := (drop_spec t l ht hl).val (encNode.xs_idb _)
noncomputable def r333 : Reg seat := .of told333 (ask2 (fun a0' a1' => isNs a0' ∧ isS a1' ∧ Tree.Ok (dNs a0') ∧ Small (dO a1')) fun a0' a1' => .fn (nodes (dropT (dNs a0') (dO a1')))) (ask2_ok fun a0' a1' h => SaidOk.fn (Fun.weak (.cons (isNs.weak h.1) (.cons (isS.weak h.2.1) .nil)) (dropF_spec _ _ h.2.2.1 h.2.2.2)))
theorem r333_c : r333.c = 333 := rfl
open Classical in
theorem r333_ask (a0' a1' : AV) : r333.ask [a0', a1'] = if isNs a0' ∧ isS a1' ∧ Tree.Ok (dNs a0') ∧ Small (dO a1') then some (Said.fn (nodes (dropT (dNs a0') (dO a1')))) else none := by unfold r333 Reg.of ask2; exact ite_cl
end Go.Proofs.YtihhinbjhiankaaGreatDoor.Al
