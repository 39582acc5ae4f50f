/-
  JOINED: D10, I2, I3, I4, S3, S4, N5, S5
-/
import Derived.Test.YtihhinbjhiankaaGreatDoorLawSetBP3
import Derived.Test.YtihhinbjhiankaaGreatDoorLawSetBP10
import Derived.Test.YtihhinbjhiankaaGreatDoorLawSetBP5
import Derived.Test.YtihhinbjhiankaaGreatDoorLawSetBP6
set_option linter.unusedSimpArgs false
set_option linter.unusedVariables false
namespace Go.Proofs.YtihhinbjhiankaaGreatDoor.Al
open Go
variable {S : Seat}

/-- An iterator yields some rows of values, one by one, to whatever loop; it writes into the box p, which holds 'st' at the start. -/
def GivesO (S : Seat) (c : Nat) (cap : List AV) (p : Nat) (st : Entry) (xs : List (List AV)) : Prop :=
  ∀ (id : Nat) (H0 : List Entry) (J : Nat → List Entry → Prop) (Jx : List Entry → Prop), H0[p]? = some st → J 0 H0 → (∀ k H e, J k H → J k (H.set p e)) →
    (∀ k (hk : k < xs.length) H1, J k H1 → AYield S id xs[k] H1 (fun r H2 => (r = .bool true ∧ H2[p]? = H1[p]? ∧ J (k + 1) H2) ∨ (r = .bool false ∧ Jx H2))) →
    ACall S c ([.func (.y id) [] []] ++ cap) H0 (fun _ H' => J xs.length H' ∨ Jx H')

/-- A loop over such an iterator. G k e: what the caller made, behind k rounds, with e in the iterator's box. -/
theorem WP.rangeO {N b : Nat} {Q : Exit → St → Prop} {H : List Entry} {env : Env} {g : Opd} {ps : List Nat} {assign body : IC} {c : Nat} {cap : List AV} (p : Nat) (st : Entry) (xs : List (List AV)) (hg : g.ev env = .func (.f c) [] cap) (hcb : Callable S c) (hG : GivesO S c cap p st xs)
    (hps : ∀ x ∈ xs, x.length = ps.length) (G : Nat → Entry → List Entry) (P : Nat → Prop) (hp : p < H.length) (hlen : ∀ k e, (G k e).length = H.length) (hGp : ∀ k e, (G k e)[p]? = some e) (hGs : ∀ k e e', (G k e).set p e' = G k e') (hP : P 0) (h0 : G 0 st = H)
    (hround : ∀ k (hk : k < xs.length) (e : Entry), P k → ∀ (l : Nat) (T : List Entry) (b : Nat), b = H.length + T.length → WP S (some l) N b assign (fun x s => x = .normal ∧ ∃ X, s.H = G k e ++ (T ++ X) ∧
      ∀ T', T'.length = T.length → WP S (some l) N b body (RoundQ (fun k => G k e) P H.length Q env k T') ⟨s.env, G k e ++ (T' ++ X)⟩) ⟨setPs env ps xs[k], G k e ++ T⟩)
    (hend : P xs.length → ∀ e T, Q .normal ⟨env, G xs.length e ++ T⟩) : WP S none N b (.rangeFunc g ps assign body) Q ⟨env, H⟩ := by
  refine WP.range (first := []) hg hcb fun L hy => ?_
  have getT : ∀ (A T : List Entry), A.length = H.length → (A ++ T)[H.length]? = T[0]? := fun A T h => by
    rw [List.getElem?_append_right (by omega), h, Nat.sub_self]
  have setT : ∀ (A T : List Entry) (x : Entry), A.length = H.length → (A ++ T).set H.length x = A ++ T.set 0 x := fun A T x h => by
    rw [List.set_append_right _ _ (by omega), h, Nat.sub_self]
  have getp : ∀ k e T, (G k e ++ T)[p]? = some e := fun k e T => by rw [List.getElem?_append_left (by rw [hlen]; exact hp), hGp]
  refine (hG H.length _ (fun k H1 => P k ∧ ∃ e T, H1 = G k e ++ T ∧ T[0]? = some (L .ready)) (fun H1 => ∃ j H2 T, H1 = H2 ++ T ∧ H2.length = H.length ∧ T[0]? = some (L (.done j)) ∧ ∀ T3, Q j.leave ⟨env, H2 ++ T3⟩) ?_ ⟨hP, st, [L .ready], by rw [h0], rfl⟩ ?_ ?_).mono ?_
  · rw [← h0]; exact getp 0 st _
  · rintro k _ e' ⟨a, e, T, rfl, hT⟩
    exact ⟨a, e', T, by rw [List.set_append_left _ _ (by rw [hlen]; exact hp), hGs], hT⟩
  · rintro k hk H1 ⟨hpk, e, T, rfl, hT⟩
    have hT0 : 0 < T.length := lt_of_get hT
    refine hy _ _ _ ⟨by rw [getT _ _ (hlen k e)]; exact hT, hps _ (List.getElem_mem hk), fun l => ?_⟩
    refine WP.mono (hround k hk e hpk l T _ (by simp [hlen])) ?_
    rintro x s ⟨rfl, X, hH, hbody⟩
    have hTX : (T ++ X)[0]? = T[0]? := List.getElem?_append_left hT0
    have hTS : ∀ x, (T ++ X).set 0 x = T.set 0 x ++ X := fun x => by rw [List.set_append_left _ _ hT0]
    refine ⟨rfl, by rw [hH, getT _ _ (hlen k e), hTX]; exact hT, ?_⟩
    rw [hH, setT _ _ _ (hlen k e), hTS]
    have hb := hbody (T.set 0 (L .busy)) (by simp)
    refine WP.mono hb ?_
    rintro e' st' ⟨H2, T2, h1, h2, h3, h4⟩
    have hbz : T2[0]? = some (L .busy) := by
      rw [h3 0 (by simpa using hT0), List.getElem?_set_self hT0]
    refine ⟨by rw [h1, getT _ _ h2]; exact hbz, ?_⟩
    have hl2 := lt_of_get hbz
    cases e' with
    | normal =>
      obtain ⟨h5, rfl⟩ := h4
      exact .inl ⟨rfl, by rw [h1, setT _ _ _ h2, getp, getp], h5, e, T2.set 0 (L .ready), by rw [h1, setT _ _ _ h2], List.getElem?_set_self hl2⟩
    | _ =>
      obtain ⟨j, h5, h6⟩ := h4
      exact ⟨j, h5, .inr ⟨rfl, j, H2, T2.set 0 (L (.done j)), by rw [h1, setT _ _ _ h2], h2, List.getElem?_set_self hl2, h6⟩⟩
  · rintro r H' (⟨hpe, e, T, rfl, hT⟩ | ⟨j, H2, T, rfl, h2, hT, hq⟩)
    · refine .inl ⟨by rw [getT _ _ (hlen _ _)]; exact hT, ?_⟩
      rw [setT _ _ _ (hlen _ _)]
      exact hend hpe _ _
    · refine .inr ⟨j, by rw [getT _ _ h2]; exact hT, ?_⟩
      rw [setT _ _ _ h2]
      exact hq _

end Go.Proofs.YtihhinbjhiankaaGreatDoor.Al

set_option linter.unusedSimpArgs false
set_option linter.unusedVariables false
namespace Go.Proofs.YtihhinbjhiankaaGreatDoor.Al
open Go
attribute [local go_sem] W_mv W_pick W_alloc W_box W_build W_bslice W_load W_store W_bin W_isnil W_un W_convI W_convS W_mkiface W_mkfunc W_slice W_faddr W_iaddr W_idxA W_extract W_len W_min W_max W_append W_appendZ W_clear W_invoke thenQ_normal thenQ_exit thenQ_goto thenQ_ret blockQ_normal blockQ_ret blockQ_goto blockQ_exit wpc_skip wpc_region wpc_draw wpc_seq wpc_cond wpc_block wpc_exit wpc_goto wpc_label wpc_ret wpc_loop wpc_range wpc_scope condW_true condW_false condW_dec condW_any W_nil W_call resW_some evalOp Opd.ev updo_envL updo_none setL_cons setL_nil envL_cons Option.map_some Option.bind_some evBin evInt List.map_cons List.map_nil Option.pure_def Option.bind_eq_bind W_grd' grdW_tt grdW_ff grdW_tf grdW_ft grdW_tup grdW_dt grdW_df lgrdW_tup L_mv L_load L_bin L_un L_faddr L_iaddr L_nil L_call lresW_some upd_envL evUn beq_dec bne_dec leaves_ret1 leaves_ret0 leaves_end0 rowLen_ints load_iptr0 not_dec heap_get0 heap_get1 heap_set0 heap_set1 heap_len1 heap_app bslice1_int seen_ints seen_one0 bslice0_int Nat.sub_zero Bool.not_true Bool.not_false List.length_nil List.length_cons List.nil_append List.cons_append Nat.zero_add load_iptrA canon_ptrI canon_bool canon_tup canon_agg canon_ints' canon_ints0 rowLen_ints1 rowLen_octs seen_octs canon_octs' seen_intss seen_octss rowLen_nodes seen_nodes canon_nodes' rowLen_nodes3 seen_list cells_int oneIn_int cells_bool oneIn_bool cells_str oneIn_str cells_list oneIn_list cells_func oneIn_func cells_nilfunc oneIn_nilfunc cells_iptr oneIn_iptr cells_iface oneIn_iface cells_nilIface oneIn_nilIface cells_own cells_ptr cells_anybool oneIn_anybool cells_agg oneIn_own0 oneIn_own1 seenL1 seenM1 oneIn_ptr2 seenL2 oneIn_own3 seenL3 cells_ints oneIn_ints cells_octs oneIn_octs cells_intss oneIn_intss cells_octss oneIn_octss cells_nodes oneIn_nodes ldB0 ldA0 adB0 stB0 ldB1 ldA1 adB1 stB1 ldB2 ldA2 adB2 stB2 ldB3 ldA3 adB3 stB3 ldB4 ldA4 adB4 stB4 ldB5 ldA5 adB5 stB5 List.getElem?_cons_zero List.getElem?_cons_succ beq_self_eq_true splice List.take_zero List.take_succ_cons List.drop_zero List.drop_succ_cons List.append_nil List.set_cons_zero List.set_cons_succ List.all_cons List.all_nil Bool.and_self and_self and_true true_and Nat.lt_irrefl Nat.zero_lt_one Nat.le_refl fillA evNil notA Bool.false_eq_true evMin_int evMax_int Option.map_none freezeP_all_nil freezeP_all_cons frzE_box frzE_arr frzE_dead foldA List.foldlM_cons List.foldlM_nil callW_f lcallW_f ansW_fn ansW_own lansW_fn lansW_own ansW_none lansW_none tab_cons tab_nil dI_int dB_bool dO_octs dO_ints dO_list dO_nil dOs_nil dN_nodeA dLf_agg dIn_agg dN_agg dNs_nodes dNs_nil isI_int isB_bool isO_octs isO_nil isO_list isS_ints isS_nil isNs_nodes isNs_nil isN_nodeA isLf_agg isIn_agg isN_agg leaf_eta inner_eta node_eta leaf_zero inner_zero node_zero dP_agg isP_agg patch_eta decide_eq_true_eq decide_eq_false_iff_not eq_self forall_const true_implies false_implies Bool.not_eq_true' Bool.not_eq_false' Bool.true_eq_false implies_true ne_eq ldI ldIA adI AV.tup.injEq AV.agg.injEq List.cons.injEq AV.int.injEq AV.bool.injEq nodes_inj octs_inj ints_inj nil_nodes nil_octs nil_ints canon_nilL decide_eq_decide two_ne four_ne lendA_fn lendA_own lendA_none llendA_fn llendA_none false_and and_false Q_nil Q_l Q_g Q_h Q_grd qgrdW_b qgrdW_tup lightD_some heavyD_some readD_some fnD_some fnD_own fnD_none callL_f ownH_some litD_some litE_some Q_call Q_bslice H_call pendOk_nil pendOk_cons pastOk_nil pastOk_cons Q_mv Q_pick Q_bin Q_un Q_convI Q_mkfunc Q_extract Q_min Q_max Q_lenS Q_lenA Q_field Q_idxA Q_mkiface Q_tassert Q_alloc Q_box Q_store Q_mkslice Q_append Q_appendZ Q_copy Q_clear Q_build Q_load Q_nilck Q_isnil Q_convS Q_slice Q_faddr Q_iaddr Q_iaddrA Q_len H_alloc H_box H_bslice H_store H_mkslice H_append H_appendZ H_copy H_clear free_mv free_pick free_bin free_un free_convI free_mkfunc free_extract free_min free_max free_lenS free_lenA free_field free_idxA free_mkiface free_tassert free_build free_load free_nilck free_isnil free_convS free_slice free_faddr free_iaddr free_iaddrA free_len callW_y List.length_map List.length_set leaves_r evR_some evRess1 evRess2 evRess3 evRes_t evRes_c nz_kind nz_enc nz_cred nz_source nz_parent nz_ienc nz_hash nz_un true_or or_true bsl_node appI appO ixo_nodes canon_rowI canon_rowO not_false_eq_true not_true_eq_false ldE_a ldE_c adE_b stE_b onE_a onP_b bsl_zero
attribute [local go_sem low] condW_b grdW_b lgrdW_b ldP adP stP onO onPt
attribute [local simp] envL_cons envL_nil idb_int idb_bool idb_ints idb_nil idb_own idb_ptr idb_octs idb_nodes idb_leafA idb_innerA idb_nodeA idb_agg idb_tup idb_iptr idb_fn entB_dead entB_box
/-- The way up as an iterator: where it goes from is kept in a box, which it writes. -/
theorem up_spec (x w : Int) (H : List Entry) : ACall seat 266 [.int .i64 x, .int .i64 w] H (fun r H' => r = .func (.f 277) [] [.ptr H.length 0, .iptr [.int .i64 w] 0] ∧ H' = H ++ [.box [.int .i64 x], .dead]) := by
  refine ACall.of_wp told266 (by simp [il266]) ?_
  rw [start_env]
  simp only [il266, List.zipIdx_cons, List.zipIdx_nil, Nat.zero_add]
  refine WP.seqR [] fun K hK => ?_
  simp -implicitDefEqProofs only [leafA, innerA, nodeA, patchA, Leaf.cells, Inner.cells, Node.cells, decide_true, decide_false, go_sem, Nat.reduceEqDiff, reduceIte, Nat.reduceAdd, Nat.reduceLeDiff, Nat.reduceLT, Nat.reduceSub]
  refine hK _ (WP.sealB 3 (H.length + 1) (cs := [.int .i64 w]) rfl (by simp) ?_)
  clear hK K
  refine wpc_soundR [] ?_
  simp -implicitDefEqProofs only [leafA, innerA, nodeA, patchA, Leaf.cells, Inner.cells, Node.cells, decide_true, decide_false, go_sem, Nat.reduceEqDiff, reduceIte, Nat.reduceAdd, Nat.reduceLeDiff, Nat.reduceLT, Nat.reduceSub]
theorem up1_gives (x w : Int) (p : Nat) : GivesO seat 277 [.ptr p 0, .iptr [.int .i64 w] 0] p (.box [.int .i64 x]) ((ups x w).map fun y => [.int .i64 y]) := by
  intro id H0 J Jx hst h0 hset hround
  refine ACall.of_wp told277 (by simp [il277]) ?_
  rw [start_env]
  simp only [il277, List.zipIdx_cons, List.zipIdx_nil, Nat.zero_add, List.cons_append, List.nil_append]
  refine wpc_soundR [r257] ?_
  by_cases hx : IsN x w
  rotate_left
  · simp -implicitDefEqProofs only [leafA, innerA, nodeA, patchA, Leaf.cells, Inner.cells, Node.cells, r257_c, r257_ask, decide_true, decide_false, load_box hst, hx, go_sem, Nat.reduceEqDiff, reduceIte, Nat.reduceAdd, Nat.reduceLeDiff, Nat.reduceLT, Nat.reduceSub]
    exact .inl (by rw [ups_not hx]; exact h0)
  simp -implicitDefEqProofs only [leafA, innerA, nodeA, patchA, Leaf.cells, Inner.cells, Node.cells, r257_c, r257_ask, decide_true, decide_false, load_box hst, hx, go_sem, Nat.reduceEqDiff, reduceIte, Nat.reduceAdd, Nat.reduceLeDiff, Nat.reduceLT, Nat.reduceSub]
  refine WP.loopJ (fun _ : Nat => [(0, .func (.y id) [] []), (1, .ptr p 0), (2, .iptr [.int .i64 w] 0)]) (fun k H => k ≤ (ups x w).length ∧ J k H ∧ ∃ v, H[p]? = some (.box [.int .i64 v]) ∧ ups v w = (ups x w).drop k ∧ (IsN v w ∨ v < 0)) (fun k => (ups x w).length - k) 0 (by simp ) ⟨Nat.zero_le _, h0, x, hst, rfl, .inl hx⟩ ?_
  rintro k H ⟨hk, hj, v, hp, hv, hd⟩
  refine wpc_soundR [r257, r273] ?_
  by_cases hvi : IsN v w
  rotate_left
  · have hv0 : v < 0 := hd.resolve_left hvi
    have hv1 : ¬ v ≥ 0 := by omega
    have hke : k = (ups x w).length := by
      rw [ups_not hvi] at hv
      have := congrArg List.length hv
      simp only [List.length_nil, List.length_drop] at this
      omega
    subst hke
    simp -implicitDefEqProofs only [leafA, innerA, nodeA, patchA, Leaf.cells, Inner.cells, Node.cells, r257_c, r257_ask, r273_c, r273_ask, decide_true, decide_false, load_box hp, hv1, go_sem, Nat.reduceEqDiff, reduceIte, Nat.reduceAdd, Nat.reduceLeDiff, Nat.reduceLT, Nat.reduceSub]
    exact .inl hj
  · have hv1 : v ≥ 0 := hvi.2.1
    have hs := ups_step hvi
    rw [hs] at hv
    have hk' : k < (ups x w).length := by
      have := congrArg List.length hv
      simp only [List.length_cons, List.length_drop] at this
      omega
    rw [List.drop_eq_getElem_cons hk'] at hv
    obtain ⟨e1, e2⟩ := List.cons.inj hv
    have hr := hround k (by simpa using hk') H hj
    rw [List.getElem_map, ← e1] at hr
    simp -implicitDefEqProofs only [leafA, innerA, nodeA, patchA, Leaf.cells, Inner.cells, Node.cells, r257_c, r257_ask, r273_c, r273_ask, decide_true, decide_false, load_box hp, hv1, go_sem, Nat.reduceEqDiff, reduceIte, Nat.reduceAdd, Nat.reduceLeDiff, Nat.reduceLT, Nat.reduceSub]
    refine Callee.yld hr ?_
    rintro r H' (⟨rfl, hp', hj'⟩ | ⟨rfl, hx'⟩)
    · rw [hp] at hp'
      simp -implicitDefEqProofs only [leafA, innerA, nodeA, patchA, Leaf.cells, Inner.cells, Node.cells, r257_c, r257_ask, r273_c, r273_ask, decide_true, decide_false, hp', go_sem, Nat.reduceEqDiff, reduceIte, Nat.reduceAdd, Nat.reduceLeDiff, Nat.reduceLT, Nat.reduceSub]
      refine ⟨k + 1, ⟨hk', hset _ _ _ hj', parI v w, List.getElem?_set_self (lt_of_get hp'), e2, ?_⟩, by omega, by simp ⟩
      by_cases hpn : IsN (parI v w) w
      · exact .inl hpn
      · exact .inr (parI_neg hpn)
    · simp -implicitDefEqProofs only [leafA, innerA, nodeA, patchA, Leaf.cells, Inner.cells, Node.cells, r257_c, r257_ask, r273_c, r273_ask, decide_true, decide_false, hx', or_true, go_sem, Nat.reduceEqDiff, reduceIte, Nat.reduceAdd, Nat.reduceLeDiff, Nat.reduceLT, Nat.reduceSub]
end Go.Proofs.YtihhinbjhiankaaGreatDoor.Al

set_option linter.unusedSimpArgs false
set_option linter.unusedVariables false
namespace Go.Proofs.YtihhinbjhiankaaGreatDoor.Al
open Go
attribute [local go_sem] W_mv W_pick W_alloc W_box W_build W_bslice W_load W_store W_bin W_isnil W_un W_convI W_convS W_mkiface W_mkfunc W_slice W_faddr W_iaddr W_idxA W_extract W_len W_min W_max W_append W_appendZ W_clear W_invoke thenQ_normal thenQ_exit thenQ_goto thenQ_ret blockQ_normal blockQ_ret blockQ_goto blockQ_exit wpc_skip wpc_region wpc_draw wpc_seq wpc_cond wpc_block wpc_exit wpc_goto wpc_label wpc_ret wpc_loop wpc_range wpc_scope condW_true condW_false condW_dec condW_any W_nil W_call resW_some evalOp Opd.ev updo_envL updo_none setL_cons setL_nil envL_cons Option.map_some Option.bind_some evBin evInt List.map_cons List.map_nil Option.pure_def Option.bind_eq_bind W_grd' grdW_tt grdW_ff grdW_tf grdW_ft grdW_tup grdW_dt grdW_df lgrdW_tup L_mv L_load L_bin L_un L_faddr L_iaddr L_nil L_call lresW_some upd_envL evUn beq_dec bne_dec leaves_ret1 leaves_ret0 leaves_end0 rowLen_ints load_iptr0 not_dec heap_get0 heap_get1 heap_set0 heap_set1 heap_len1 heap_app bslice1_int seen_ints seen_one0 bslice0_int Nat.sub_zero Bool.not_true Bool.not_false List.length_nil List.length_cons List.nil_append List.cons_append Nat.zero_add load_iptrA canon_ptrI canon_bool canon_tup canon_agg canon_ints' canon_ints0 rowLen_ints1 rowLen_octs seen_octs canon_octs' seen_intss seen_octss rowLen_nodes seen_nodes canon_nodes' rowLen_nodes3
/-- The heap of AppendSeq behind k rounds. -/
def SeqO (e : Entry) (l : List Int) (k : Nat) (G : List Entry) : Prop :=
  G[3]? = some e ∧ ((k = 0 ∧ G[2]? = some (.box [.list true []])) ∨ ∃ rid v, 4 ≤ rid ∧ G[2]? = some (.box [.own rid v 0 k]) ∧ G[rid]? = some (.arr 1 v ((l.take k).map (AV.int .i64))))

theorem appendSeqO_spec (l : List Int) (hl : l.length ≤ 4294967295) (c : Nat) (f : IFn) (hc : trFn seat c = some f) (cap : List AV) (st e0 : Entry) (hg : GivesO seat c cap 0 st (l.map fun y => [.int .i64 y])) :
    ACall seat 47 [.list true [], .func (.f c) [] cap] [st, e0] (fun r H' => (l = [] ∧ r = .list true []) ∨ ∃ rid v, r = .own rid v 0 l.length ∧ H'[rid]? = some (.arr 1 v (l.map (AV.int .i64)))) := by
  refine ACall.of_wp told47 (by simp [il47]) (wpc_sound ?_)
  rw [start_env]
  simp only [il47, List.zipIdx_cons, List.zipIdx_nil, Nat.zero_add, go_sem, Nat.reduceEqDiff, reduceIte, Nat.reduceAdd, AV.cells, List.all_cons, List.all_nil, AV.oneIn, Bool.and_self, List.length_nil, List.nil_append]
  refine WP.range (c := c) (first := []) (captured := cap) (by simp only [go_sem, Nat.reduceEqDiff, reduceIte, Nat.reduceAdd]) (Callable.of hc) (fun L hy => ?_)
  simp only [List.nil_append, List.cons_append, List.length_cons, List.length_nil, Nat.zero_add] at hy ⊢
  refine (hg 3 _ (SeqO (L .ready) l) (fun _ => False) rfl ⟨rfl, .inl ⟨rfl, rfl⟩⟩ ?_ ?_).mono ?_
  · rintro k H e ⟨j2, j3⟩
    have hne : ∀ j, j ≠ 0 → (H.set 0 e)[j]? = H[j]? := fun j hj => List.getElem?_set_ne (Ne.symm hj)
    refine ⟨by rw [hne _ (by omega)]; exact j2, ?_⟩
    rcases j3 with ⟨a, j3⟩ | ⟨rid, v, j3, j4, j5⟩
    · exact .inl ⟨a, by rw [hne _ (by omega)]; exact j3⟩
    · exact .inr ⟨rid, v, j3, by rw [hne _ (by omega)]; exact j4, by rw [hne _ (by omega)]; exact j5⟩
  · rintro k hk H1 ⟨j2, j3⟩
    have hk : k < l.length := by simpa using hk
    rw [List.getElem_map]
    refine hy _ _ _ ⟨j2, rfl, fun lp => wpc_sound ?_⟩
    simp only [go_sem, Nat.reduceEqDiff, reduceIte, Nat.reduceAdd, setPs]
    refine ⟨trivial, j2, wpc_sound ?_⟩
    have hn1 : 3 < H1.length := lt_of_get j2
    have hne : ∀ j, j ≠ 3 → (H1.set 3 (L .busy))[j]? = H1[j]? := fun j hj => List.getElem?_set_ne (Ne.symm hj)
    have hbz : (H1.set 3 (L .busy))[3]? = some (L .busy) := List.getElem?_set_self hn1
    have hlen : (H1.set 3 (L .busy)).length = H1.length := by simp
    have hz : (H1.set 3 (L .busy))[0]? = H1[0]? := hne 0 (by omega)
    rcases j3 with ⟨rfl, j3⟩ | ⟨rid, v, j3, j4, j5⟩
    · have g1 : (H1.set 3 (L .busy))[2]? = some (.box [.list true []]) := by rw [hne _ (by omega)]; exact j3
      generalize (H1.set 3 (L .busy)) = G at hne hbz hlen g1 hz
      simp only [load_box g1, go_sem, Nat.reduceEqDiff, reduceIte, Nat.reduceAdd]
      have hgl1 : 3 < G.length := lt_of_get hbz
      have e1 : (G ++ [Entry.arr 1 0 [AV.int .i64 l[0]]] ++ [Entry.arr 1 0 [AV.int .i64 l[0]]])[2]? = some (.box [.list true []]) := by
        rw [List.append_assoc, List.getElem?_append_left (by omega)]; exact g1
      have e2 : (G ++ [Entry.arr 1 0 [AV.int .i64 l[0]]] ++ [Entry.arr 1 0 [AV.int .i64 l[0]]])[(G ++ [Entry.arr 1 0 [AV.int .i64 l[0]]]).length]? = some (.arr 1 0 [AV.int .i64 l[0]]) := by simp
      rw [app_nil_int]
      simp only [resW_some, W_store, evalOp, Opd.ev, updo_envL, setL_cons, setL_nil, envL_cons, Nat.reduceEqDiff, reduceIte, store_box e1 rfl (own_one e2), Option.map_some, updo_none, W_nil, blockQ_normal]
      generalize hm : (G ++ [Entry.arr 1 0 [AV.int .i64 l[0]]] ++ [Entry.arr 1 0 [AV.int .i64 l[0]]]) = M at e1 e2 ⊢
      generalize hrid : (G ++ [Entry.arr 1 0 [AV.int .i64 l[0]]]).length = rid at e2 ⊢
      have hlow : ∀ j, j < G.length → M[j]? = G[j]? := fun j hj => by rw [← hm, List.append_assoc, List.getElem?_append_left hj]
      have hr2 : 4 ≤ rid := by rw [← hrid]; simp; omega
      have hML : rid < M.length := lt_of_get e2
      refine ⟨by rw [List.getElem?_set_ne (by omega), hlow _ hgl1]; exact hbz, .inl ⟨trivial, ?_, ?_, .inr ⟨rid, 0, hr2, ?_, ?_⟩⟩⟩
      · rw [List.getElem?_set_ne (by omega), List.getElem?_set_ne (by omega), hlow _ (by omega), hz]
      · rw [List.getElem?_set_self (by simp; omega)]
      · rw [List.getElem?_set_ne (by omega), List.getElem?_set_self (by omega)]
      · rw [List.getElem?_set_ne (by omega), List.getElem?_set_ne (by omega), e2]
        simp [List.take_succ_eq_append_getElem hk]
    · have hrn : rid ≠ 3 := by omega
      have g1 : (H1.set 3 (L .busy))[2]? = some (.box [.own rid v 0 k]) := by rw [hne _ (by omega)]; exact j4
      have g2 : (H1.set 3 (L .busy))[rid]? = some (.arr 1 v ((l.take k).map (AV.int .i64))) := by rw [hne _ hrn]; exact j5
      generalize (H1.set 3 (L .busy)) = G at hne hbz hlen g1 g2 hz
      have hgl1 : 3 < G.length := lt_of_get hbz
      have hgr : rid < G.length := lt_of_get g2
      have g3 : (G ++ [Entry.arr 1 0 [AV.int .i64 l[k]]])[rid]? = some (.arr 1 v ((l.take k).map (AV.int .i64))) := by rw [List.getElem?_append_left hgr]; exact g2
      have happ := app_own (n := k) (ys := [AV.int .i64 l[k]]) (bytes := 8) g3 (by simp; omega) (by unfold maxRow; simp; omega) (by decide) (by decide) (by simp) (by simp [szOk, AV.cells, AV.oneIn])
      have htk : ((l.take k).map (AV.int .i64)).take k ++ [AV.int .i64 l[k]] = (l.take (k + 1)).map (AV.int .i64) := by
        rw [List.take_of_length_le (by simp; omega), List.take_succ_eq_append_getElem hk, List.map_append, List.map_take]; rfl
      rw [htk] at happ
      have hsn : seen (G ++ [Entry.arr 1 0 [AV.int .i64 l[k]]]) (.own G.length 0 0 1) = some [AV.int .i64 l[k]] := by simp [seen]
      simp only [load_box g1, hsn, go_sem, Nat.reduceEqDiff, reduceIte, Nat.reduceAdd, happ]
      generalize hm : ((G ++ [Entry.arr 1 0 [AV.int .i64 l[k]]]).set rid (.arr 1 (v + 1) ((l.take (k + 1)).map (AV.int .i64)))) = M
      have hlow : ∀ j, j < G.length → j ≠ rid → M[j]? = G[j]? := fun j hj hjr => by rw [← hm, List.getElem?_set_ne (Ne.symm hjr), List.getElem?_append_left hj]
      have e2 : M[rid]? = some (.arr 1 (v + 1) ((l.take (k + 1)).map (AV.int .i64))) := by rw [← hm, List.getElem?_set_self (by simp; omega)]
      have e1 : M[2]? = some (.box [.own rid v 0 k]) := by rw [hlow _ (by omega) (by omega)]; exact g1
      have hML : rid < M.length := lt_of_get e2
      have hML1 : G.length < M.length := by rw [← hm]; simp
      simp only [resW_some, W_store, evalOp, Opd.ev, updo_envL, setL_cons, setL_nil, envL_cons, Nat.reduceEqDiff, reduceIte, store_box e1 rfl (own_one e2), Option.map_some, updo_none, W_nil, blockQ_normal]
      refine ⟨by rw [List.getElem?_set_ne (by omega), hlow _ hgl1 (by omega)]; exact hbz, .inl ⟨trivial, ?_, ?_, .inr ⟨rid, v + 1, j3, ?_, ?_⟩⟩⟩
      · rw [List.getElem?_set_ne (by omega), List.getElem?_set_ne (by omega), hlow _ (by omega) (by omega), hz]
      · rw [List.getElem?_set_self (by simp; omega)]
      · rw [List.getElem?_set_ne (by omega), List.getElem?_set_self (by omega)]
      · rw [List.getElem?_set_ne (by omega), List.getElem?_set_ne (by omega), e2]
  · rintro r H' (⟨j2, j3⟩ | hf)
    · left
      refine ⟨j2, ?_⟩
      have hne : ∀ j, j ≠ 3 → (H'.set 3 .dead)[j]? = H'[j]? := fun j hj => List.getElem?_set_ne (Ne.symm hj)
      rw [List.length_map] at j3
      rcases j3 with ⟨h0, j3⟩ | ⟨rid, v, j3, j4, j5⟩
      · have hl0 : l = [] := List.eq_nil_of_length_eq_zero h0
        subst hl0
        have g1 : (H'.set 3 .dead)[2]? = some (.box [.list true []]) := by rw [hne _ (by omega)]; exact j3
        simp only [go_sem, Nat.reduceEqDiff, reduceIte, Nat.reduceAdd, load_box g1]
        exact .inl ⟨trivial, trivial⟩
      · have g1 : (H'.set 3 .dead)[2]? = some (.box [.own rid v 0 l.length]) := by rw [hne _ (by omega)]; exact j4
        have g2 : (H'.set 3 .dead)[rid]? = some (.arr 1 v ((l.take l.length).map (AV.int .i64))) := by rw [hne _ (by omega)]; exact j5
        rw [List.take_length] at g2
        simp only [go_sem, Nat.reduceEqDiff, reduceIte, Nat.reduceAdd, load_box g1]
        exact .inr ⟨rid, v, rfl, g2⟩
    · exact hf.elim

theorem collectO_spec (l : List Int) (hl : l.length ≤ 4294967295) (c : Nat) (f : IFn) (hc : trFn seat c = some f) (cap : List AV) (st e0 : Entry) (hg : GivesO seat c cap 0 st (l.map fun y => [.int .i64 y])) :
    ACall seat 40 [.func (.f c) [] cap] [st, e0] (fun r H' => (l = [] ∧ r = .list true []) ∨ ∃ rid v, r = .own rid v 0 l.length ∧ H'[rid]? = some (.arr 1 v (l.map (AV.int .i64)))) := by
  refine ACall.of_wp told40 (by simp [il40]) (wpc_sound ?_)
  rw [start_env]
  simp only [il40, List.zipIdx_cons, List.zipIdx_nil, Nat.zero_add, go_sem, Nat.reduceEqDiff, reduceIte, Nat.reduceAdd]
  refine Callee.plain (Callable.of told47) (appendSeqO_spec l hl c f hc cap st e0 hg) ?_
  rintro r H' hr
  simp only [go_sem, Nat.reduceEqDiff, reduceIte, Nat.reduceAdd]
  exact hr

end Go.Proofs.YtihhinbjhiankaaGreatDoor.Al

set_option linter.unusedSimpArgs false
set_option linter.unusedVariables false
namespace Go.Proofs.YtihhinbjhiankaaGreatDoor.Al
open Go
attribute [local go_sem] W_mv W_pick W_alloc W_box W_build W_bslice W_load W_store W_bin W_isnil W_un W_convI W_convS W_mkiface W_mkfunc W_slice W_faddr W_iaddr W_idxA W_extract W_len W_min W_max W_append W_appendZ W_clear W_invoke thenQ_normal thenQ_exit thenQ_goto thenQ_ret blockQ_normal blockQ_ret blockQ_goto blockQ_exit wpc_skip wpc_region wpc_draw wpc_seq wpc_cond wpc_block wpc_exit wpc_goto wpc_label wpc_ret wpc_loop wpc_range wpc_scope condW_true condW_false condW_dec condW_any W_nil W_call resW_some evalOp Opd.ev updo_envL updo_none setL_cons setL_nil envL_cons Option.map_some Option.bind_some evBin evInt List.map_cons List.map_nil Option.pure_def Option.bind_eq_bind W_grd' grdW_tt grdW_ff grdW_tf grdW_ft grdW_tup grdW_dt grdW_df lgrdW_tup L_mv L_load L_bin L_un L_faddr L_iaddr L_nil L_call lresW_some upd_envL evUn beq_dec bne_dec leaves_ret1 leaves_ret0 leaves_end0 rowLen_ints load_iptr0 not_dec heap_get0 heap_get1 heap_set0 heap_set1 heap_len1 heap_app bslice1_int seen_ints seen_one0 bslice0_int Nat.sub_zero Bool.not_true Bool.not_false List.length_nil List.length_cons List.nil_append List.cons_append Nat.zero_add load_iptrA canon_ptrI canon_bool canon_tup canon_agg canon_ints' canon_ints0 rowLen_ints1 rowLen_octs seen_octs canon_octs' seen_intss seen_octss rowLen_nodes seen_nodes canon_nodes' rowLen_nodes3 seen_list cells_int oneIn_int cells_bool oneIn_bool cells_str oneIn_str cells_list oneIn_list cells_func oneIn_func cells_nilfunc oneIn_nilfunc cells_iptr oneIn_iptr cells_iface oneIn_iface cells_nilIface oneIn_nilIface cells_own cells_ptr cells_anybool oneIn_anybool cells_agg oneIn_own0 oneIn_own1 seenL1 seenM1 oneIn_ptr2 seenL2 oneIn_own3 seenL3 cells_ints oneIn_ints cells_octs oneIn_octs cells_intss oneIn_intss cells_octss oneIn_octss cells_nodes oneIn_nodes ldB0 ldA0 adB0 stB0 ldB1 ldA1 adB1 stB1 ldB2 ldA2 adB2 stB2 ldB3 ldA3 adB3 stB3 ldB4 ldA4 adB4 stB4 ldB5 ldA5 adB5 stB5 List.getElem?_cons_zero List.getElem?_cons_succ beq_self_eq_true splice List.take_zero List.take_succ_cons List.drop_zero List.drop_succ_cons List.append_nil List.set_cons_zero List.set_cons_succ List.all_cons List.all_nil Bool.and_self and_self and_true true_and Nat.lt_irrefl Nat.zero_lt_one Nat.le_refl fillA evNil notA Bool.false_eq_true evMin_int evMax_int Option.map_none freezeP_all_nil freezeP_all_cons frzE_box frzE_arr frzE_dead foldA List.foldlM_cons List.foldlM_nil callW_f lcallW_f ansW_fn ansW_own lansW_fn lansW_own ansW_none lansW_none tab_cons tab_nil dI_int dB_bool dO_octs dO_ints dO_list dO_nil dOs_nil dN_nodeA dLf_agg dIn_agg dN_agg dNs_nodes dNs_nil isI_int isB_bool isO_octs isO_nil isO_list isS_ints isS_nil isNs_nodes isNs_nil isN_nodeA isLf_agg isIn_agg isN_agg leaf_eta inner_eta node_eta leaf_zero inner_zero node_zero dP_agg isP_agg patch_eta decide_eq_true_eq decide_eq_false_iff_not eq_self forall_const true_implies false_implies Bool.not_eq_true' Bool.not_eq_false' Bool.true_eq_false implies_true ne_eq ldI ldIA adI AV.tup.injEq AV.agg.injEq List.cons.injEq AV.int.injEq AV.bool.injEq nodes_inj octs_inj ints_inj nil_nodes nil_octs nil_ints canon_nilL decide_eq_decide two_ne four_ne lendA_fn lendA_own lendA_none llendA_fn llendA_none false_and and_false Q_nil Q_l Q_g Q_h Q_grd qgrdW_b qgrdW_tup lightD_some heavyD_some readD_some fnD_some fnD_own fnD_none callL_f ownH_some litD_some litE_some Q_call Q_bslice H_call pendOk_nil pendOk_cons pastOk_nil pastOk_cons Q_mv Q_pick Q_bin Q_un Q_convI Q_mkfunc Q_extract Q_min Q_max Q_lenS Q_lenA Q_field Q_idxA Q_mkiface Q_tassert Q_alloc Q_box Q_store Q_mkslice Q_append Q_appendZ Q_copy Q_clear Q_build Q_load Q_nilck Q_isnil Q_convS Q_slice Q_faddr Q_iaddr Q_iaddrA Q_len H_alloc H_box H_bslice H_store H_mkslice H_append H_appendZ H_copy H_clear free_mv free_pick free_bin free_un free_convI free_mkfunc free_extract free_min free_max free_lenS free_lenA free_field free_idxA free_mkiface free_tassert free_build free_load free_nilck free_isnil free_convS free_slice free_faddr free_iaddr free_iaddrA free_len callW_y List.length_map List.length_set leaves_r evR_some evRess1 evRess2 evRess3 evRes_t evRes_c nz_kind nz_enc nz_cred nz_source nz_parent nz_ienc nz_hash nz_un true_or or_true bsl_node appI appO ixo_nodes canon_rowI canon_rowO not_false_eq_true not_true_eq_false ldE_a ldE_c adE_b stE_b onE_a onP_b bsl_zero
attribute [local go_sem low] condW_b grdW_b lgrdW_b ldP adP stP onO onPt
attribute [local simp] envL_cons envL_nil idb_int idb_bool idb_ints idb_nil idb_own idb_ptr idb_octs idb_nodes idb_leafA idb_innerA idb_nodeA idb_agg idb_tup idb_iptr idb_fn entB_dead entB_box
theorem slice_own {H : List Entry} {rid v : Nat} {l : List Int} (hr : H[rid]? = some (.arr 1 v (l.map (AV.int .i64)))) (m : Nat) (hm : m ≤ l.length) : evSlice H 1 (.own rid v 0 l.length) (some (.int .i64 m)) none none = some (.own rid v m l.length) := by
  simp [evSlice, hr, evBound, hm]
theorem canon_own {H : List Entry} {rid v : Nat} {l : List Int} (hr : H[rid]? = some (.arr 1 v (l.map (AV.int .i64)))) (m : Nat) : canon H 4 (.own rid v m l.length) = ints (l.drop m) := by
  have h2 : (freezeP all H)[rid]? = some (.frz 1 v (l.map (AV.int .i64))) := by rw [freezeP_get, hr]; rfl
  simp only [canon, derefN, h2, List.length_map, Nat.le_refl, and_self, if_true, ints]
  rw [List.take_of_length_le (by simp), ← List.map_drop, List.map_map]
  rfl
theorem z00 : ((0 : Nat) : Int) = 0 := rfl
theorem lt01 : ((0 : Int) < 1) = True := eq_true (by decide)
theorem direct_spec (x w : Int) : Fun seat 263 [.int .i64 x, .int .i64 w] (ints (directI x w)) := by
  have hl := ups_len x w
  refine Fun.of0W told263 (by simp [il263]) (by simp ) (by simp ) 4 ?_
  simp only [il263, List.zipIdx_cons, List.zipIdx_nil, Nat.zero_add]
  refine wpc_soundR [] ?_
  simp -implicitDefEqProofs only [leafA, innerA, nodeA, patchA, Leaf.cells, Inner.cells, Node.cells, decide_true, decide_false, go_sem, Nat.reduceEqDiff, reduceIte, Nat.reduceAdd, Nat.reduceLeDiff, Nat.reduceLT, Nat.reduceSub]
  refine Callee.plain (Callable.of told266) (up_spec x w []) ?_
  rintro _ _ ⟨rfl, rfl⟩
  simp -implicitDefEqProofs only [leafA, innerA, nodeA, patchA, Leaf.cells, Inner.cells, Node.cells, decide_true, decide_false, List.nil_append, List.length_nil, go_sem, Nat.reduceEqDiff, reduceIte, Nat.reduceAdd, Nat.reduceLeDiff, Nat.reduceLT, Nat.reduceSub]
  refine Callee.plain (Callable.of told40) (collectO_spec (ups x w) (by omega) 277 il277 told277 _ _ _ (up1_gives x w 0)) ?_
  rintro r H' (⟨he, rfl⟩ | ⟨rid, v, rfl, hr⟩)
  · have l0 : rowLen H' (.list true []) = some 0 := rfl
    have d0 : directI x w = [] := by unfold directI; rw [he]; rfl
    have s0 : evSlice H' 1 (.list true []) (some (.int .i64 0)) none none = some (.list true []) := rfl
    rw [d0]
    simp -implicitDefEqProofs only [leafA, innerA, nodeA, patchA, Leaf.cells, Inner.cells, Node.cells, decide_true, decide_false, l0, Option.bind_some, evMin_int, z00, lt01, s0, go_sem, Nat.reduceEqDiff, reduceIte, Nat.reduceAdd, Nat.reduceLeDiff, Nat.reduceLT, Nat.reduceSub]
  · have l0 : rowLen H' (.own rid v 0 (ups x w).length) = some (ups x w).length := by simp [rowLen, own_one hr]
    by_cases hn : (ups x w).length = 0
    · have hd : directI x w = (ups x w).drop 0 := by unfold directI; rw [List.eq_nil_of_length_eq_zero hn]; rfl
      have s0 : evSlice H' 1 (.own rid v 0 (ups x w).length) (some (.int .i64 0)) none none = some (.own rid v 0 (ups x w).length) := slice_own hr 0 (Nat.zero_le _)
      have n0 : ((ups x w).length : Int) = 0 := by omega
      rw [hd]
      simp -implicitDefEqProofs only [leafA, innerA, nodeA, patchA, Leaf.cells, Inner.cells, Node.cells, decide_true, decide_false, l0, Option.bind_some, evMin_int, n0, lt01, s0, go_sem, Nat.reduceEqDiff, reduceIte, Nat.reduceAdd, Nat.reduceLeDiff, Nat.reduceLT, Nat.reduceSub]
      exact canon_own hr 0
    · have hd : directI x w = (ups x w).drop 1 := by unfold directI; rw [List.drop_one]
      have s0 : evSlice H' 1 (.own rid v 0 (ups x w).length) (some (.int .i64 1)) none none = some (.own rid v 1 (ups x w).length) := slice_own hr 1 (by omega)
      have m0 : ¬ ((ups x w).length : Int) < 1 := by omega
      rw [hd]
      simp -implicitDefEqProofs only [leafA, innerA, nodeA, patchA, Leaf.cells, Inner.cells, Node.cells, decide_true, decide_false, l0, Option.bind_some, evMin_int, m0, s0, go_sem, Nat.reduceEqDiff, reduceIte, Nat.reduceAdd, Nat.reduceLeDiff, Nat.reduceLT, Nat.reduceSub]
      exact canon_own hr 1
noncomputable def r263 : Reg seat := .of told263 (ask2 (fun a0' a1' => isI a0' ∧ isI a1') fun a0' a1' => .fn (ints (directI (dI a0') (dI a1')))) (ask2_ok fun a0' a1' h => SaidOk.fn (Fun.weak (.cons (isI.weak h.1) (.cons (isI.weak h.2) .nil)) (direct_spec _ _)))
theorem r263_c : r263.c = 263 := rfl
open Classical in
theorem r263_ask (a0' a1' : AV) : r263.ask [a0', a1'] = if isI a0' ∧ isI a1' then some (Said.fn (ints (directI (dI a0') (dI a1')))) else none := by unfold r263 Reg.of ask2; exact ite_cl

theorem ups_len' (x w : Int) : ∀ y ∈ (ups x w).map fun y => [AV.int .i64 y], y.length = [11].length := by
  intro y hy
  obtain ⟨z, _, rfl⟩ := List.mem_map.1 hy
  rfl
set_option maxHeartbeats 1000000 in
theorem under_spec (x y w : Int) : Fun seat 255 [.int .i64 x, .int .i64 y, .int .i64 w] (.bool (decide (y ∈ ups x w))) := by
  refine Fun.of0W told255 (by simp [il255]) (by simp ) (by simp ) 4 ?_
  simp only [il255, List.zipIdx_cons, List.zipIdx_nil, Nat.zero_add]
  refine wpc_soundR [] ?_
  simp -implicitDefEqProofs only [leafA, innerA, nodeA, patchA, Leaf.cells, Inner.cells, Node.cells, decide_true, decide_false, go_sem, Nat.reduceEqDiff, reduceIte, Nat.reduceAdd, Nat.reduceLeDiff, Nat.reduceLT, Nat.reduceSub]
  refine Callee.plain (Callable.of told266) (up_spec x w [.box [.int .i64 y], .box [.bool false]]) ?_
  rintro _ _ ⟨rfl, rfl⟩
  simp -implicitDefEqProofs only [leafA, innerA, nodeA, patchA, Leaf.cells, Inner.cells, Node.cells, decide_true, decide_false, List.cons_append, List.nil_append, List.length_cons, List.length_nil, go_sem, Nat.reduceEqDiff, reduceIte, Nat.reduceAdd, Nat.reduceLeDiff, Nat.reduceLT, Nat.reduceSub]
  refine WP.rangeO 2 (.box [.int .i64 x]) ((ups x w).map fun y => [.int .i64 y]) (c := 277) (cap := [.ptr 2 0, .iptr [.int .i64 w] 0]) (by simp only [go_sem, Nat.reduceEqDiff, reduceIte, Nat.reduceAdd, Nat.reduceLeDiff, Nat.reduceLT, Nat.reduceSub]) (Callable.of told277) (up1_gives x w 2) (ups_len' x w)
    (fun _ e => [.box [.int .i64 y], .box [.bool false], e, .dead]) (fun k => ∀ j (h : j < (ups x w).length), j < k → ¬ (ups x w)[j] = y) (by simp) (fun _ _ => rfl) (fun _ _ => rfl) (fun _ _ _ => rfl) (fun _ _ h => absurd h (Nat.not_lt_zero _)) rfl ?_ ?_
  · intro k hk e hP l T b hb
    have hk' : k < (ups x w).length := by simpa using hk
    rw [List.getElem_map]
    simp only [setPs]
    refine wpc_soundR [] ?_
    simp -implicitDefEqProofs only [leafA, innerA, nodeA, patchA, Leaf.cells, Inner.cells, Node.cells, decide_true, decide_false, List.cons_append, List.nil_append, go_sem, Nat.reduceEqDiff, reduceIte, Nat.reduceAdd, Nat.reduceLeDiff, Nat.reduceLT, Nat.reduceSub]
    refine ⟨[], by simp, fun T' hT' => wpc_soundR [] ?_⟩
    by_cases hy : (ups x w)[k] = y
    · simp -implicitDefEqProofs only [leafA, innerA, nodeA, patchA, Leaf.cells, Inner.cells, Node.cells, decide_true, decide_false, eq_true hy, List.append_nil, go_sem, Nat.reduceEqDiff, reduceIte, Nat.reduceAdd, Nat.reduceLeDiff, Nat.reduceLT, Nat.reduceSub]
      refine ⟨[.box [.int .i64 y], .box [.bool true], e, .dead], T', rfl, rfl, fun _ _ => rfl, .ret, rfl, fun T3 => ?_⟩
      have hm : y ∈ ups x w := by rw [← hy]; exact List.getElem_mem hk'
      simp -implicitDefEqProofs only [leafA, innerA, nodeA, patchA, Leaf.cells, Inner.cells, Node.cells, decide_true, decide_false, Jump.leave, List.cons_append, List.nil_append, hm, go_sem, Nat.reduceEqDiff, reduceIte, Nat.reduceAdd, Nat.reduceLeDiff, Nat.reduceLT, Nat.reduceSub]
    · simp -implicitDefEqProofs only [leafA, innerA, nodeA, patchA, Leaf.cells, Inner.cells, Node.cells, decide_true, decide_false, hy, List.append_nil, go_sem, Nat.reduceEqDiff, reduceIte, Nat.reduceAdd, Nat.reduceLeDiff, Nat.reduceLT, Nat.reduceSub]
      refine ⟨[.box [.int .i64 y], .box [.bool false], e, .dead], T', rfl, rfl, fun _ _ => rfl, fun j h hj => ?_, rfl⟩
      rcases Nat.lt_or_ge j k with h3 | h3
      · exact hP j h h3
      · obtain rfl : j = k := by omega
        exact hy
  · intro hP e T
    have hn : ¬ y ∈ ups x w := fun h => by
      obtain ⟨j, hj, rfl⟩ := List.getElem_of_mem h
      exact hP j hj (by simpa using hj) rfl
    simp -implicitDefEqProofs only [leafA, innerA, nodeA, patchA, Leaf.cells, Inner.cells, Node.cells, decide_true, decide_false, List.cons_append, List.nil_append, hn, go_sem, Nat.reduceEqDiff, reduceIte, Nat.reduceAdd, Nat.reduceLeDiff, Nat.reduceLT, Nat.reduceSub]
noncomputable def r255 : Reg seat := .of told255 (ask3 (fun a0' a1' a2' => isI a0' ∧ isI a1' ∧ isI a2') fun a0' a1' a2' => .fn (.bool (decide ((dI a1') ∈ ups (dI a0') (dI a2'))))) (ask3_ok fun a0' a1' a2' h => SaidOk.fn (Fun.weak (.cons (isI.weak h.1) (.cons (isI.weak h.2.1) (.cons (isI.weak h.2.2) .nil))) (under_spec _ _ _)))
theorem r255_c : r255.c = 255 := rfl
open Classical in
theorem r255_ask (a0' a1' a2' : AV) : r255.ask [a0', a1', a2'] = if isI a0' ∧ isI a1' ∧ isI a2' then some (Said.fn (.bool (decide ((dI a1') ∈ ups (dI a0') (dI a2'))))) else none := by unfold r255 Reg.of ask3; exact ite_cl
end Go.Proofs.YtihhinbjhiankaaGreatDoor.Al

set_option linter.unusedSimpArgs false
set_option linter.unusedVariables false
namespace Go.Proofs.YtihhinbjhiankaaGreatDoor.Al
open Go
attribute [local go_sem] W_mv W_pick W_alloc W_box W_build W_bslice W_load W_store W_bin W_isnil W_un W_convI W_convS W_mkiface W_mkfunc W_slice W_faddr W_iaddr W_idxA W_extract W_len W_min W_max W_append W_appendZ W_clear W_invoke thenQ_normal thenQ_exit thenQ_goto thenQ_ret blockQ_normal blockQ_ret blockQ_goto blockQ_exit wpc_skip wpc_region wpc_draw wpc_seq wpc_cond wpc_block wpc_exit wpc_goto wpc_label wpc_ret wpc_loop wpc_range wpc_scope condW_true condW_false condW_dec condW_any W_nil W_call resW_some evalOp Opd.ev updo_envL updo_none setL_cons setL_nil envL_cons Option.map_some Option.bind_some evBin evInt List.map_cons List.map_nil Option.pure_def Option.bind_eq_bind W_grd' grdW_tt grdW_ff grdW_tf grdW_ft grdW_tup grdW_dt grdW_df lgrdW_tup L_mv L_load L_bin L_un L_faddr L_iaddr L_nil L_call lresW_some upd_envL evUn beq_dec bne_dec leaves_ret1 leaves_ret0 leaves_end0 rowLen_ints load_iptr0 not_dec heap_get0 heap_get1 heap_set0 heap_set1 heap_len1 heap_app bslice1_int seen_ints seen_one0 bslice0_int Nat.sub_zero Bool.not_true Bool.not_false List.length_nil List.length_cons List.nil_append List.cons_append Nat.zero_add load_iptrA canon_ptrI canon_bool canon_tup canon_agg canon_ints' canon_ints0 rowLen_ints1 rowLen_octs seen_octs canon_octs' seen_intss seen_octss rowLen_nodes seen_nodes canon_nodes' rowLen_nodes3 seen_list cells_int oneIn_int cells_bool oneIn_bool cells_str oneIn_str cells_list oneIn_list cells_func oneIn_func cells_nilfunc oneIn_nilfunc cells_iptr oneIn_iptr cells_iface oneIn_iface cells_nilIface oneIn_nilIface cells_own cells_ptr cells_anybool oneIn_anybool cells_agg oneIn_own0 oneIn_own1 seenL1 seenM1 oneIn_ptr2 seenL2 oneIn_own3 seenL3 cells_ints oneIn_ints cells_octs oneIn_octs cells_intss oneIn_intss cells_octss oneIn_octss cells_nodes oneIn_nodes ldB0 ldA0 adB0 stB0 ldB1 ldA1 adB1 stB1 ldB2 ldA2 adB2 stB2 ldB3 ldA3 adB3 stB3 ldB4 ldA4 adB4 stB4 ldB5 ldA5 adB5 stB5 List.getElem?_cons_zero List.getElem?_cons_succ beq_self_eq_true splice List.take_zero List.take_succ_cons List.drop_zero List.drop_succ_cons List.append_nil List.set_cons_zero List.set_cons_succ List.all_cons List.all_nil Bool.and_self and_self and_true true_and Nat.lt_irrefl Nat.zero_lt_one Nat.le_refl fillA evNil notA Bool.false_eq_true evMin_int evMax_int Option.map_none freezeP_all_nil freezeP_all_cons frzE_box frzE_arr frzE_dead foldA List.foldlM_cons List.foldlM_nil callW_f lcallW_f ansW_fn ansW_own lansW_fn lansW_own ansW_none lansW_none tab_cons tab_nil dI_int dB_bool dO_octs dO_ints dO_list dO_nil dOs_nil dN_nodeA dLf_agg dIn_agg dN_agg dNs_nodes dNs_nil isI_int isB_bool isO_octs isO_nil isO_list isS_ints isS_nil isNs_nodes isNs_nil isN_nodeA isLf_agg isIn_agg isN_agg leaf_eta inner_eta node_eta leaf_zero inner_zero node_zero dP_agg isP_agg patch_eta decide_eq_true_eq decide_eq_false_iff_not eq_self forall_const true_implies false_implies Bool.not_eq_true' Bool.not_eq_false' Bool.true_eq_false implies_true ne_eq ldI ldIA adI AV.tup.injEq AV.agg.injEq List.cons.injEq AV.int.injEq AV.bool.injEq nodes_inj octs_inj ints_inj nil_nodes nil_octs nil_ints canon_nilL decide_eq_decide two_ne four_ne lendA_fn lendA_own lendA_none llendA_fn llendA_none false_and and_false Q_nil Q_l Q_g Q_h Q_grd qgrdW_b qgrdW_tup lightD_some heavyD_some readD_some fnD_some fnD_own fnD_none callL_f ownH_some litD_some litE_some Q_call Q_bslice H_call pendOk_nil pendOk_cons pastOk_nil pastOk_cons Q_mv Q_pick Q_bin Q_un Q_convI Q_mkfunc Q_extract Q_min Q_max Q_lenS Q_lenA Q_field Q_idxA Q_mkiface Q_tassert Q_alloc Q_box Q_store Q_mkslice Q_append Q_appendZ Q_copy Q_clear Q_build Q_load Q_nilck Q_isnil Q_convS Q_slice Q_faddr Q_iaddr Q_iaddrA Q_len H_alloc H_box H_bslice H_store H_mkslice H_append H_appendZ H_copy H_clear free_mv free_pick free_bin free_un free_convI free_mkfunc free_extract free_min free_max free_lenS free_lenA free_field free_idxA free_mkiface free_tassert free_build free_load free_nilck free_isnil free_convS free_slice free_faddr free_iaddr free_iaddrA free_len callW_y List.length_map List.length_set leaves_r evR_some evRess1 evRess2 evRess3 evRes_t evRes_c nz_kind nz_enc nz_cred nz_source nz_parent nz_ienc nz_hash nz_un true_or or_true bsl_node appI appO ixo_nodes canon_rowI canon_rowO not_false_eq_true not_true_eq_false ldE_a ldE_c adE_b stE_b onE_a onP_b bsl_zero
attribute [local go_sem low] condW_b grdW_b lgrdW_b ldP adP stP onO onPt
attribute [local simp] envL_cons envL_nil idb_int idb_bool idb_ints idb_nil idb_own idb_ptr idb_octs idb_nodes idb_leafA idb_innerA idb_nodeA idb_agg idb_tup idb_iptr idb_fn entB_dead entB_box
theorem sane_spec (t : List Node) (ht : Tree.Ok t) : Fun seat 101 [nodes t] (.bool (decide (Sane t))) := by
  have hl := ht.len
  refine Fun.of0R [r125] told101 (by simp [il101]) (by simp [idb_patchA]) (by simp [idb_patchA]) 4 ?_
  simp only [il101, List.zipIdx_cons, List.zipIdx_nil, leafA, innerA, nodeA, patchA, Leaf.cells, Inner.cells, Node.cells, r125_c, r125_ask, go_sem, Nat.reduceEqDiff, reduceIte, Nat.reduceAdd, Nat.reduceLeDiff, Nat.reduceLT, Nat.reduceSub]
  refine WP.loopG (fun k => k ≤ t.length ∧ ∀ j (h : j < t.length), j < k → Good j t[j]) (fun k => [(0, nodes t), (5, nodes t), (6, .int .i64 t.length), (7, .int .i64 k)]) (fun k => []) (fun k => t.length - k) 0 ⟨Nat.zero_le _, fun j _ h => absurd h (Nat.not_lt_zero j)⟩ (fun k _ => by simp [idb_patchA]) (by simp ) ?_
  rintro k ⟨hk, hno⟩
  refine wpc_soundR [r123, r124] ?_
  simp only [leafA, innerA, nodeA, patchA, Leaf.cells, Inner.cells, Node.cells, r123_c, r123_ask, r124_c, r124_ask, go_sem, Nat.reduceEqDiff, reduceIte, Nat.reduceAdd, Nat.reduceLeDiff, Nat.reduceLT, Nat.reduceSub]
  refine ⟨fun hlt => ?_, fun hge => ?_⟩
  · have hk' : k < t.length := by omega
    simp only [leafA, innerA, nodeA, patchA, Leaf.cells, Inner.cells, Node.cells, r123_c, r123_ask, r124_c, r124_ask, fun H => ix_nodes H t k hk', ht.at hk', go_sem, Nat.reduceEqDiff, reduceIte, Nat.reduceAdd, Nat.reduceLeDiff, Nat.reduceLT, Nat.reduceSub]
    have gd : Good k t[k] ↔ Stands k t[k].kind ∧ nodeCheck t[k] = 0 := Iff.rfl
    have bad : ¬ Good k t[k] → ¬ Sane t := fun h hs => h (hs.1 k hk')
    iterate 12 ((all_goals intros); (all_goals try refine And.intro ?_ ?_))
    all_goals first | (show WP _ _ _ _ _ _ _) | exact ⟨k + 1, ⟨hk', scanS hno fun _ => by grind⟩, by omega, by simp [wrapS (show k < 9223372036854775807 by omega)]⟩ | grind
  · have hno1 := scanE hno hge
    have e : Sane t ↔ t.length = 0 ∨ Whole t.length := ⟨fun h => h.2, fun h => ⟨hno1, h⟩⟩
    simp only [leafA, innerA, nodeA, patchA, Leaf.cells, Inner.cells, Node.cells, r125_c, r125_ask, go_sem, Nat.reduceEqDiff, reduceIte, Nat.reduceAdd, Nat.reduceLeDiff, Nat.reduceLT, Nat.reduceSub]
    iterate 12 ((all_goals intros); (all_goals try refine And.intro ?_ ?_))
    all_goals first | (show WP _ _ _ _ _ _ _) | grind
noncomputable def r101 : Reg seat := .of told101 (ask1 (fun a0' => isNs a0' ∧ Tree.Ok (dNs a0')) fun a0' => .fn (.bool (decide (Sane (dNs a0'))))) (ask1_ok fun a0' h => SaidOk.fn (Fun.weak (.cons (isNs.weak h.1) .nil) (sane_spec _ h.2)))
theorem r101_c : r101.c = 101 := rfl
open Classical in
theorem r101_ask (a0' : AV) : r101.ask [a0'] = if isNs a0' ∧ Tree.Ok (dNs a0') then some (Said.fn (.bool (decide (Sane (dNs a0'))))) else none := by unfold r101 Reg.of ask1; exact ite_cl

theorem known_spec (t : List Node) (ht : Tree.Ok t) : Fun seat 126 [nodes t] (nodes (known t)) := by
  refine Fun.of0R [r101] told126 (by simp [il126]) (by simp [idb_patchA]) (by simp [idb_patchA]) 4 ?_
  simp only [il126, List.zipIdx_cons, List.zipIdx_nil, leafA, innerA, nodeA, patchA, Leaf.cells, Inner.cells, Node.cells, r101_c, r101_ask, ht, go_sem, Nat.reduceEqDiff, reduceIte, Nat.reduceAdd, Nat.reduceLeDiff, Nat.reduceLT, Nat.reduceSub]
  iterate 12 ((all_goals intros); (all_goals try refine And.intro ?_ ?_))
  all_goals first | (show WP _ _ _ _ _ _ _) | grind [known]
noncomputable def r126 : Reg seat := .of told126 (ask1 (fun a0' => isNs a0' ∧ Tree.Ok (dNs a0')) fun a0' => .fn (nodes (known (dNs a0')))) (ask1_ok fun a0' h => SaidOk.fn (Fun.weak (.cons (isNs.weak h.1) .nil) (known_spec _ h.2)))
theorem r126_c : r126.c = 126 := rfl
open Classical in
theorem r126_ask (a0' : AV) : r126.ask [a0'] = if isNs a0' ∧ Tree.Ok (dNs a0') then some (Said.fn (nodes (known (dNs a0')))) else none := by unfold r126 Reg.of ask1; exact ite_cl
theorem leaves_spec (t : List Node) (ht : Tree.Ok t) : Fun seat 103 [nodes t] (.int .i64 (leaves_ t)) := by
  have := known_len t
  refine Fun.of0R [r126] told103 (by simp [il103]) (by simp [idb_patchA]) (by simp [idb_patchA]) 4 ?_
  simp only [il103, List.zipIdx_cons, List.zipIdx_nil, leafA, innerA, nodeA, patchA, Leaf.cells, Inner.cells, Node.cells, r126_c, r126_ask, ht, quo2 ((known t).length + 1) (by omega), wrap64s ((known t).length + 1) (by omega), go_sem, Nat.reduceEqDiff, reduceIte, Nat.reduceAdd, Nat.reduceLeDiff, Nat.reduceLT, Nat.reduceSub]
  rfl
noncomputable def r103 : Reg seat := .of told103 (ask1 (fun a0' => isNs a0' ∧ Tree.Ok (dNs a0')) fun a0' => .fn (.int .i64 (leaves_ (dNs a0')))) (ask1_ok fun a0' h => SaidOk.fn (Fun.weak (.cons (isNs.weak h.1) .nil) (leaves_spec _ h.2)))
theorem r103_c : r103.c = 103 := rfl
open Classical in
theorem r103_ask (a0' : AV) : r103.ask [a0'] = if isNs a0' ∧ Tree.Ok (dNs a0') then some (Said.fn (.int .i64 (leaves_ (dNs a0')))) else none := by unfold r103 Reg.of ask1; exact ite_cl

/-- Are there few nodes, of few octets? -/
def Few (t : List Node) : Prop := (∀ x (h : x < t.length), nodeFew t[x]) ∧ t.length ≤ 300
instance (t : List Node) : Decidable (Few t) := inferInstanceAs (Decidable (_ ∧ _))
theorem few_spec (t : List Node) (ht : Tree.Ok t) : Fun seat 100 [nodes t] (.bool (decide (Few t))) := by
  have hl := ht.len
  refine Fun.of0R [] told100 (by simp [il100]) (by simp [idb_patchA]) (by simp [idb_patchA]) 4 ?_
  simp only [il100, List.zipIdx_cons, List.zipIdx_nil, leafA, innerA, nodeA, patchA, Leaf.cells, Inner.cells, Node.cells, go_sem, Nat.reduceEqDiff, reduceIte, Nat.reduceAdd, Nat.reduceLeDiff, Nat.reduceLT, Nat.reduceSub]
  refine WP.loop0 (fun k => k ≤ t.length ∧ ∀ j (h : j < t.length), j < k → nodeFew t[j]) (fun k => [(0, nodes t), (3, .int .i64 k)]) (fun k => t.length - k) 0 ⟨Nat.zero_le _, fun j _ h => absurd h (Nat.not_lt_zero j)⟩ (fun k _ => by simp [idb_patchA]) (by simp ) ?_
  rintro k ⟨hk, hno⟩
  refine wpc_soundR [r122] ?_
  simp only [leafA, innerA, nodeA, patchA, Leaf.cells, Inner.cells, Node.cells, r122_c, r122_ask, go_sem, Nat.reduceEqDiff, reduceIte, Nat.reduceAdd, Nat.reduceLeDiff, Nat.reduceLT, Nat.reduceSub]
  refine ⟨fun hlt => ?_, fun hge => ?_⟩
  · have hk' : k < t.length := by omega
    simp only [leafA, innerA, nodeA, patchA, Leaf.cells, Inner.cells, Node.cells, r122_c, r122_ask, fun H => ix_nodes H t k hk', ht.at hk', go_sem, Nat.reduceEqDiff, reduceIte, Nat.reduceAdd, Nat.reduceLeDiff, Nat.reduceLT, Nat.reduceSub]
    have bad : ¬ nodeFew t[k] → ¬ Few t := fun h hs => h (hs.1 k hk')
    iterate 12 ((all_goals intros); (all_goals try refine And.intro ?_ ?_))
    all_goals first | (show WP _ _ _ _ _ _ _) | exact ⟨k + 1, ⟨hk', scanS hno fun _ => by grind⟩, by omega, by simp [wrapS (show k < 9223372036854775807 by omega)]⟩ | grind
  · have hno1 := scanE hno hge
    have e : Few t ↔ t.length ≤ 300 := ⟨fun h => h.2, fun h => ⟨hno1, h⟩⟩
    simp only [e]
    omega
noncomputable def r100 : Reg seat := .of told100 (ask1 (fun a0' => isNs a0' ∧ Tree.Ok (dNs a0')) fun a0' => .fn (.bool (decide (Few (dNs a0'))))) (ask1_ok fun a0' h => SaidOk.fn (Fun.weak (.cons (isNs.weak h.1) .nil) (few_spec _ h.2)))
theorem r100_c : r100.c = 100 := rfl
open Classical in
theorem r100_ask (a0' : AV) : r100.ask [a0'] = if isNs a0' ∧ Tree.Ok (dNs a0') then some (Said.fn (.bool (decide (Few (dNs a0'))))) else none := by unfold r100 Reg.of ask1; exact ite_cl

theorem nodesSame_spec (a b : List Node) (ha : Tree.Ok a) (hb : Tree.Ok b) : Fun seat 106 [nodes a, nodes b] (.bool (decide (a = b))) := by
  have hla := ha.len
  have c0 : ¬ a.length = b.length → ¬ a = b := fun h e => h (by rw [e])
  refine Fun.of0R [] told106 (by simp [il106]) (by simp [idb_patchA]) (by simp [idb_patchA]) 4 ?_
  simp only [il106, List.zipIdx_cons, List.zipIdx_nil, leafA, innerA, nodeA, patchA, Leaf.cells, Inner.cells, Node.cells, go_sem, Nat.reduceEqDiff, reduceIte, Nat.reduceAdd, Nat.reduceLeDiff, Nat.reduceLT, Nat.reduceSub]
  iterate 12 ((all_goals intros); (all_goals try refine And.intro ?_ ?_))
  all_goals first | (show WP _ _ _ _ _ _ _) | grind
  have hl : a.length = b.length := by omega
  refine WP.loop0 (fun k => k ≤ a.length ∧ ∀ j (h : j < a.length), j < k → a[j] = b[j]'(by omega)) (fun k => [(0, nodes a), (1, nodes b), (5, .int .i64 k)]) (fun k => a.length - k) 0 ⟨Nat.zero_le _, fun j _ h => absurd h (Nat.not_lt_zero j)⟩ (fun k _ => by simp [idb_patchA]) (by simp ) ?_
  rintro k ⟨hk, hno⟩
  refine wpc_soundR [] ?_
  simp only [leafA, innerA, nodeA, patchA, Leaf.cells, Inner.cells, Node.cells, go_sem, Nat.reduceEqDiff, reduceIte, Nat.reduceAdd, Nat.reduceLeDiff, Nat.reduceLT, Nat.reduceSub]
  refine ⟨fun hlt => ?_, fun hge => ?_⟩
  · have hk' : k < a.length := by omega
    refine WP.drawR [r130] mixed (by decide) ?_
    simp only [leafA, innerA, nodeA, patchA, Leaf.cells, Inner.cells, Node.cells, r130_c, r130_ask, fun H => ix_nodes H a k hk', fun H => ix_nodes H b k (by omega), ha.at hk', hb.at (show k < b.length by omega), go_sem, Nat.reduceEqDiff, reduceIte, Nat.reduceAdd, Nat.reduceLeDiff, Nat.reduceLT, Nat.reduceSub]
    have bad : ¬ a[k] = b[k] → ¬ a = b := fun h e => h (by simp only [e])
    iterate 12 ((all_goals intros); (all_goals try refine And.intro ?_ ?_))
    all_goals first | (show WP _ _ _ _ _ _ _) | exact ⟨k + 1, ⟨hk', scanS hno fun _ => by grind⟩, by omega, by simp [wrapS (show k < 9223372036854775807 by omega)]⟩ | grind
  · have hno1 := scanE hno hge
    have e : a = b := List.ext_getElem hl fun j h1 h2 => hno1 j h1
    grind
noncomputable def r106 : Reg seat := .of told106 (ask2 (fun a0' a1' => isNs a0' ∧ isNs a1' ∧ Tree.Ok (dNs a0') ∧ Tree.Ok (dNs a1')) fun a0' a1' => .fn (.bool (decide ((dNs a0') = (dNs a1'))))) (ask2_ok fun a0' a1' h => SaidOk.fn (Fun.weak (.cons (isNs.weak h.1) (.cons (isNs.weak h.2.1) .nil)) (nodesSame_spec _ _ h.2.2.1 h.2.2.2)))
theorem r106_c : r106.c = 106 := rfl
open Classical in
theorem r106_ask (a0' a1' : AV) : r106.ask [a0', a1'] = if isNs a0' ∧ isNs a1' ∧ Tree.Ok (dNs a0') ∧ Tree.Ok (dNs a1') then some (Said.fn (.bool (decide ((dNs a0') = (dNs a1'))))) else none := by unfold r106 Reg.of ask2; exact ite_cl
end Go.Proofs.YtihhinbjhiankaaGreatDoor.Al

set_option linter.unusedSimpArgs false
set_option linter.unusedVariables false
namespace Go.Proofs.YtihhinbjhiankaaGreatDoor.Al
open Go
attribute [local go_sem] W_mv W_pick W_alloc W_box W_build W_bslice W_load W_store W_bin W_isnil W_un W_convI W_convS W_mkiface W_mkfunc W_slice W_faddr W_iaddr W_idxA W_extract W_len W_min W_max W_append W_appendZ W_clear W_invoke thenQ_normal thenQ_exit thenQ_goto thenQ_ret blockQ_normal blockQ_ret blockQ_goto blockQ_exit wpc_skip wpc_region wpc_draw wpc_seq wpc_cond wpc_block wpc_exit wpc_goto wpc_label wpc_ret wpc_loop wpc_range wpc_scope condW_true condW_false condW_dec condW_any W_nil W_call resW_some evalOp Opd.ev updo_envL updo_none setL_cons setL_nil envL_cons Option.map_some Option.bind_some evBin evInt List.map_cons List.map_nil Option.pure_def Option.bind_eq_bind W_grd' grdW_tt grdW_ff grdW_tf grdW_ft grdW_tup grdW_dt grdW_df lgrdW_tup L_mv L_load L_bin L_un L_faddr L_iaddr L_nil L_call lresW_some upd_envL evUn beq_dec bne_dec leaves_ret1 leaves_ret0 leaves_end0 rowLen_ints load_iptr0 not_dec heap_get0 heap_get1 heap_set0 heap_set1 heap_len1 heap_app bslice1_int seen_ints seen_one0 bslice0_int Nat.sub_zero Bool.not_true Bool.not_false List.length_nil List.length_cons List.nil_append List.cons_append Nat.zero_add load_iptrA canon_ptrI canon_bool canon_tup canon_agg canon_ints' canon_ints0 rowLen_ints1 rowLen_octs seen_octs canon_octs' seen_intss seen_octss rowLen_nodes seen_nodes canon_nodes' rowLen_nodes3 seen_list cells_int oneIn_int cells_bool oneIn_bool cells_str oneIn_str cells_list oneIn_list cells_func oneIn_func cells_nilfunc oneIn_nilfunc cells_iptr oneIn_iptr cells_iface oneIn_iface cells_nilIface oneIn_nilIface cells_own cells_ptr cells_anybool oneIn_anybool cells_agg oneIn_own0 oneIn_own1 seenL1 seenM1 oneIn_ptr2 seenL2 oneIn_own3 seenL3 cells_ints oneIn_ints cells_octs oneIn_octs cells_intss oneIn_intss cells_octss oneIn_octss cells_nodes oneIn_nodes ldB0 ldA0 adB0 stB0 ldB1 ldA1 adB1 stB1 ldB2 ldA2 adB2 stB2 ldB3 ldA3 adB3 stB3 ldB4 ldA4 adB4 stB4 ldB5 ldA5 adB5 stB5 List.getElem?_cons_zero List.getElem?_cons_succ beq_self_eq_true splice List.take_zero List.take_succ_cons List.drop_zero List.drop_succ_cons List.append_nil List.set_cons_zero List.set_cons_succ List.all_cons List.all_nil Bool.and_self and_self and_true true_and Nat.lt_irrefl Nat.zero_lt_one Nat.le_refl fillA evNil notA Bool.false_eq_true evMin_int evMax_int Option.map_none freezeP_all_nil freezeP_all_cons frzE_box frzE_arr frzE_dead foldA List.foldlM_cons List.foldlM_nil callW_f lcallW_f ansW_fn ansW_own lansW_fn lansW_own ansW_none lansW_none tab_cons tab_nil dI_int dB_bool dO_octs dO_ints dO_list dO_nil dOs_nil dN_nodeA dLf_agg dIn_agg dN_agg dNs_nodes dNs_nil isI_int isB_bool isO_octs isO_nil isO_list isS_ints isS_nil isNs_nodes isNs_nil isN_nodeA isLf_agg isIn_agg isN_agg leaf_eta inner_eta node_eta leaf_zero inner_zero node_zero dP_agg isP_agg patch_eta decide_eq_true_eq decide_eq_false_iff_not eq_self forall_const true_implies false_implies Bool.not_eq_true' Bool.not_eq_false' Bool.true_eq_false implies_true ne_eq ldI ldIA adI AV.tup.injEq AV.agg.injEq List.cons.injEq AV.int.injEq AV.bool.injEq nodes_inj octs_inj ints_inj nil_nodes nil_octs nil_ints canon_nilL decide_eq_decide two_ne four_ne lendA_fn lendA_own lendA_none llendA_fn llendA_none false_and and_false Q_nil Q_l Q_g Q_h Q_grd qgrdW_b qgrdW_tup lightD_some heavyD_some readD_some fnD_some fnD_own fnD_none callL_f ownH_some litD_some litE_some Q_call Q_bslice H_call pendOk_nil pendOk_cons pastOk_nil pastOk_cons Q_mv Q_pick Q_bin Q_un Q_convI Q_mkfunc Q_extract Q_min Q_max Q_lenS Q_lenA Q_field Q_idxA Q_mkiface Q_tassert Q_alloc Q_box Q_store Q_mkslice Q_append Q_appendZ Q_copy Q_clear Q_build Q_load Q_nilck Q_isnil Q_convS Q_slice Q_faddr Q_iaddr Q_iaddrA Q_len H_alloc H_box H_bslice H_store H_mkslice H_append H_appendZ H_copy H_clear free_mv free_pick free_bin free_un free_convI free_mkfunc free_extract free_min free_max free_lenS free_lenA free_field free_idxA free_mkiface free_tassert free_build free_load free_nilck free_isnil free_convS free_slice free_faddr free_iaddr free_iaddrA free_len callW_y List.length_map List.length_set leaves_r evR_some evRess1 evRess2 evRess3 evRes_t evRes_c nz_kind nz_enc nz_cred nz_source nz_parent nz_ienc nz_hash nz_un true_or or_true bsl_node appI appO ixo_nodes canon_rowI canon_rowO not_false_eq_true not_true_eq_false ldE_a ldE_c adE_b stE_b onE_a onP_b bsl_zero
attribute [local go_sem low] condW_b grdW_b lgrdW_b ldP adP stP onO onPt
attribute [local simp] envL_cons envL_nil idb_int idb_bool idb_ints idb_nil idb_own idb_ptr idb_octs idb_nodes idb_leafA idb_innerA idb_nodeA idb_agg idb_tup idb_iptr idb_fn entB_dead entB_box
def zeroA : AV := .agg [.int .i64 0, .list true [], .list true [], .int .i64 0, .list true [], .list true [], .list true [], .list true []]
theorem back_spec (l : List Node) : Fun seat 128 [nodes l] (.func (.f 148) [] [.iptr [nodes l] 0]) := by
  refine Fun.of0W told128 (by simp [il128]) (by simp ) (by simp ) 0 ?_
  simp only [il128, List.zipIdx_cons, List.zipIdx_nil, Nat.zero_add, List.map_cons, List.map_nil]
  refine WP.seqS [(0, nodes l), (1, .ptr 0 0), (2, .nilfunc)] [.box [nodes l]] (by simp only [go_sem, Nat.reduceEqDiff, reduceIte, Nat.reduceAdd, Nat.reduceLeDiff, Nat.reduceLT, Nat.reduceSub]; simp ) ?_
  refine WP.sealB 1 0 rfl rfl ?_
  refine wpc_sound ?_
  simp only [go_sem, Nat.reduceEqDiff, reduceIte, Nat.reduceAdd, Nat.reduceLeDiff, Nat.reduceLT, Nat.reduceSub]
  rfl
noncomputable def r128 : Reg seat := .of told128 (ask1 (fun a0' => isNs a0') fun a0' => .fn (.func (.f 148) [] [.iptr [nodes (dNs a0')] 0])) (ask1_ok fun a0' h => SaidOk.fn (Fun.weak (.cons (isNs.weak h) .nil) (back_spec _)))
theorem r128_c : r128.c = 128 := rfl
open Classical in
theorem r128_ask (a0' : AV) : r128.ask [a0'] = if isNs a0' then some (Said.fn (.func (.f 148) [] [.iptr [nodes (dNs a0')] 0])) else none := by unfold r128 Reg.of ask1; exact ite_cl

/-- Places and nodes, the last one first. -/
def backs (l : List Node) : List (List AV) := (List.range l.length).map fun k => [.int .i64 ((l.length - 1 - k : Nat) : Int), nodeA (nodeAt l (l.length - 1 - k))]
theorem backs_len (l : List Node) : (backs l).length = l.length := by simp [backs]
theorem backs_at (l : List Node) (k : Nat) (h : k < (backs l).length) : (backs l)[k] = [.int .i64 ((l.length - 1 - k : Nat) : Int), nodeA (nodeAt l (l.length - 1 - k))] := by simp [backs]
theorem backIter (l : List Node) (hl : l.length ≤ 9223372036854775807) : GivesL seat 148 [.iptr [nodes l] 0] (backs l) := by
  intro id H0 J Jx h0 hround
  rw [backs_len]
  refine ACall.of_wp told148 (by simp [il148]) (wpc_sound ?_)
  rw [start_env]
  simp only [il148, List.zipIdx_cons, List.zipIdx_nil, go_sem, Nat.reduceEqDiff, reduceIte, Nat.reduceAdd, Nat.reduceLeDiff, Nat.reduceLT, Nat.reduceSub, wrap64s ((l.length : Int) - 1) (by omega)]
  refine WP.loopJ (fun k : Nat => [(0, .func (.y id) [] []), (1, .iptr [nodes l] 0), (3, .int .i64 ((l.length : Int) - 1 - k))]) (fun k H => k ≤ l.length ∧ J k H) (fun k => l.length - k) 0 (by simp) ⟨Nat.zero_le _, h0⟩ ?_
  rintro k H ⟨hk, hj⟩
  refine wpc_sound ?_
  simp only [go_sem, Nat.reduceEqDiff, reduceIte, Nat.reduceAdd, Nat.reduceLeDiff, Nat.reduceLT, Nat.reduceSub]
  refine ⟨fun h => ?_, fun h => ?_⟩
  · have hk' : k < l.length := by omega
    have e : (l.length : Int) - 1 - k = ((l.length - 1 - k : Nat) : Int) := by omega
    have hr := hround k (by rw [backs_len]; exact hk') H hj
    rw [backs_at _ _ (by rw [backs_len]; exact hk'), nodeAt_lt (show l.length - 1 - k < l.length by omega)] at hr
    rw [e]
    simp only [leafA, innerA, nodeA, patchA, Leaf.cells, Inner.cells, Node.cells, fun H => ix_nodes H l (l.length - 1 - k) (by omega), go_sem, Nat.reduceEqDiff, reduceIte, Nat.reduceAdd, Nat.reduceLeDiff, Nat.reduceLT, Nat.reduceSub]
    refine Callee.yld hr ?_
    rintro r H' (⟨rfl, hj'⟩ | ⟨rfl, hx⟩)
    · simp only [go_sem, Nat.reduceEqDiff, reduceIte, Nat.reduceAdd, Nat.reduceLeDiff, Nat.reduceLT, Nat.reduceSub]
      exact ⟨k + 1, ⟨hk', hj'⟩, by omega, by simp [wrap64s (((l.length - 1 - k : Nat) : Int) - 1) (by omega)]; omega⟩
    · simp only [go_sem, Nat.reduceEqDiff, reduceIte, Nat.reduceAdd, Nat.reduceLeDiff, Nat.reduceLT, Nat.reduceSub]
      exact .inr hx
  · have hke : k = l.length := by omega
    subst hke
    exact .inl hj

theorem last_spec (t : List Node) (ht : Tree.Ok t) : Fun seat 104 [nodes t] (.int .i64 (lastT t)) := by
  have hl := known_len t
  have hk0 := known_ok ht
  unfold lastT
  refine Fun.of0R [r126, r128] told104 (by simp [il104]) (by simp [idb_patchA]) (by simp [idb_patchA]) 4 ?_
  simp only [il104, List.zipIdx_cons, List.zipIdx_nil, leafA, innerA, nodeA, patchA, Leaf.cells, Inner.cells, Node.cells, r126_c, r126_ask, r128_c, r128_ask, ht, go_sem, Nat.reduceEqDiff, reduceIte, Nat.reduceAdd, Nat.reduceLeDiff, Nat.reduceLT, Nat.reduceSub]
  generalize known t = a at *
  have hpk : ∀ k, k < (backs a).length → a.length - 1 - k < a.length := fun k h => by rw [backs_len] at h; omega
  refine WP.rangeL (c := 148) (cap := [.iptr [nodes a] 0]) (backs a) (by simp only [go_sem, Nat.reduceEqDiff, reduceIte, Nat.reduceAdd, Nat.reduceLeDiff, Nat.reduceLT, Nat.reduceSub]) (Callable.of told148) (backIter a (by omega)) (fun x hx => by obtain ⟨k, _, rfl⟩ := List.mem_map.1 hx; rfl)
    (fun _ => [.box [.int .i64 0]]) (fun k => ∀ j, a.length - k ≤ j → j < a.length → (nodeAt a j).kind = 0) (fun _ => rfl) (fun j h1 h2 => by omega) rfl ?_ ?_
  · intro k hk hp l T b hb
    have hk' := hpk k hk
    rw [backs_at _ _ hk]
    have e := nodeAt_lt hk'
    generalize hm : a.length - 1 - k = m at *
    have hmk : m < a.length := by omega
    refine wpc_sound ?_
    have g0 := tail_get (G := []) (e := Entry.box [.int .i64 0]) T (.box [.int .i64 0, .list true [], .list true [], .int .i64 0, .list true [], .list true [], .list true [], .list true []])
    simp only [setPs, go_sem, Nat.reduceEqDiff, reduceIte, Nat.reduceAdd, Nat.reduceLeDiff, Nat.reduceLT, Nat.reduceSub, st_node (nodeAt a m) g0 rfl, tail_set (G := []) T]
    refine ⟨_, rfl, fun T' hT' => wpc_soundR [r127] ?_⟩
    have g1 : (Entry.box [.int .i64 0] :: (T' ++ [.box (nodeA (nodeAt a m)).cells]))[T.length + 1]? = some (.box (nodeA (nodeAt a m)).cells) := by rw [← hT']; exact tail_get (G := []) T' _
    simp only [go_sem, Nat.reduceEqDiff, reduceIte, Nat.reduceAdd, Nat.reduceLeDiff, Nat.reduceLT, Nat.reduceSub, ld_node g1, r127_c, r127_ask]
    have hz : (nodeAt a m).kind ≠ 0 → lastN (fun x => decide ¬ (nodeAt a x).kind = 0) a.length = some m := fun h => lastN_some (by simpa using h) hmk fun j h1 h2 => by
      have := hp j (by omega) h2
      simp [this]
    refine ⟨fun h => ?_, fun h => ?_⟩
    · refine ⟨[.box [.int .i64 m]], _, rfl, rfl, fun i hi => List.getElem?_append_left hi, .ret, rfl, fun T3 => ?_⟩
      rw [hz h]
      simp only [go_sem, Nat.reduceEqDiff, reduceIte, Nat.reduceAdd, Nat.reduceLeDiff, Nat.reduceLT, Nat.reduceSub, Jump.leave, optI, List.cons_append, List.nil_append]
    · refine ⟨_, _, rfl, rfl, fun i hi => List.getElem?_append_left hi, fun j h1 h2 => ?_, rfl⟩
      rcases Nat.lt_or_ge m j with h3 | h3
      · exact hp j (by omega) h2
      · obtain rfl : j = m := by omega
        exact Classical.not_not.1 h
  · intro hp T
    simp only [go_sem, Nat.reduceEqDiff, reduceIte, Nat.reduceAdd, Nat.reduceLeDiff, Nat.reduceLT, Nat.reduceSub]
    rw [lastN_none fun j hj => by have := hp j (by rw [backs_len]; omega) hj; simp [this]]
    rfl
noncomputable def r104 : Reg seat := .of told104 (ask1 (fun a0' => isNs a0' ∧ Tree.Ok (dNs a0')) fun a0' => .fn (.int .i64 (lastT (dNs a0')))) (ask1_ok fun a0' h => SaidOk.fn (Fun.weak (.cons (isNs.weak h.1) .nil) (last_spec _ h.2)))
theorem r104_c : r104.c = 104 := rfl
open Classical in
theorem r104_ask (a0' : AV) : r104.ask [a0'] = if isNs a0' ∧ Tree.Ok (dNs a0') then some (Said.fn (.int .i64 (lastT (dNs a0')))) else none := by unfold r104 Reg.of ask1; exact ite_cl

end Go.Proofs.YtihhinbjhiankaaGreatDoor.Al

set_option linter.unusedSimpArgs false
set_option linter.unusedVariables false
namespace Go.Proofs.YtihhinbjhiankaaGreatDoor.Al
open Go
attribute [local go_sem] W_mv W_pick W_alloc W_box W_build W_bslice W_load W_store W_bin W_isnil W_un W_convI W_convS W_mkiface W_mkfunc W_slice W_faddr W_iaddr W_idxA W_extract W_len W_min W_max W_append W_appendZ W_clear W_invoke thenQ_normal thenQ_exit thenQ_goto thenQ_ret blockQ_normal blockQ_ret blockQ_goto blockQ_exit wpc_skip wpc_region wpc_draw wpc_seq wpc_cond wpc_block wpc_exit wpc_goto wpc_label wpc_ret wpc_loop wpc_range wpc_scope condW_true condW_false condW_dec condW_any W_nil W_call resW_some evalOp Opd.ev updo_envL updo_none setL_cons setL_nil envL_cons Option.map_some Option.bind_some evBin evInt List.map_cons List.map_nil Option.pure_def Option.bind_eq_bind W_grd' grdW_tt grdW_ff grdW_tf grdW_ft grdW_tup grdW_dt grdW_df lgrdW_tup L_mv L_load L_bin L_un L_faddr L_iaddr L_nil L_call lresW_some upd_envL evUn beq_dec bne_dec leaves_ret1 leaves_ret0 leaves_end0 rowLen_ints load_iptr0 not_dec heap_get0 heap_get1 heap_set0 heap_set1 heap_len1 heap_app bslice1_int seen_ints seen_one0 bslice0_int Nat.sub_zero Bool.not_true Bool.not_false List.length_nil List.length_cons List.nil_append List.cons_append Nat.zero_add load_iptrA canon_ptrI canon_bool canon_tup canon_agg canon_ints' canon_ints0 rowLen_ints1 rowLen_octs seen_octs canon_octs' seen_intss seen_octss rowLen_nodes seen_nodes canon_nodes' rowLen_nodes3 seen_list cells_int oneIn_int cells_bool oneIn_bool cells_str oneIn_str cells_list oneIn_list cells_func oneIn_func cells_nilfunc oneIn_nilfunc cells_iptr oneIn_iptr cells_iface oneIn_iface cells_nilIface oneIn_nilIface cells_own cells_ptr cells_anybool oneIn_anybool cells_agg oneIn_own0 oneIn_own1 seenL1 seenM1 oneIn_ptr2 seenL2 oneIn_own3 seenL3 cells_ints oneIn_ints cells_octs oneIn_octs cells_intss oneIn_intss cells_octss oneIn_octss cells_nodes oneIn_nodes ldB0 ldA0 adB0 stB0 ldB1 ldA1 adB1 stB1 ldB2 ldA2 adB2 stB2 ldB3 ldA3 adB3 stB3 ldB4 ldA4 adB4 stB4 ldB5 ldA5 adB5 stB5 List.getElem?_cons_zero List.getElem?_cons_succ beq_self_eq_true splice List.take_zero List.take_succ_cons List.drop_zero List.drop_succ_cons List.append_nil List.set_cons_zero List.set_cons_succ List.all_cons List.all_nil Bool.and_self and_self and_true true_and Nat.lt_irrefl Nat.zero_lt_one Nat.le_refl fillA evNil notA Bool.false_eq_true evMin_int evMax_int Option.map_none freezeP_all_nil freezeP_all_cons frzE_box frzE_arr frzE_dead foldA List.foldlM_cons List.foldlM_nil
attribute [local simp] envL_cons envL_nil idb_int idb_bool idb_ints idb_nil idb_own idb_ptr idb_octs idb_nodes idb_leafA idb_innerA idb_nodeA idb_agg idb_tup idb_iptr idb_fn entB_dead entB_box
end Go.Proofs.YtihhinbjhiankaaGreatDoor.Al

set_option linter.unusedSimpArgs false
set_option linter.unusedVariables false
namespace Go.Proofs.YtihhinbjhiankaaGreatDoor.Al
open Go
attribute [local go_sem] W_mv W_pick W_alloc W_box W_build W_bslice W_load W_store W_bin W_isnil W_un W_convI W_convS W_mkiface W_mkfunc W_slice W_faddr W_iaddr W_idxA W_extract W_len W_min W_max W_append W_appendZ W_clear W_invoke thenQ_normal thenQ_exit thenQ_goto thenQ_ret blockQ_normal blockQ_ret blockQ_goto blockQ_exit wpc_skip wpc_region wpc_draw wpc_seq wpc_cond wpc_block wpc_exit wpc_goto wpc_label wpc_ret wpc_loop wpc_range wpc_scope condW_true condW_false condW_dec condW_any W_nil W_call resW_some evalOp Opd.ev updo_envL updo_none setL_cons setL_nil envL_cons Option.map_some Option.bind_some evBin evInt List.map_cons List.map_nil Option.pure_def Option.bind_eq_bind W_grd' grdW_tt grdW_ff grdW_tf grdW_ft grdW_tup grdW_dt grdW_df lgrdW_tup L_mv L_load L_bin L_un L_faddr L_iaddr L_nil L_call lresW_some upd_envL evUn beq_dec bne_dec leaves_ret1 leaves_ret0 leaves_end0 rowLen_ints load_iptr0 not_dec heap_get0 heap_get1 heap_set0 heap_set1 heap_len1 heap_app bslice1_int seen_ints seen_one0 bslice0_int Nat.sub_zero Bool.not_true Bool.not_false List.length_nil List.length_cons List.nil_append List.cons_append Nat.zero_add load_iptrA canon_ptrI canon_bool canon_tup canon_agg canon_ints' canon_ints0 rowLen_ints1 rowLen_octs seen_octs canon_octs' seen_intss seen_octss rowLen_nodes seen_nodes canon_nodes' rowLen_nodes3 seen_list cells_int oneIn_int cells_bool oneIn_bool cells_str oneIn_str cells_list oneIn_list cells_func oneIn_func cells_nilfunc oneIn_nilfunc cells_iptr oneIn_iptr cells_iface oneIn_iface cells_nilIface oneIn_nilIface cells_own cells_ptr cells_anybool oneIn_anybool cells_agg oneIn_own0 oneIn_own1 seenL1 seenM1 oneIn_ptr2 seenL2 oneIn_own3 seenL3 cells_ints oneIn_ints cells_octs oneIn_octs cells_intss oneIn_intss cells_octss oneIn_octss cells_nodes oneIn_nodes ldB0 ldA0 adB0 stB0 ldB1 ldA1 adB1 stB1 ldB2 ldA2 adB2 stB2 ldB3 ldA3 adB3 stB3 ldB4 ldA4 adB4 stB4 ldB5 ldA5 adB5 stB5 List.getElem?_cons_zero List.getElem?_cons_succ beq_self_eq_true splice List.take_zero List.take_succ_cons List.drop_zero List.drop_succ_cons List.append_nil List.set_cons_zero List.set_cons_succ List.all_cons List.all_nil Bool.and_self and_self and_true true_and Nat.lt_irrefl Nat.zero_lt_one Nat.le_refl fillA evNil notA Bool.false_eq_true evMin_int evMax_int Option.map_none freezeP_all_nil freezeP_all_cons frzE_box frzE_arr frzE_dead foldA List.foldlM_cons List.foldlM_nil callW_f lcallW_f ansW_fn ansW_own lansW_fn lansW_own ansW_none lansW_none tab_cons tab_nil dI_int dB_bool dO_octs dO_ints dO_list dO_nil dOs_nil dN_nodeA dLf_agg dIn_agg dN_agg dNs_nodes dNs_nil isI_int isB_bool isO_octs isO_nil isO_list isS_ints isS_nil isNs_nodes isNs_nil isN_nodeA isLf_agg isIn_agg isN_agg leaf_eta inner_eta node_eta leaf_zero inner_zero node_zero dP_agg isP_agg patch_eta decide_eq_true_eq decide_eq_false_iff_not eq_self forall_const true_implies false_implies Bool.not_eq_true' Bool.not_eq_false' Bool.true_eq_false implies_true ne_eq ldI ldIA adI AV.tup.injEq AV.agg.injEq List.cons.injEq AV.int.injEq AV.bool.injEq nodes_inj octs_inj ints_inj nil_nodes nil_octs nil_ints canon_nilL decide_eq_decide two_ne four_ne lendA_fn lendA_own lendA_none llendA_fn llendA_none false_and and_false Q_nil Q_l Q_g Q_h Q_grd qgrdW_b qgrdW_tup lightD_some heavyD_some readD_some fnD_some fnD_own fnD_none callL_f ownH_some litD_some litE_some Q_call Q_bslice H_call pendOk_nil pendOk_cons pastOk_nil pastOk_cons Q_mv Q_pick Q_bin Q_un Q_convI Q_mkfunc Q_extract Q_min Q_max Q_lenS Q_lenA Q_field Q_idxA Q_mkiface Q_tassert Q_alloc Q_box Q_store Q_mkslice Q_append Q_appendZ Q_copy Q_clear Q_build Q_load Q_nilck Q_isnil Q_convS Q_slice Q_faddr Q_iaddr Q_iaddrA Q_len H_alloc H_box H_bslice H_store H_mkslice H_append H_appendZ H_copy H_clear free_mv free_pick free_bin free_un free_convI free_mkfunc free_extract free_min free_max free_lenS free_lenA free_field free_idxA free_mkiface free_tassert free_build free_load free_nilck free_isnil free_convS free_slice free_faddr free_iaddr free_iaddrA free_len callW_y List.length_map List.length_set leaves_r evR_some evRess1 evRess2 evRess3 evRes_t evRes_c nz_kind nz_enc nz_cred nz_source nz_parent nz_ienc nz_hash nz_un true_or or_true bsl_node appI appO ixo_nodes canon_rowI canon_rowO not_false_eq_true not_true_eq_false ldE_a ldE_c adE_b stE_b onE_a onP_b bsl_zero
attribute [local go_sem low] condW_b grdW_b lgrdW_b ldP adP stP onO onPt
attribute [local simp] envL_cons envL_nil idb_int idb_bool idb_ints idb_nil idb_own idb_ptr idb_octs idb_nodes idb_leafA idb_innerA idb_nodeA idb_agg idb_tup idb_iptr idb_fn entB_dead entB_box
/-- slices.Clone of nodes. -/
theorem cloneN_spec (l : List Node) (hl : l.length ≤ 4294967295) : FunOwn seat 129 [nodes l] 8 (l.map nodeA) := by
  refine FunOwn.of0W told129 (by simp [il129]) (by simp ) (encNode.xs_idb l) (wpc_sound ?_)
  simp only [il129, List.zipIdx_cons, List.zipIdx_nil, Nat.zero_add, go_sem, Nat.reduceEqDiff, reduceIte, Nat.reduceAdd, Nat.reduceLeDiff, Nat.reduceLT, Nat.reduceSub, nodes]
  have app : ∀ r : List Node, r.length ≤ 4294967295 → ∃ v, evAppend [Entry.arr 8 0 (([] : List Node).map nodeA)] 8 160 (.own 0 0 0 ([] : List Node).length) (r.map nodeA) = some (.own 0 v 0 r.length, [.arr 8 v (r.map nodeA)]) := by
    intro r hr
    obtain ⟨v, hv⟩ := encNode.app_any (H := [Entry.arr 8 0 (([] : List Node).map nodeA)]) (id := 0) (ver := 0) (l := []) (ys := r) (bytes := 160) rfl (by unfold maxRow; simp; omega) (by decide)
    exact ⟨v, by simpa [encNode] using hv⟩
  have hb : evBslice ([] : List Entry) 8 0 zeroA [] = some (.own 0 0 0 0, [.arr 8 0 []]) := rfl
  unfold zeroA at hb
  cases l with
  | nil =>
    obtain ⟨v, hv⟩ := app [] (by simp)
    simp only [List.map_nil, List.length_nil] at hv
    simp only [List.map_nil, go_sem, Nat.reduceEqDiff, reduceIte, Nat.reduceAdd, Nat.reduceLeDiff, Nat.reduceLT, Nat.reduceSub, hv, hb]
    exact .inl ⟨0, v, rfl, rfl⟩
  | cons x r =>
    obtain ⟨v, hv⟩ := app (x :: r) hl
    simp only [List.map_nil, List.length_nil, List.map_cons, List.length_cons] at hv
    simp only [List.map_cons, go_sem, Nat.reduceEqDiff, reduceIte, Nat.reduceAdd, Nat.reduceLeDiff, Nat.reduceLT, Nat.reduceSub, hv, hb]
    exact .inl ⟨0, v, by simp, rfl⟩
noncomputable def r129 : Reg seat := .of told129 (ask1 (fun a0' => isNs a0' ∧ (dNs a0').length ≤ 4294967295) fun a0' => .own 8 ((dNs a0').map nodeA)) (ask1_ok fun a0' h => SaidOk.own (FunOwn.weak (.cons (isNs.weak h.1) .nil) (cloneN_spec _ h.2)) (by first | exact encU8.xs_idb _ | exact encI64.xs_idb _ | exact encNode.xs_idb _))
theorem r129_c : r129.c = 129 := rfl
open Classical in
theorem r129_ask (a0' : AV) : r129.ask [a0'] = if isNs a0' ∧ (dNs a0').length ≤ 4294967295 then some (Said.own 8 ((dNs a0').map nodeA)) else none := by unfold r129 Reg.of ask1; exact ite_cl

theorem zeroA_norm (H : List Entry) (k : Nat) : derefN H (k + 2) zeroA = nodeA .zero := by
  simp only [zeroA, derefN, List.map_cons, List.map_nil]
  rfl
theorem appZ (l : List Node) (n : Nat) (hn : 0 < n) (h : l.length + n ≤ 4294967296) : evAppend [] 8 160 (.list true (l.map nodeA)) (List.replicate n zeroA) = some (.own 0 0 0 (l.length + n), [.arr 8 0 (l.map nodeA ++ List.replicate n zeroA)]) := by
  have h1 : List.replicate n zeroA ≠ [] := by simp; omega
  have h2 : szOk [] 8 (List.replicate n zeroA) = true := by
    simp only [szOk, List.all_eq_true]
    intro x hx; rw [(List.mem_replicate.1 hx).2]; rfl
  have h3 : szOk [] 8 (l.map nodeA) = true := encNode.szOk [] l
  simp only [evAppend, h1, h2, h3, List.length_map, List.length_replicate, maxRow, h, if_false, and_self, if_true, show 160 ≤ 4096 by decide, show 0 < 8 by decide, List.length_nil, List.nil_append]
theorem canonZ (l : List Node) (n : Nat) : canon [.arr 8 0 (l.map nodeA ++ List.replicate n zeroA)] 3 (.own 0 0 0 (l.length + n)) = nodes (l ++ List.replicate n .zero) := by
  have h : ∀ x : Node, derefN (freezeP all [.arr 8 0 (l.map nodeA ++ List.replicate n zeroA)]) 2 (nodeA x) = nodeA x := fun x => encNode.norm _ _ x
  have h2 : derefN (freezeP all [.arr 8 0 (l.map nodeA ++ List.replicate n zeroA)]) 2 zeroA = nodeA .zero := zeroA_norm _ 0
  rw [canon, derefN]
  simp only [freezeP_all_cons, freezeP_all_nil, frzE_arr, List.getElem?_cons_zero] at h h2 ⊢
  simp only [List.length_append, List.length_map, List.length_replicate, Nat.le_refl, and_self, if_true, List.drop_zero]
  rw [List.take_of_length_le (by simp), List.map_append, List.map_map, List.map_replicate, h2, nodes, List.map_append, List.map_replicate]
  congr 2
  exact List.map_congr_left fun x _ => h x

theorem grow_spec (t : List Node) (ht : Tree.Ok t) : Fun seat 107 [nodes t] (.tup [nodes (growT t).1, .int .i64 (growT t).2]) := by
  have hl := known_len t
  unfold growT
  have sl := encNode.sliceTT [] (known t) (known t).length (by omega) (by simp)
  have e1 : ((known t).length : Int).toNat = (known t).length := Int.toNat_natCast _
  simp only [e1, List.take_length] at sl
  have sl : evSlice [] 8 (nodes (known t)) none (some (.int .i64 ((known t).length : Int))) (some (.int .i64 ((known t).length : Int))) = some (.list true ((known t).map nodeA)) := sl
  have ap := appZ (known t) ((known t).length + 1) (by omega) (by omega)
  unfold zeroA at ap
  have e2 : (((known t).length : Int) + 1).toNat = (known t).length + 1 := by omega
  have e3 : (0 ≤ ((known t).length : Int) + 1 ∧ ((known t).length : Int) + 1 ≤ (maxRow : Nat)) = True := eq_true ⟨by omega, by unfold maxRow; omega⟩
  refine Fun.of0R [r126] told107 (by simp [il107]) (by simp [idb_patchA]) (by simp [idb_patchA]) 4 ?_
  simp only [il107, List.zipIdx_cons, List.zipIdx_nil, leafA, innerA, nodeA, patchA, Leaf.cells, Inner.cells, Node.cells, r126_c, r126_ask, ht, wrap64s ((known t).length + 1) (by omega), sl, ap, e2, e3, go_sem, Nat.reduceEqDiff, reduceIte, Nat.reduceAdd, Nat.reduceLeDiff, Nat.reduceLT, Nat.reduceSub]
  have cz := canonZ (known t) ((known t).length + 1)
  unfold zeroA at cz
  rw [cz]
  simp only [nodes_inj]
  iterate 12 ((all_goals intros); (all_goals try refine And.intro ?_ ?_))
  all_goals first | (show WP _ _ _ _ _ _ _) | grind
noncomputable def r107 : Reg seat := .of told107 (ask1 (fun a0' => isNs a0' ∧ Tree.Ok (dNs a0')) fun a0' => .fn (.tup [nodes (growT (dNs a0')).1, .int .i64 (growT (dNs a0')).2])) (ask1_ok fun a0' h => SaidOk.fn (Fun.weak (.cons (isNs.weak h.1) .nil) (grow_spec _ h.2)))
theorem r107_c : r107.c = 107 := rfl
open Classical in
theorem r107_ask (a0' : AV) : r107.ask [a0'] = if isNs a0' ∧ Tree.Ok (dNs a0') then some (Said.fn (.tup [nodes (growT (dNs a0')).1, .int .i64 (growT (dNs a0')).2])) else none := by unfold r107 Reg.of ask1; exact ite_cl

end Go.Proofs.YtihhinbjhiankaaGreatDoor.Al
