/-
  SPECS: who has a key below a node, as an iterator.
-/
import Derived.Test.YtlehcigcaihoaaaDoorAlI1
import Derived.Test.YtlehcigcaihoaaaDoorAlS3
import Derived.Test.YtlehcigcaihoaaaDoorAlV2
import Derived.Test.YtlehcigcaihoaaaDoorAlP15
set_option linter.unusedSimpArgs false
set_option linter.unusedVariables false
namespace Go.Proofs.YtlehcigcaihoaaaDoor.Al
open Go
attribute [local go_sem] W_mv W_pick W_alloc W_box W_build W_bslice W_load W_store W_nilck W_bin W_isnil W_un W_convI W_convS W_mkiface W_mkfunc W_mkslice W_slice W_faddr W_field W_iaddr W_iaddrA W_idxA W_extract W_len W_lenS W_lenA W_min W_max W_append W_appendZ W_copy W_clear W_tassert W_invoke thenQ_normal thenQ_exit thenQ_goto thenQ_ret blockQ_normal blockQ_ret blockQ_goto blockQ_exit wpc_skip wpc_region wpc_draw wpc_seq wpc_cond wpc_block wpc_exit wpc_goto wpc_label wpc_ret wpc_loop wpc_range wpc_scope condW_true condW_false condW_dec condW_any W_nil W_call resW_some evalOp Opd.ev updo_envL updo_none setL_cons setL_nil envL_cons Option.map_some Option.bind_some evBin evInt List.map_cons List.map_nil Option.pure_def Option.bind_eq_bind W_grd' grdW_tt grdW_ff grdW_tf grdW_ft grdW_tup grdW_dt grdW_df lgrdW_tt lgrdW_ff lgrdW_tf lgrdW_ft lgrdW_tup lgrdW_dt lgrdW_df L_mv L_pick L_alloc L_box L_build L_bslice L_load L_store L_nilck L_bin L_isnil L_un L_convI L_convS L_mkiface L_mkfunc L_mkslice L_slice L_faddr L_field L_iaddr L_iaddrA L_idxA L_extract L_len L_lenS L_lenA L_min L_max L_append L_appendZ L_copy L_clear L_tassert L_nil L_call L_grd lresW_some upd_envL evUn beq_dec bne_dec leaves_ret1 leaves_end1 leaves_ret0 leaves_end0 leaves_ret2 leaves_ret3 rowLen_ints load_iptr0 not_dec heap_get0 heap_get1 heap_set0 heap_set1 heap_len1 heap_len2 heap_app heap_app2 bslice1_int seen_ints seen_one0 seen_one1 seen_one2 rowLen_own0 bslice0_int rowLen_own1 Nat.sub_zero Bool.not_true Bool.not_false List.length_nil List.length_cons List.nil_append List.cons_append Nat.zero_add load_iptrA canon_ptrI canon_bool canon_tup canon_agg canon_leafA canon_innerA canon_nodeA canon_ints' rowLen_ints0 seen_ints0 canon_ints0 rowLen_ints1 seen_ints1 canon_ints1 rowLen_ints2 seen_ints2 canon_ints2 rowLen_ints3 seen_ints3 canon_ints3 rowLen_octs seen_octs canon_octs' szOk_octs rowLen_octs0 seen_octs0 canon_octs0 rowLen_octs1 seen_octs1 canon_octs1 rowLen_octs2 seen_octs2 canon_octs2 rowLen_octs3 seen_octs3 canon_octs3 rowLen_intss seen_intss canon_intss' szOk_intss rowLen_intss0 seen_intss0 canon_intss0 rowLen_intss1 seen_intss1 canon_intss1 rowLen_intss2 seen_intss2 canon_intss2 rowLen_intss3 seen_intss3 canon_intss3 rowLen_octss seen_octss canon_octss' szOk_octss rowLen_octss0 seen_octss0 canon_octss0 rowLen_octss1 seen_octss1 canon_octss1 rowLen_octss2 seen_octss2 canon_octss2 rowLen_octss3 seen_octss3 canon_octss3 rowLen_nodes seen_nodes canon_nodes' szOk_nodes rowLen_nodes0 seen_nodes0 canon_nodes0 rowLen_nodes1 seen_nodes1 canon_nodes1 rowLen_nodes2 seen_nodes2 canon_nodes2 rowLen_nodes3 seen_nodes3 canon_nodes3 seen_list cells_int oneIn_int cells_bool oneIn_bool cells_str oneIn_str cells_list oneIn_list cells_func oneIn_func cells_nilfunc oneIn_nilfunc cells_iptr oneIn_iptr cells_iface oneIn_iface cells_nilIface oneIn_nilIface cells_own cells_ptr cells_anybool oneIn_anybool cells_agg oneIn_own0 oneIn_ptr0 seenL0 seenM0 oneIn_own1 oneIn_ptr1 seenL1 seenM1 oneIn_own2 oneIn_ptr2 seenL2 seenM2 oneIn_own3 oneIn_ptr3 seenL3 seenM3 oneIn_own4 oneIn_ptr4 seenL4 seenM4 oneIn_own5 oneIn_ptr5 seenL5 seenM5 cells_ints oneIn_ints cells_octs oneIn_octs cells_intss oneIn_intss cells_octss oneIn_octss cells_nodes oneIn_nodes ldB0 ldA0 adB0 stB0 ldB1 ldA1 adB1 stB1 ldB2 ldA2 adB2 stB2 ldB3 ldA3 adB3 stB3 ldB4 ldA4 adB4 stB4 ldB5 ldA5 adB5 stB5 List.getElem?_cons_zero List.getElem?_cons_succ beq_self_eq_true splice List.take_zero List.take_succ_cons List.drop_zero List.drop_succ_cons List.append_nil List.set_cons_zero List.set_cons_succ List.all_cons List.all_nil Bool.and_self and_self and_true true_and Nat.lt_irrefl Nat.zero_lt_one Nat.le_refl fillA evNil notA Bool.false_eq_true evMin_int evMax_int Option.map_none freezeP_all_nil freezeP_all_cons frzE_box frzE_arr frzE_dead foldA List.foldlM_cons List.foldlM_nil callW_f lcallW_f ansW_fn ansW_own lansW_fn lansW_own ansW_none lansW_none tab_cons tab_nil dI_int dB_bool dO_octs dO_ints dO_list dO_nil dOs_octss dOs_intss dOs_nil dLf_leafA dIn_innerA dN_nodeA dLf_agg dIn_agg dN_agg dNs_nodes dNs_list dNs_nil isI_int isU_int isB_bool isO_octs isO_nil isO_list isS_ints isS_nil isS_list isOs_octss isSs_intss isOs_nil isSs_nil isNs_nodes isNs_list isNs_nil isLf_leafA isIn_innerA isN_nodeA isLf_agg isIn_agg isN_agg leaf_eta inner_eta node_eta leaf_zero inner_zero node_zero dP_patchA dP_agg isP_patchA isP_agg patch_eta decide_eq_true_eq decide_eq_false_iff_not eq_self forall_const true_implies false_implies Bool.not_eq_true' Bool.not_eq_false' Bool.true_eq_false implies_true ne_eq ldI ldIA adI AV.tup.injEq AV.agg.injEq List.cons.injEq AV.int.injEq AV.bool.injEq nodes_inj octs_inj ints_inj nil_nodes nil_octs nil_ints canon_nilL decide_eq_decide two_ne four_ne b256_ne lendA_fn lendA_own lendA_none llendA_fn llendA_none plain_bool plain_int plain_tup2 isNs_own isO_own isS_own isOs_own false_and and_false Q_nil Q_l Q_g Q_h Q_grd qgrdW_b qgrdW_tup lightD_some heavyD_some readD_some fnD_some fnD_own fnD_none callL_f ownH_some callH_f litD_some litE_some Q_call Q_bslice H_call pendOk_nil pendOk_cons pastOk_nil pastOk_cons Q_mv Q_pick Q_bin Q_un Q_convI Q_mkfunc Q_extract Q_min Q_max Q_lenS Q_lenA Q_field Q_idxA Q_mkiface Q_tassert Q_alloc Q_box Q_store Q_mkslice Q_append Q_appendZ Q_copy Q_clear Q_build Q_load Q_nilck Q_isnil Q_convS Q_slice Q_faddr Q_iaddr Q_iaddrA Q_len H_alloc H_box H_bslice H_store H_mkslice H_append H_appendZ H_copy H_clear free_mv free_pick free_bin free_un free_convI free_mkfunc free_extract free_min free_max free_lenS free_lenA free_field free_idxA free_mkiface free_tassert free_build free_load free_nilck free_isnil free_convS free_slice free_faddr free_iaddr free_iaddrA free_len callW_y List.length_map List.length_set leaves_r evR_some evRess1 evRess2 evRess3 evRes_t evRes_c nz_kind nz_enc nz_cred nz_source nz_parent nz_ienc nz_hash nz_un true_or or_true bsl_node idbs_node idbs_int appN appI appO ixo_nodes canon_row canon_rowI canon_rowO not_false_eq_true not_true_eq_false ldE_a ldE_c adE_b stE_b onE_a onP_b bsl_zero idbs_zero appN_zero
attribute [local go_sem low] condW_b grdW_b lgrdW_b ldP adP stP onO onPt
attribute [local simp] envL_cons envL_nil idb_int idb_bool idb_str idb_ints idb_nil idb_own idb_ptr entB_ints' idb_octs entB_octs idb_intss entB_intss idb_octss entB_octss idb_nodes entB_nodes idb_leafA idb_innerA idb_nodeA idb_agg idb_tup idb_iptr idb_fn idb_undef entB_dead entB_box

theorem below_spec (t : List Node) (x : Int) : Fun seat 268 [nodes t, .int .i64 x] (.func (.f 278) [] [.iptr [.int .i64 x] 0, .iptr [nodes t] 0]) := by
  refine Fun.of0W told268 (by simp [il268]) (by simp ) (by simp ) 0 ?_
  simp only [il268, List.zipIdx_cons, List.zipIdx_nil, Nat.zero_add]
  refine WP.seqR [] fun K hK => ?_
  simp -implicitDefEqProofs only [leafA, innerA, nodeA, patchA, Leaf.cells, Inner.cells, Node.cells, decide_true, decide_false, go_sem, Nat.reduceEqDiff, reduceIte, Nat.reduceAdd, Nat.reduceLeDiff, Nat.reduceLT, Nat.reduceSub]
  refine hK _ (WP.sealB 2 0 (cs := [nodes t]) rfl rfl (WP.sealB 3 1 (cs := [.int .i64 x]) rfl rfl ?_))
  clear hK K
  refine wpc_soundR [] ?_
  simp -implicitDefEqProofs only [leafA, innerA, nodeA, patchA, Leaf.cells, Inner.cells, Node.cells, decide_true, decide_false, go_sem, Nat.reduceEqDiff, reduceIte, Nat.reduceAdd, Nat.reduceLeDiff, Nat.reduceLT, Nat.reduceSub]
  rfl
noncomputable def r268 : Reg seat := .of told268 (ask2 (fun a0' a1' => isNs a0' ∧ isI a1') fun a0' a1' => .fn (.func (.f 278) [] [.iptr [.int .i64 (dI a1')] 0, .iptr [nodes (dNs a0')] 0])) (ask2_ok fun a0' a1' h => SaidOk.fn (Fun.weak (.cons (isNs.weak h.1) (.cons (isI.weak h.2) .nil)) (below_spec _ _)))
theorem r268_c : r268.c = 268 := rfl
open Classical in
theorem r268_ask (a0' a1' : AV) : r268.ask [a0', a1'] = if isNs a0' ∧ isI a1' then some (Said.fn (.func (.f 278) [] [.iptr [.int .i64 (dI a1')] 0, .iptr [nodes (dNs a0')] 0])) else none := by unfold r268 Reg.of ask2; exact ite_cl

theorem litD_ownJ {op : IOp} {env : Env} {i j u n : Nat} {H' H : List Entry} {K : AV → Prop} : litD op env (some (.own i j u n, H')) H K = litE op env (H'[H.length]?) K := rfl
theorem bs2 (H : List Entry) (a b : Int) : evBslice H 1 2 (.int .i64 0) [(0, .int .i64 a), (1, .int .i64 b)] = some (.own H.length 0 0 2, H ++ [.arr 1 0 [.int .i64 a, .int .i64 b]]) := rfl
theorem getl (H : List Entry) (e : Entry) : (H ++ [e])[H.length]? = some e := by simp
def cellsI (l : List Int) : List (List AV) := l.map fun y => [.int .i64 y]
theorem cellsI_len (l : List Int) : (cellsI l).length = l.length := by simp [cellsI]
theorem cellsI_at {l : List Int} {k : Nat} (h : k < l.length) : (cellsI l)[k]'(by rw [cellsI_len]; exact h) = [.int .i64 l[k]] := by simp [cellsI]
set_option maxHeartbeats 2000000 in
theorem below_gives (t : List Node) (hs : Sane t) : ∀ (f : Nat) (x : Int), need t x ≤ f → GivesB seat 278 [.iptr [.int .i64 x] 0, .iptr [nodes t] 0] (cellsI (resF f t x)) := by
  have hl := hs.len
  intro f
  induction f with
  | zero =>
    intro x hx id H0 J Jx hc hcx hn h0 hround
    have hxo : ¬ (0 ≤ x ∧ x < t.length) := fun h => by rw [need_in h] at hx; omega
    have hp : J 0 (H0 ++ [.dead]) := (hc 0).push _ _ h0
    refine ACall.of_wp told278 (by simp [il278]) ?_
    rw [start_env]
    simp only [il278, List.zipIdx_cons, List.zipIdx_nil, Nat.zero_add, List.cons_append, List.nil_append]
    refine WP.seqR [] fun K hK => ?_
    simp -implicitDefEqProofs only [leafA, innerA, nodeA, patchA, Leaf.cells, Inner.cells, Node.cells, decide_true, decide_false, go_sem, Nat.reduceEqDiff, reduceIte, Nat.reduceAdd, Nat.reduceLeDiff, Nat.reduceLT, Nat.reduceSub]
    refine hK _ (WP.sealB 3 H0.length (cs := [.func (.y id) [] []]) rfl (by simp) ?_)
    clear hK K
    have hset : (H0 ++ [Entry.box [.func (.y id) [] []]]).set H0.length Entry.dead = H0 ++ [.dead] := by simp
    rw [hset]
    generalize H0 ++ [.dead] = H at *
    refine wpc_soundR [] ?_
    by_cases h1 : x < 0
    · simp -implicitDefEqProofs only [leafA, innerA, nodeA, patchA, Leaf.cells, Inner.cells, Node.cells, decide_true, decide_false, h1, go_sem, Nat.reduceEqDiff, reduceIte, Nat.reduceAdd, Nat.reduceLeDiff, Nat.reduceLT, Nat.reduceSub]
      exact .inl hp
    · have h2 : x ≥ t.length := by omega
      simp -implicitDefEqProofs only [leafA, innerA, nodeA, patchA, Leaf.cells, Inner.cells, Node.cells, decide_true, decide_false, h1, h2, go_sem, Nat.reduceEqDiff, reduceIte, Nat.reduceAdd, Nat.reduceLeDiff, Nat.reduceLT, Nat.reduceSub]
      exact .inl hp
  | succ f ih =>
    intro x hx id H0 J Jx hc hcx hn h0 hround
    have hp : J 0 (H0 ++ [.dead]) := (hc 0).push _ _ h0
    refine ACall.of_wp told278 (by simp [il278]) ?_
    rw [start_env]
    simp only [il278, List.zipIdx_cons, List.zipIdx_nil, Nat.zero_add, List.cons_append, List.nil_append]
    refine WP.seqR [] fun K hK => ?_
    simp -implicitDefEqProofs only [leafA, innerA, nodeA, patchA, Leaf.cells, Inner.cells, Node.cells, decide_true, decide_false, go_sem, Nat.reduceEqDiff, reduceIte, Nat.reduceAdd, Nat.reduceLeDiff, Nat.reduceLT, Nat.reduceSub]
    refine hK _ (WP.sealB 3 H0.length (cs := [.func (.y id) [] []]) rfl (by simp) ?_)
    clear hK K
    have hset : (H0 ++ [Entry.box [.func (.y id) [] []]]).set H0.length Entry.dead = H0 ++ [.dead] := by simp
    rw [hset]
    clear hset
    generalize H0 ++ [.dead] = H at *
    refine wpc_soundR [] ?_
    by_cases h1 : x < 0
    · have e : resF (f + 1) t x = [] := resF_out _ (by omega)
      rw [e]
      simp -implicitDefEqProofs only [leafA, innerA, nodeA, patchA, Leaf.cells, Inner.cells, Node.cells, decide_true, decide_false, h1, go_sem, Nat.reduceEqDiff, reduceIte, Nat.reduceAdd, Nat.reduceLeDiff, Nat.reduceLT, Nat.reduceSub]
      exact .inl hp
    by_cases h2 : x ≥ t.length
    · have e : resF (f + 1) t x = [] := resF_out _ (by omega)
      rw [e]
      simp -implicitDefEqProofs only [leafA, innerA, nodeA, patchA, Leaf.cells, Inner.cells, Node.cells, decide_true, decide_false, h1, h2, go_sem, Nat.reduceEqDiff, reduceIte, Nat.reduceAdd, Nat.reduceLeDiff, Nat.reduceLT, Nat.reduceSub]
      exact .inl hp
    obtain ⟨q, rfl⟩ : ∃ q : Nat, x = q := ⟨x.toNat, by omega⟩
    have hq : q < t.length := by omega
    have hw : Whole t.length := hs.2.resolve_left (by omega)
    have e0 : nodeAt t ((q : Int)).toNat = t[q] := by rw [Int.toNat_natCast, nodeAt_lt hq]
    by_cases hk : t[q].kind = 0
    rotate_left
    · have e : resF (f + 1) t (q : Int) = (q : Int) :: t[q].inner.unmerged.map (fun i => 2 * i) := by
        unfold resF; rw [if_neg (by omega), e0, if_pos hk]
      rw [e] at hround ⊢
      obtain ⟨u1, u2⟩ := unmerged_in (hs.1 q hq).2
      have hr := hround 0 (by simp [cellsI]) H hp
      simp only [cellsI, List.map_cons, List.getElem_cons_zero] at hr
      simp -implicitDefEqProofs only [leafA, innerA, nodeA, patchA, Leaf.cells, Inner.cells, Node.cells, decide_true, decide_false, h1, h2, hk, fun H => ix_nodes H t q hq, ne_eq, not_false_eq_true, go_sem, Nat.reduceEqDiff, reduceIte, Nat.reduceAdd, Nat.reduceLeDiff, Nat.reduceLT, Nat.reduceSub]
      refine Callee.yld hr ?_
      rintro r H1 ⟨_, ⟨rfl, hj⟩ | ⟨rfl, hx⟩⟩
      rotate_left
      · simp -implicitDefEqProofs only [leafA, innerA, nodeA, patchA, Leaf.cells, Inner.cells, Node.cells, decide_true, decide_false, go_sem, Nat.reduceEqDiff, reduceIte, Nat.reduceAdd, Nat.reduceLeDiff, Nat.reduceLT, Nat.reduceSub]
        exact .inr hx
      simp -implicitDefEqProofs only [leafA, innerA, nodeA, patchA, Leaf.cells, Inner.cells, Node.cells, decide_true, decide_false, fun H => ix_nodes H t q hq, go_sem, Nat.reduceEqDiff, reduceIte, Nat.reduceAdd, Nat.reduceLeDiff, Nat.reduceLT, Nat.reduceSub]
      refine WP.weakL [(1, .iptr [.int .i64 (q : Int)] 0), (2, .iptr [nodes t] 0), (3, .iptr [.func (.y id) [] []] 0), (57, ints t[q].inner.unmerged), (58, .int .i64 t[q].inner.unmerged.length), (59, .int .i64 0)] ?_ ?_
      · simp only [envL_cons, Nat.reduceEqDiff, reduceIte, List.mem_cons, List.not_mem_nil, or_false, forall_eq_or_imp, forall_eq, weak_refl, and_self]
      generalize t[q].inner.unmerged = u at *
      refine WP.loopJ (fun k : Nat => [(1, .iptr [.int .i64 (q : Int)] 0), (2, .iptr [nodes t] 0), (3, .iptr [.func (.y id) [] []] 0), (57, ints u), (58, .int .i64 u.length), (59, .int .i64 k)]) (fun k H => k ≤ u.length ∧ J (k + 1) H) (fun k => u.length - k) 0 (by simp ) ⟨Nat.zero_le _, hj⟩ ?_
      rintro k H2 ⟨hk2, hj2⟩
      refine wpc_soundR [] ?_
      by_cases hlt : (k : Int) < (u.length : Nat)
      · have hk' : k < u.length := by omega
        have hb := u2 _ (List.getElem_mem hk')
        have w2 : IntKind.i64.wrap (2 * u[k]) = 2 * u[k] := wrap64 _ (by omega) (by omega)
        have hr2 := hround (k + 1) (by simp [cellsI]; exact hk') H2 hj2
        simp only [cellsI, List.map_cons, List.getElem_cons_succ, List.getElem_map] at hr2
        simp -implicitDefEqProofs only [leafA, innerA, nodeA, patchA, Leaf.cells, Inner.cells, Node.cells, decide_true, decide_false, hlt, fun H => index_ints H u k hk', w2, go_sem, Nat.reduceEqDiff, reduceIte, Nat.reduceAdd, Nat.reduceLeDiff, Nat.reduceLT, Nat.reduceSub]
        refine Callee.yld hr2 ?_
        rintro r H3 ⟨_, ⟨rfl, hj3⟩ | ⟨rfl, hx3⟩⟩
        · simp -implicitDefEqProofs only [leafA, innerA, nodeA, patchA, Leaf.cells, Inner.cells, Node.cells, decide_true, decide_false, go_sem, Nat.reduceEqDiff, reduceIte, Nat.reduceAdd, Nat.reduceLeDiff, Nat.reduceLT, Nat.reduceSub]
          exact ⟨k + 1, ⟨hk', hj3⟩, by omega, by simp [wrapS (show k < 9223372036854775807 by omega)]⟩
        · simp -implicitDefEqProofs only [leafA, innerA, nodeA, patchA, Leaf.cells, Inner.cells, Node.cells, decide_true, decide_false, go_sem, Nat.reduceEqDiff, reduceIte, Nat.reduceAdd, Nat.reduceLeDiff, Nat.reduceLT, Nat.reduceSub]
          exact .inr hx3
      · have hke : k = u.length := by omega
        subst hke
        simp -implicitDefEqProofs only [leafA, innerA, nodeA, patchA, Leaf.cells, Inner.cells, Node.cells, decide_true, decide_false, hlt, go_sem, Nat.reduceEqDiff, reduceIte, Nat.reduceAdd, Nat.reduceLeDiff, Nat.reduceLT, Nat.reduceSub]
        exact .inl (by simpa [cellsI] using hj2)
    · have e : resF (f + 1) t q = resF f t (leftI q t.length) ++ resF f t (rightI q t.length) := by
        conv => lhs; unfold resF
        rw [if_neg (by omega), e0, if_neg (not_not_intro hk)]
      rw [e] at hround ⊢
      simp -implicitDefEqProofs only [leafA, innerA, nodeA, patchA, Leaf.cells, Inner.cells, Node.cells, decide_true, decide_false, h1, h2, hk, fun H => ix_nodes H t q hq, go_sem, Nat.reduceEqDiff, reduceIte, Nat.reduceAdd, Nat.reduceLeDiff, Nat.reduceLT, Nat.reduceSub]
      refine WP.weakL [(1, .iptr [.int .i64 (q : Int)] 0), (2, .iptr [nodes t] 0), (3, .iptr [.func (.y id) [] []] 0)] ?_ ?_
      · simp only [envL_cons, Nat.reduceEqDiff, reduceIte, List.mem_cons, List.not_mem_nil, or_false, forall_eq_or_imp, forall_eq, weak_refl, and_self]
      refine WP.drawQ [r259, r260] [.g 0 0, .g 0 0, .g 0 0, .l, .g 0 0, .g 0 0, .g 0 0, .l, .l, .g 0 0, .l] mixed (by decide) ?_
      simp -implicitDefEqProofs only [leafA, innerA, nodeA, patchA, Leaf.cells, Inner.cells, Node.cells, r259_c, r259_ask, r260_c, r260_ask, decide_true, decide_false, bs2, litD_ownJ, getl, litE_some, go_sem, Nat.reduceEqDiff, reduceIte, Nat.reduceAdd, Nat.reduceLeDiff, Nat.reduceLT, Nat.reduceSub]
      refine ⟨by simp [AV.cells], ?_⟩
      have rl2 : ∀ a b : AV, rowLen H (.list false [a, b]) = some 2 := fun _ _ => rfl
      simp -implicitDefEqProofs only [leafA, innerA, nodeA, patchA, Leaf.cells, Inner.cells, Node.cells, r259_c, r259_ask, r260_c, r260_ask, decide_true, decide_false, rl2, Option.bind_some, go_sem, Nat.reduceEqDiff, reduceIte, Nat.reduceAdd, Nat.reduceLeDiff, Nat.reduceLT, Nat.reduceSub]
      obtain ⟨n1, n2⟩ := need_kids hw ⟨by omega, by omega⟩ hx
      obtain ⟨l, hL⟩ : ∃ l, leftI (q : Int) t.length = l := ⟨_, rfl⟩
      obtain ⟨r, hR⟩ : ∃ r, rightI (q : Int) t.length = r := ⟨_, rfl⟩
      rw [hL] at n1 hround ⊢
      rw [hR] at n2 hround ⊢
      obtain ⟨A, hA⟩ : ∃ A, resF f t l = A := ⟨_, rfl⟩
      obtain ⟨B, hB⟩ : ∃ B, resF f t r = B := ⟨_, rfl⟩
      rw [hA, hB] at hround ⊢
      refine WP.loopJ (fun k : Nat => [(1, .iptr [.int .i64 (q : Int)] 0), (2, .iptr [nodes t] 0), (3, .iptr [.func (.y id) [] []] 0), (17, ints [l, r]), (18, .int .i64 ((2 : Nat) : Int)), (19, .int .i64 k)]) (fun k H => k ≤ 2 ∧ J (if k = 0 then 0 else if k = 1 then A.length else A.length + B.length) H) (fun k => 2 - k) 0
        (by simp [ints]) ⟨Nat.zero_le _, hp⟩ ?_
      rintro k H1 ⟨hk2, hj1⟩
      refine wpc_soundR [r268] ?_
      by_cases hlt : (k : Int) < ((2 : Nat) : Int)
      rotate_left
      · have hke : k = 2 := by omega
        subst hke
        simp -implicitDefEqProofs only [leafA, innerA, nodeA, patchA, Leaf.cells, Inner.cells, Node.cells, r268_c, r268_ask, decide_true, decide_false, hlt, go_sem, Nat.reduceEqDiff, reduceIte, Nat.reduceAdd, Nat.reduceLeDiff, Nat.reduceLT, Nat.reduceSub]
        exact .inl (by simpa [cellsI] using hj1)
      obtain ⟨y, o, C, hyk, hny, hC, ho, ho1, hat⟩ : ∃ (y : Int) (o : Nat) (C : List Int), (∀ H, evIndex H 1 (ints [l, r]) (.int .i64 (k : Int)) = some (.iptr [.int .i64 y] 0)) ∧ need t y ≤ f ∧ resF f t y = C ∧ (if k = 0 then 0 else if k = 1 then A.length else A.length + B.length) = o ∧
          (if k + 1 = 0 then 0 else if k + 1 = 1 then A.length else A.length + B.length) = o + C.length ∧ ∀ j (hj : j < C.length), ∃ h : o + j < (A ++ B).length, (A ++ B)[o + j] = C[j] := by
        rcases (by omega : k = 0 ∨ k = 1) with rfl | rfl
        · exact ⟨l, 0, A, fun H => index_ints H [l, r] 0 (by simp), n1, hA, rfl, by simp, fun j hj => ⟨by simp; omega, by simp only [Nat.zero_add]; exact List.getElem_append_left hj⟩⟩
        · exact ⟨r, A.length, B, fun H => index_ints H [l, r] 1 (by simp), n2, hB, rfl, rfl, fun j hj => ⟨by simp; omega, by rw [List.getElem_append_right (by omega)]; simp⟩⟩
      rw [ho] at hj1
      have wk := wrapS (show k < 9223372036854775807 by omega)
      have hn1 := hn _ _ hj1
      simp -implicitDefEqProofs only [leafA, innerA, nodeA, patchA, Leaf.cells, Inner.cells, Node.cells, r268_c, r268_ask, decide_true, decide_false, hlt, hyk, go_sem, Nat.reduceEqDiff, reduceIte, Nat.reduceAdd, Nat.reduceLeDiff, Nat.reduceLT, Nat.reduceSub]
      refine WP.rangeX (c := 278) (first := []) (captured := [.iptr [.int .i64 y] 0, .iptr [nodes t] 0]) (by simp only [go_sem, Nat.reduceEqDiff, reduceIte, Nat.reduceAdd, Nat.reduceLeDiff, Nat.reduceLT, Nat.reduceSub]) (Callable.of told278) (fun L hL' hy => ?_)
      simp only [List.nil_append]
      have lp : ∀ {G : List Entry} {s : LSt}, G[H1.length]? = some (L s) → ∃ E, G[H1.length]? = some (.loop E) := fun {G s} h => by obtain ⟨E, e⟩ := hL' s; exact ⟨E, by rw [h, e]⟩
      have hg := ih y hny
      rw [hC] at hg
      refine (hg H1.length (H1 ++ [L .ready]) (fun j G => J (o + j) G ∧ G[H1.length]? = some (L .ready)) (fun G => Jx G ∧ G[H1.length]? = some (L (.done .ret))) ?_ ?_ ?_ ⟨(hc _).push _ _ hj1, getl _ _⟩ ?_).mono ?_
      · intro j
        refine ⟨fun G e h => ⟨(hc _).push _ _ h.1, by rw [List.getElem?_append_left (lt_of_get h.2)]; exact h.2⟩, fun G i L' e hi hL h => ⟨(hc _).loop _ _ L' _ ?_ hL h.1, ?_⟩⟩
        · simp at hi; omega
        · simp at hi; rw [List.getElem?_set_ne (by omega)]; exact h.2
      · refine ⟨fun G e h => ⟨hcx.push _ _ h.1, by rw [List.getElem?_append_left (lt_of_get h.2)]; exact h.2⟩, fun G i L' e hi hL h => ⟨hcx.loop _ _ L' _ ?_ hL h.1, ?_⟩⟩
        · simp at hi; omega
        · simp at hi; rw [List.getElem?_set_ne (by omega)]; exact h.2
      · intro j G h
        have := lt_of_get h.2
        simp; omega
      · rintro j hj G ⟨hjG, hrG⟩
        have hj' : j < C.length := by rwa [cellsI_len] at hj
        obtain ⟨hlt2, hat2⟩ := hat j hj'
        rw [cellsI_at hj']
        refine hy _ _ _ ⟨hrG, rfl, fun lp' => wpc_soundR [] ?_⟩
        simp -implicitDefEqProofs only [leafA, innerA, nodeA, patchA, Leaf.cells, Inner.cells, Node.cells, decide_true, decide_false, setPs, go_sem, Nat.reduceEqDiff, reduceIte, Nat.reduceAdd, Nat.reduceLeDiff, Nat.reduceLT, Nat.reduceSub]
        refine ⟨hrG, wpc_soundR [] ?_⟩
        obtain ⟨E0, hE0⟩ := lp hrG
        have hjb : J (o + j) (G.set H1.length (L .busy)) := (hc _).loop _ _ E0 _ hn1 hE0 hjG
        have hbz : (G.set H1.length (L .busy))[H1.length]? = some (L .busy) := List.getElem?_set_self (lt_of_get hrG)
        obtain ⟨E1, hE1⟩ := lp hbz
        have hr3 := hround (o + j) (by rw [cellsI_len]; exact hlt2) _ hjb
        rw [cellsI_at hlt2, hat2] at hr3
        simp -implicitDefEqProofs only [leafA, innerA, nodeA, patchA, Leaf.cells, Inner.cells, Node.cells, decide_true, decide_false, go_sem, Nat.reduceEqDiff, reduceIte, Nat.reduceAdd, Nat.reduceLeDiff, Nat.reduceLT, Nat.reduceSub]
        refine Callee.yld hr3 ?_
        rintro r2 H2 ⟨hlv, ⟨rfl, hj2⟩ | ⟨rfl, hx2⟩⟩
        · have hb2 : H2[H1.length]? = some (L .busy) := by rw [hE1] at hbz; rw [← hbz]; exact hlv _ E1 hn1 hE1
          obtain ⟨E2, hE2⟩ := lp hb2
          simp -implicitDefEqProofs only [leafA, innerA, nodeA, patchA, Leaf.cells, Inner.cells, Node.cells, decide_true, decide_false, go_sem, Nat.reduceEqDiff, reduceIte, Nat.reduceAdd, Nat.reduceLeDiff, Nat.reduceLT, Nat.reduceSub]
          refine ⟨hb2, fun j' L' hj' hL2 => ?_, .inl ⟨(hc _).loop _ _ E2 _ hn1 hE2 hj2, List.getElem?_set_self (lt_of_get hb2)⟩⟩
          have hj' : H1.length + 1 ≤ j' := by simpa using hj'
          rw [List.getElem?_set_ne (by omega)]
          exact hlv j' L' (by omega) (by rw [List.getElem?_set_ne (by omega)]; exact hL2)
        · have hb2 : H2[H1.length]? = some (L .busy) := by rw [hE1] at hbz; rw [← hbz]; exact hlv _ E1 hn1 hE1
          obtain ⟨E2, hE2⟩ := lp hb2
          simp -implicitDefEqProofs only [leafA, innerA, nodeA, patchA, Leaf.cells, Inner.cells, Node.cells, decide_true, decide_false, go_sem, Nat.reduceEqDiff, reduceIte, Nat.reduceAdd, Nat.reduceLeDiff, Nat.reduceLT, Nat.reduceSub]
          refine ⟨hb2, .ret, rfl, fun j' L' hj' hL2 => ?_, .inr ⟨hcx.loop _ _ E2 _ hn1 hE2 hx2, List.getElem?_set_self (lt_of_get hb2)⟩⟩
          have hj' : H1.length + 1 ≤ j' := by simpa using hj'
          rw [List.getElem?_set_ne (by omega)]
          exact hlv j' L' (by omega) (by rw [List.getElem?_set_ne (by omega)]; exact hL2)
      · rintro r2 H2 (⟨hj2, hr2⟩ | ⟨hx2, hr2⟩)
        · obtain ⟨E2, hE2⟩ := lp hr2
          refine .inl ⟨hr2, ?_⟩
          simp -implicitDefEqProofs only [leafA, innerA, nodeA, patchA, Leaf.cells, Inner.cells, Node.cells, decide_true, decide_false, go_sem, Nat.reduceEqDiff, reduceIte, Nat.reduceAdd, Nat.reduceLeDiff, Nat.reduceLT, Nat.reduceSub]
          refine ⟨k + 1, ⟨by omega, ?_⟩, by omega, by simp [wk]⟩
          rw [ho1, ← cellsI_len C]
          exact (hc _).loop _ _ E2 _ hn1 hE2 hj2
        · obtain ⟨E2, hE2⟩ := lp hr2
          refine .inr ⟨.ret, hr2, ?_⟩
          simp -implicitDefEqProofs only [leafA, innerA, nodeA, patchA, Leaf.cells, Inner.cells, Node.cells, decide_true, decide_false, Jump.leave, go_sem, Nat.reduceEqDiff, reduceIte, Nat.reduceAdd, Nat.reduceLeDiff, Nat.reduceLT, Nat.reduceSub]
          exact .inr (hcx.loop _ _ E2 _ hn1 hE2 hx2)
theorem below_all (t : List Node) (hs : Sane t) (x : Int) : GivesB seat 278 [.iptr [.int .i64 x] 0, .iptr [nodes t] 0] (cellsI (resI t x)) := by
  refine below_gives t hs 7 x ?_
  rcases hs.2 with h | h
  · rw [need_out (by omega)]; omega
  · exact need_le h x
end Go.Proofs.YtlehcigcaihoaaaDoor.Al
