/-
  SPECS: slices.DeleteFunc over a row of one's own.
-/
import Derived.Test.YtlehcigcaihoaaaDoorAlN1
import Derived.Test.YtlehcigcaihoaaaDoorAlR
set_option linter.unusedSimpArgs false
set_option linter.unusedVariables false
namespace Go.Proofs.YtlehcigcaihoaaaDoor.Al
open Go
attribute [local go_sem] W_mv W_pick W_alloc W_box W_build W_bslice W_load W_store W_nilck W_bin W_isnil W_un W_convI W_convS W_mkiface W_mkfunc W_mkslice W_slice W_faddr W_field W_iaddr W_iaddrA W_idxA W_extract W_len W_lenS W_lenA W_min W_max W_append W_appendZ W_copy W_clear W_tassert W_invoke thenQ_normal thenQ_exit thenQ_goto thenQ_ret blockQ_normal blockQ_ret blockQ_goto blockQ_exit wpc_skip wpc_region wpc_draw wpc_seq wpc_cond wpc_block wpc_exit wpc_goto wpc_label wpc_ret wpc_loop wpc_range wpc_scope condW_true condW_false condW_dec condW_any W_nil W_call resW_some evalOp Opd.ev updo_envL updo_none setL_cons setL_nil envL_cons Option.map_some Option.bind_some evBin evInt List.map_cons List.map_nil Option.pure_def Option.bind_eq_bind W_grd' grdW_tt grdW_ff grdW_tf grdW_ft grdW_tup grdW_dt grdW_df lgrdW_tt lgrdW_ff lgrdW_tf lgrdW_ft lgrdW_tup lgrdW_dt lgrdW_df L_mv L_pick L_alloc L_box L_build L_bslice L_load L_store L_nilck L_bin L_isnil L_un L_convI L_convS L_mkiface L_mkfunc L_mkslice L_slice L_faddr L_field L_iaddr L_iaddrA L_idxA L_extract L_len L_lenS L_lenA L_min L_max L_append L_appendZ L_copy L_clear L_tassert L_nil L_call L_grd lresW_some upd_envL evUn beq_dec bne_dec leaves_ret1 leaves_end1 leaves_ret0 leaves_end0 leaves_ret2 leaves_ret3 rowLen_ints load_iptr0 not_dec heap_get0 heap_get1 heap_set0 heap_set1 heap_len1 heap_len2 heap_app heap_app2 bslice1_int seen_ints seen_one0 seen_one1 seen_one2 rowLen_own0 bslice0_int rowLen_own1 Nat.sub_zero Bool.not_true Bool.not_false List.length_nil List.length_cons List.nil_append List.cons_append Nat.zero_add load_iptrA canon_ptrI canon_bool canon_tup canon_agg canon_leafA canon_innerA canon_nodeA canon_ints' rowLen_ints0 seen_ints0 canon_ints0 rowLen_ints1 seen_ints1 canon_ints1 rowLen_ints2 seen_ints2 canon_ints2 rowLen_ints3 seen_ints3 canon_ints3 rowLen_octs seen_octs canon_octs' szOk_octs rowLen_octs0 seen_octs0 canon_octs0 rowLen_octs1 seen_octs1 canon_octs1 rowLen_octs2 seen_octs2 canon_octs2 rowLen_octs3 seen_octs3 canon_octs3 rowLen_intss seen_intss canon_intss' szOk_intss rowLen_intss0 seen_intss0 canon_intss0 rowLen_intss1 seen_intss1 canon_intss1 rowLen_intss2 seen_intss2 canon_intss2 rowLen_intss3 seen_intss3 canon_intss3 rowLen_octss seen_octss canon_octss' szOk_octss rowLen_octss0 seen_octss0 canon_octss0 rowLen_octss1 seen_octss1 canon_octss1 rowLen_octss2 seen_octss2 canon_octss2 rowLen_octss3 seen_octss3 canon_octss3 rowLen_nodes seen_nodes canon_nodes' szOk_nodes rowLen_nodes0 seen_nodes0 canon_nodes0 rowLen_nodes1 seen_nodes1 canon_nodes1 rowLen_nodes2 seen_nodes2 canon_nodes2 rowLen_nodes3 seen_nodes3 canon_nodes3 seen_list cells_int oneIn_int cells_bool oneIn_bool cells_str oneIn_str cells_list oneIn_list cells_func oneIn_func cells_nilfunc oneIn_nilfunc cells_iptr oneIn_iptr cells_iface oneIn_iface cells_nilIface oneIn_nilIface cells_own cells_ptr cells_anybool oneIn_anybool cells_agg oneIn_own0 oneIn_ptr0 seenL0 seenM0 oneIn_own1 oneIn_ptr1 seenL1 seenM1 oneIn_own2 oneIn_ptr2 seenL2 seenM2 oneIn_own3 oneIn_ptr3 seenL3 seenM3 oneIn_own4 oneIn_ptr4 seenL4 seenM4 oneIn_own5 oneIn_ptr5 seenL5 seenM5 cells_ints oneIn_ints cells_octs oneIn_octs cells_intss oneIn_intss cells_octss oneIn_octss cells_nodes oneIn_nodes ldB0 ldA0 adB0 stB0 ldB1 ldA1 adB1 stB1 ldB2 ldA2 adB2 stB2 ldB3 ldA3 adB3 stB3 ldB4 ldA4 adB4 stB4 ldB5 ldA5 adB5 stB5 List.getElem?_cons_zero List.getElem?_cons_succ beq_self_eq_true splice List.take_zero List.take_succ_cons List.drop_zero List.drop_succ_cons List.append_nil List.set_cons_zero List.set_cons_succ List.all_cons List.all_nil Bool.and_self and_self and_true true_and Nat.lt_irrefl Nat.zero_lt_one Nat.le_refl fillA evNil notA Bool.false_eq_true evMin_int evMax_int Option.map_none freezeP_all_nil freezeP_all_cons frzE_box frzE_arr frzE_dead foldA List.foldlM_cons List.foldlM_nil callW_f lcallW_f ansW_fn ansW_own lansW_fn lansW_own ansW_none lansW_none tab_cons tab_nil dI_int dB_bool dO_octs dO_ints dO_list dO_nil dOs_octss dOs_intss dOs_nil dLf_leafA dIn_innerA dN_nodeA dLf_agg dIn_agg dN_agg dNs_nodes dNs_list dNs_nil isI_int isU_int isB_bool isO_octs isO_nil isO_list isS_ints isS_nil isS_list isOs_octss isSs_intss isOs_nil isSs_nil isNs_nodes isNs_list isNs_nil isLf_leafA isIn_innerA isN_nodeA isLf_agg isIn_agg isN_agg leaf_eta inner_eta node_eta leaf_zero inner_zero node_zero dP_patchA dP_agg isP_patchA isP_agg patch_eta decide_eq_true_eq decide_eq_false_iff_not eq_self forall_const true_implies false_implies Bool.not_eq_true' Bool.not_eq_false' Bool.true_eq_false implies_true ne_eq ldI ldIA adI AV.tup.injEq AV.agg.injEq List.cons.injEq AV.int.injEq AV.bool.injEq nodes_inj octs_inj ints_inj nil_nodes nil_octs nil_ints canon_nilL decide_eq_decide two_ne four_ne b256_ne lendA_fn lendA_own lendA_none llendA_fn llendA_none plain_bool plain_int plain_tup2 isNs_own isO_own isS_own isOs_own false_and and_false Q_nil Q_l Q_g Q_h Q_grd qgrdW_b qgrdW_tup lightD_some heavyD_some readD_some fnD_some fnD_own fnD_none callL_f ownH_some callH_f litD_some litE_some Q_call Q_bslice H_call pendOk_nil pendOk_cons pastOk_nil pastOk_cons Q_mv Q_pick Q_bin Q_un Q_convI Q_mkfunc Q_extract Q_min Q_max Q_lenS Q_lenA Q_field Q_idxA Q_mkiface Q_tassert Q_alloc Q_box Q_store Q_mkslice Q_append Q_appendZ Q_copy Q_clear Q_build Q_load Q_nilck Q_isnil Q_convS Q_slice Q_faddr Q_iaddr Q_iaddrA Q_len H_alloc H_box H_bslice H_store H_mkslice H_append H_appendZ H_copy H_clear free_mv free_pick free_bin free_un free_convI free_mkfunc free_extract free_min free_max free_lenS free_lenA free_field free_idxA free_mkiface free_tassert free_build free_load free_nilck free_isnil free_convS free_slice free_faddr free_iaddr free_iaddrA free_len callW_y List.length_map List.length_set leaves_r evR_some evRess1 evRess2 evRess3 evRes_t evRes_c nz_kind nz_enc nz_cred nz_source nz_parent nz_ienc nz_hash nz_un true_or or_true bsl_node idbs_node idbs_int appN appI appO ixo_nodes canon_row canon_rowI canon_rowO not_false_eq_true not_true_eq_false ldE_a ldE_c adE_b stE_b onE_a onP_b bsl_zero idbs_zero appN_zero
attribute [local go_sem low] condW_b grdW_b lgrdW_b ldP adP stP onO onPt
attribute [local simp] envL_cons envL_nil idb_int idb_bool idb_str idb_ints idb_nil idb_own idb_ptr entB_ints' idb_octs entB_octs idb_intss entB_intss idb_octss entB_octss idb_nodes entB_nodes idb_leafA idb_innerA idb_nodeA idb_agg idb_tup idb_iptr idb_fn idb_undef entB_dead entB_box

def delF (p : Int → Bool) (l : List Int) : List Int := l.filter fun x => !p x
theorem delF_same {p : Int → Bool} {l : List Int} (h : ∀ j (hj : j < l.length), p l[j] = false) : delF p l = l := by
  unfold delF
  rw [List.filter_eq_self]
  intro x hx
  obtain ⟨j, hj, rfl⟩ := List.getElem_of_mem hx
  rw [h j hj]; rfl
theorem delF_le (p : Int → Bool) (l : List Int) : (delF p l).length ≤ l.length := List.length_filter_le _ _
theorem delF_take {p : Int → Bool} {l : List Int} {j : Nat} (hj : j < l.length) : delF p (l.take (j + 1)) = if p l[j] = true then delF p (l.take j) else delF p (l.take j) ++ [l[j]] := by
  unfold delF
  rw [List.take_succ_eq_append_getElem hj, List.filter_append]
  by_cases h : p l[j] = true
  · rw [if_pos h]; simp [h]
  · rw [if_neg h]; simp [h]
theorem st_rowJ {H : List Entry} {id ver k : Nat} {l : List Int} (n : Int) (h : H[id]? = some (.arr 1 ver (l.map (AV.int .i64)))) (hk : k < l.length) : evStore H 1 (.eptr id ver k 0) (.int .i64 n) = some (H.set id (.arr 1 ver ((l.set k n).map (AV.int .i64)))) := by
  have h3 : (l.map (AV.int .i64))[k]? = some (.int .i64 l[k]) := by simp [hk]
  simp [evStore, AV.cells, AV.oneIn, h, h3, setPart, splice, List.map_set, hk]
theorem clearJ {e0 : Entry} {v c : Nat} {R : List Int} (hc : c ≤ R.length) : evClear [e0, .arr 1 v (R.map (AV.int .i64))] 1 (.int .i64 0) (.own 1 v c R.length) = some [e0, .arr 1 v ((R.take c ++ List.replicate (R.length - c) 0).map (AV.int .i64))] := by
  simp [evClear, hc, szOk, AV.cells, AV.oneIn]
theorem idxF_casesJ {α : Type} (p : α → Bool) (l : List α) : (idxF p l = -1 ∧ ∀ j (h : j < l.length), p l[j] = false) ∨ ∃ k : Nat, ∃ hk : k < l.length, idxF p l = k ∧ p l[k] = true ∧ ∀ j (h : j < k), p (l[j]'(by omega)) = false := by
  by_cases ha : l.any p = true
  · right
    obtain ⟨x, hx, hp⟩ := List.any_eq_true.1 ha
    have hlt : l.findIdx p < l.length := List.findIdx_lt_length_of_exists ⟨x, hx, hp⟩
    exact ⟨l.findIdx p, hlt, by unfold idxF; rw [if_pos ha], List.findIdx_getElem, fun j h => by simpa using List.not_of_lt_findIdx h⟩
  · left
    refine ⟨by unfold idxF; rw [if_neg ha], fun j h => ?_⟩
    cases hp : p l[j] with
    | false => rfl
    | true => exact absurd (List.any_eq_true.2 ⟨l[j], List.getElem_mem h, hp⟩) ha
theorem take_set_lastJ {R : List Int} {c : Nat} {x : Int} (h : c < R.length) : (R.set c x).take (c + 1) = R.take c ++ [x] := by
  rw [List.take_succ_eq_append_getElem (by rw [List.length_set]; exact h), List.getElem_set_self, List.take_set, List.set_eq_of_length_le (by rw [List.length_take]; omega)]
theorem drop_set_moreJ {R : List Int} {c m : Nat} {x : Int} (h : c < m) : (R.set c x).drop m = R.drop m := by
  rw [List.drop_set, if_pos h]
/-- slices.DeleteFunc over a row of one's own: what is left stands ahead. -/
theorem deleteF_spec (l : List Int) (p : Int → Bool) (v : Nat) (hl : l.length ≤ 4294967295) (c : Nat) (f : IFn) (ht : trFn seat c = some f) (cap : List AV) (hcap : ∀ x ∈ cap, Idb 0 x) (hp : ∀ x ∈ l, Fun seat c ([.int .i64 x] ++ cap) (.bool (p x))) :
    ACall seat 202 [.own 1 v 0 l.length, .func (.f c) [] cap] [.dead, .arr 1 v (l.map (AV.int .i64))] (fun r H' => r = .own 1 v 0 (delF p l).length ∧ ∃ R : List Int, H' = [.dead, .arr 1 v (R.map (AV.int .i64))] ∧ R.length = l.length ∧ R.take (delF p l).length = delF p l) := by
  refine ACall.of_wp told202 (by simp [il202]) (wpc_soundR [] ?_)
  rw [start_env]
  simp only [il202, List.zipIdx_cons, List.zipIdx_nil, Nat.zero_add, go_sem, Nat.reduceEqDiff, reduceIte, Nat.reduceAdd, Nat.reduceLeDiff, Nat.reduceLT, Nat.reduceSub]
  refine Callee.lend (r := .int .i64 (idxF p l)) 1 told167 ?_ (.int _ _) ?_
  · rw [List.map_cons, List.map_cons, List.map_nil, canon_rowI (H := [.dead, .arr 1 v (l.map (AV.int .i64))]) (id := 1) (ver := v) (k := 0) (l := l) rfl]
    exact idx167_spec l p c f ht cap hcap hp
  rcases idxF_casesJ p l with ⟨h1, h2⟩ | ⟨k0, hk0, h1, h2, h3⟩
  · have e := delF_same h2
    rw [h1, e]
    simp -implicitDefEqProofs only [leafA, innerA, nodeA, patchA, Leaf.cells, Inner.cells, Node.cells, decide_true, decide_false, go_sem, Nat.reduceEqDiff, reduceIte, Nat.reduceAdd, Nat.reduceLeDiff, Nat.reduceLT, Nat.reduceSub]
    exact ⟨l, rfl, rfl, List.take_length⟩
  have hne : ¬ (k0 : Int) = -1 := by omega
  rw [h1]
  have w0 := wrapS (show k0 < 9223372036854775807 by omega)
  have c0 : delF p (l.take k0) = l.take k0 := delF_same fun j hj => by
    rw [List.length_take] at hj
    rw [List.getElem_take]; exact h3 j (by omega)
  have c1 : delF p (l.take (k0 + 1)) = l.take k0 := by
    rw [delF_take hk0, if_pos h2, c0]
  simp -implicitDefEqProofs only [leafA, innerA, nodeA, patchA, Leaf.cells, Inner.cells, Node.cells, decide_true, decide_false, hne, w0, go_sem, Nat.reduceEqDiff, reduceIte, Nat.reduceAdd, Nat.reduceLeDiff, Nat.reduceLT, Nat.reduceSub]
  refine WP.loopG (fun s : Nat × List Int => s.1 ≤ l.length ∧ s.2.length = l.length ∧ (delF p (l.take s.1)).length < s.1 ∧ s.2.take (delF p (l.take s.1)).length = delF p (l.take s.1) ∧ s.2.drop s.1 = l.drop s.1)
    (fun s => [(0, .own 1 v 0 l.length), (1, .func (.f c) [] cap), (5, .int .i64 ((delF p (l.take s.1)).length : Nat)), (6, .int .i64 (s.1 : Nat))]) (fun s => [.dead, .arr 1 v (s.2.map (AV.int .i64))]) (fun s => l.length - s.1) (k0 + 1, l)
    ⟨hk0, rfl, by rw [c1, List.length_take]; simp only; omega, by rw [c1, List.length_take, Nat.min_eq_left (by omega)], rfl⟩
    (fun s hs => ⟨by simp, by simp ; exact fun x hx => (hcap x hx).more (Nat.zero_le _), fun e he => by
      simp only [List.mem_cons, List.not_mem_nil, or_false] at he
      rcases he with rfl | rfl <;> first | exact encI64.entB _ _ _ _ | simp ⟩) (by simp [c1, Nat.min_eq_left (show k0 ≤ l.length by omega)]) ?_
  rintro ⟨j, R⟩ ⟨a1, a2, a3, a4, a5⟩
  simp only at a1 a2 a3 a4 a5
  refine wpc_soundR [] ?_
  by_cases hlt : (j : Int) < (l.length : Nat)
  · have hj : j < l.length := by omega
    have hR : R[j]'(by omega) = l[j] := by
      have := congrArg (fun x => x[0]?) a5
      simpa [List.getElem?_drop, hj, a2] using this
    have ix : ∀ c : Nat, c < l.length → evIndex [.dead, .arr 1 v (R.map (AV.int .i64))] 1 (.own 1 v 0 l.length) (.int .i64 (c : Int)) = some (.eptr 1 v c 0) := fun c hc => by
      rw [← a2]; exact encI64.index_own rfl (by omega)
    have ixj := ix j hj
    have ixc := ix (delF p (l.take j)).length (by omega)
    have ld : evLoad [.dead, .arr 1 v (R.map (AV.int .i64))] false 1 (.eptr 1 v j 0) = some (.int .i64 l[j]) := by
      rw [← hR]; simp [evLoad, window, AV.cells, a2, hj]
    have st : ∀ n : Int, evStore [.dead, .arr 1 v (R.map (AV.int .i64))] 1 (.eptr 1 v (delF p (l.take j)).length 0) (.int .i64 n) = some [.dead, .arr 1 v ((R.set (delF p (l.take j)).length n).map (AV.int .i64))] := fun n => st_rowJ n rfl (by omega)
    have wj := wrapS (show j < 9223372036854775807 by omega)
    have wc := wrapS (show (delF p (l.take j)).length < 9223372036854775807 by omega)
    simp -implicitDefEqProofs only [leafA, innerA, nodeA, patchA, Leaf.cells, Inner.cells, Node.cells, decide_true, decide_false, hlt, ixj, ld, go_sem, Nat.reduceEqDiff, reduceIte, Nat.reduceAdd, Nat.reduceLeDiff, Nat.reduceLT, Nat.reduceSub]
    refine Callee.c ht (hp l[j] (List.getElem_mem hj)) ?_
    have ct := delF_take (p := p) hj
    by_cases hm : p l[j] = true
    · rw [if_pos hm] at ct
      rw [hm]
      simp -implicitDefEqProofs only [leafA, innerA, nodeA, patchA, Leaf.cells, Inner.cells, Node.cells, decide_true, decide_false, wj, go_sem, Nat.reduceEqDiff, reduceIte, Nat.reduceAdd, Nat.reduceLeDiff, Nat.reduceLT, Nat.reduceSub]
      exact ⟨(j + 1, R), ⟨hj, a2, by simp only [ct]; omega, by simp only [ct]; exact a4, by
        simp only
        rw [← List.drop_drop, ← List.drop_drop, a5]⟩, by simp only; omega, by simp [ct], by simp⟩
    · rw [if_neg hm] at ct
      rw [Bool.eq_false_iff.2 hm]
      simp -implicitDefEqProofs only [leafA, innerA, nodeA, patchA, Leaf.cells, Inner.cells, Node.cells, decide_true, decide_false, wj, wc, ixc, st, go_sem, Nat.reduceEqDiff, reduceIte, Nat.reduceAdd, Nat.reduceLeDiff, Nat.reduceLT, Nat.reduceSub]
      exact ⟨(j + 1, R.set (delF p (l.take j)).length l[j]), ⟨hj, by rw [List.length_set]; exact a2, by simp only [ct, List.length_append, List.length_singleton]; omega, by
        simp only [ct, List.length_append, List.length_singleton]
        rw [take_set_lastJ (by omega), a4], by
        simp only
        rw [drop_set_moreJ (by omega), ← List.drop_drop, ← List.drop_drop, a5]⟩, by simp only; omega, by simp [ct], by simp⟩
  · have e : j = l.length := by omega
    subst e
    rw [List.take_length] at *
    have s1 : evSlice [.dead, .arr 1 v (R.map (AV.int .i64))] 1 (.own 1 v 0 l.length) (some (.int .i64 ((delF p l).length : Nat))) none none = some (.own 1 v (delF p l).length l.length) := by
      simp [evSlice, evBound, a2]; omega
    have s2 : ∀ R' : List Int, R'.length = l.length → evSlice [.dead, .arr 1 v (R'.map (AV.int .i64))] 1 (.own 1 v 0 l.length) none (some (.int .i64 ((delF p l).length : Nat))) none = some (.own 1 v 0 (delF p l).length) := fun R' hR' => by
      simp [evSlice, evBound, hR']; omega
    have cl : evClear [.dead, .arr 1 v (R.map (AV.int .i64))] 1 (.int .i64 0) (.own 1 v (delF p l).length l.length) = some [.dead, .arr 1 v ((R.take (delF p l).length ++ List.replicate (R.length - (delF p l).length) 0).map (AV.int .i64))] := by
      rw [← a2]; exact clearJ (by omega)
    have hl2 : (R.take (delF p l).length ++ List.replicate (R.length - (delF p l).length) 0).length = l.length := by
      simp only [List.length_append, List.length_take, List.length_replicate]; omega
    simp -implicitDefEqProofs only [leafA, innerA, nodeA, patchA, Leaf.cells, Inner.cells, Node.cells, decide_true, decide_false, hlt, s1, cl, s2 _ hl2, go_sem, Nat.reduceEqDiff, reduceIte, Nat.reduceAdd, Nat.reduceLeDiff, Nat.reduceLT, Nat.reduceSub]
    exact ⟨_, rfl, hl2, by rw [List.take_append_of_le_length (by rw [List.length_take]; omega), List.take_take, Nat.min_self, a4]⟩
end Go.Proofs.YtlehcigcaihoaaaDoor.Al
