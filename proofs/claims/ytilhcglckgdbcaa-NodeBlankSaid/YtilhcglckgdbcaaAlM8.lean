/-
  SPECS: numbers joined and cut.
-/
import Derived.Test.YtilhcglckgdbcaaAlM7
set_option linter.unusedSimpArgs false
set_option linter.unusedVariables false
namespace Go.Proofs.Ytilhcglckgdbcaa.Al
open Go
attribute [local go_sem] W_mv W_pick W_alloc W_box W_build W_bslice W_load W_store W_nilck W_bin W_isnil W_un W_convI W_convS W_mkiface W_mkfunc W_mkslice W_slice W_faddr W_field W_iaddr W_iaddrA W_idxA W_extract W_len W_lenS W_lenA W_min W_max W_append W_appendZ W_copy W_clear W_tassert W_invoke thenQ_normal thenQ_exit thenQ_goto thenQ_ret blockQ_normal blockQ_ret blockQ_goto blockQ_exit wpc_skip wpc_region wpc_draw wpc_seq wpc_cond wpc_block wpc_exit wpc_goto wpc_label wpc_ret wpc_loop wpc_range wpc_scope condW_true condW_false condW_dec condW_any W_nil W_call resW_some evalOp Opd.ev updo_envL updo_none setL_cons setL_nil envL_cons Option.map_some Option.bind_some evBin evInt List.map_cons List.map_nil Option.pure_def Option.bind_eq_bind W_grd' grdW_tt grdW_ff grdW_tf grdW_ft grdW_tup grdW_dt grdW_df lgrdW_tt lgrdW_ff lgrdW_tf lgrdW_ft lgrdW_tup lgrdW_dt lgrdW_df L_mv L_pick L_alloc L_box L_build L_bslice L_load L_store L_nilck L_bin L_isnil L_un L_convI L_convS L_mkiface L_mkfunc L_mkslice L_slice L_faddr L_field L_iaddr L_iaddrA L_idxA L_extract L_len L_lenS L_lenA L_min L_max L_append L_appendZ L_copy L_clear L_tassert L_nil L_call L_grd lresW_some upd_envL evUn beq_dec bne_dec leaves_ret1 leaves_end1 leaves_ret0 leaves_end0 leaves_ret2 leaves_ret3 rowLen_ints load_iptr0 not_dec heap_get0 heap_get1 heap_set0 heap_set1 heap_len1 heap_len2 heap_app heap_app2 bslice1_int seen_ints seen_one0 seen_one1 seen_one2 rowLen_own0 bslice0_int rowLen_own1 Nat.sub_zero Bool.not_true Bool.not_false List.length_nil List.length_cons List.nil_append List.cons_append Nat.zero_add load_iptrA canon_ptrI canon_bool canon_tup canon_agg canon_leafA canon_innerA canon_nodeA canon_ints' rowLen_ints0 seen_ints0 canon_ints0 rowLen_ints1 seen_ints1 canon_ints1 rowLen_ints2 seen_ints2 canon_ints2 rowLen_ints3 seen_ints3 canon_ints3 rowLen_octs seen_octs canon_octs' szOk_octs rowLen_octs0 seen_octs0 canon_octs0 rowLen_octs1 seen_octs1 canon_octs1 rowLen_octs2 seen_octs2 canon_octs2 rowLen_octs3 seen_octs3 canon_octs3 rowLen_intss seen_intss canon_intss' szOk_intss rowLen_intss0 seen_intss0 canon_intss0 rowLen_intss1 seen_intss1 canon_intss1 rowLen_intss2 seen_intss2 canon_intss2 rowLen_intss3 seen_intss3 canon_intss3 rowLen_octss seen_octss canon_octss' szOk_octss rowLen_octss0 seen_octss0 canon_octss0 rowLen_octss1 seen_octss1 canon_octss1 rowLen_octss2 seen_octss2 canon_octss2 rowLen_octss3 seen_octss3 canon_octss3 rowLen_nodes seen_nodes canon_nodes' szOk_nodes rowLen_nodes0 seen_nodes0 canon_nodes0 rowLen_nodes1 seen_nodes1 canon_nodes1 rowLen_nodes2 seen_nodes2 canon_nodes2 rowLen_nodes3 seen_nodes3 canon_nodes3 seen_list cells_int oneIn_int cells_bool oneIn_bool cells_str oneIn_str cells_list oneIn_list cells_func oneIn_func cells_nilfunc oneIn_nilfunc cells_iptr oneIn_iptr cells_iface oneIn_iface cells_nilIface oneIn_nilIface cells_own cells_ptr cells_anybool oneIn_anybool cells_agg oneIn_own0 oneIn_ptr0 seenL0 seenM0 oneIn_own1 oneIn_ptr1 seenL1 seenM1 oneIn_own2 oneIn_ptr2 seenL2 seenM2 oneIn_own3 oneIn_ptr3 seenL3 seenM3 oneIn_own4 oneIn_ptr4 seenL4 seenM4 oneIn_own5 oneIn_ptr5 seenL5 seenM5 cells_ints oneIn_ints cells_octs oneIn_octs cells_intss oneIn_intss cells_octss oneIn_octss cells_nodes oneIn_nodes ldB0 ldA0 adB0 stB0 ldB1 ldA1 adB1 stB1 ldB2 ldA2 adB2 stB2 ldB3 ldA3 adB3 stB3 ldB4 ldA4 adB4 stB4 ldB5 ldA5 adB5 stB5 List.getElem?_cons_zero List.getElem?_cons_succ beq_self_eq_true splice List.take_zero List.take_succ_cons List.drop_zero List.drop_succ_cons List.append_nil List.set_cons_zero List.set_cons_succ List.all_cons List.all_nil Bool.and_self and_self and_true true_and Nat.lt_irrefl Nat.zero_lt_one Nat.le_refl fillA evNil notA Bool.false_eq_true evMin_int evMax_int Option.map_none freezeP_all_nil freezeP_all_cons frzE_box frzE_arr frzE_dead foldA List.foldlM_cons List.foldlM_nil callW_f lcallW_f ansW_fn ansW_own lansW_fn lansW_own ansW_none lansW_none tab_cons tab_nil dI_int dB_bool dO_octs dO_ints dO_list dO_nil dOs_octss dOs_intss dOs_nil dLf_leafA dIn_innerA dN_nodeA dLf_agg dIn_agg dN_agg dNs_nodes dNs_list dNs_nil isI_int isU_int isB_bool isO_octs isO_nil isO_list isS_ints isS_nil isS_list isOs_octss isSs_intss isOs_nil isSs_nil isNs_nodes isNs_list isNs_nil isLf_leafA isIn_innerA isN_nodeA isLf_agg isIn_agg isN_agg leaf_eta inner_eta node_eta leaf_zero inner_zero node_zero dP_patchA dP_agg isP_patchA isP_agg patch_eta decide_eq_true_eq decide_eq_false_iff_not eq_self forall_const true_implies false_implies Bool.not_eq_true' Bool.not_eq_false' Bool.true_eq_false implies_true ne_eq ldI ldIA adI AV.tup.injEq AV.agg.injEq List.cons.injEq AV.int.injEq AV.bool.injEq nodes_inj octs_inj ints_inj nil_nodes nil_octs nil_ints canon_nilL decide_eq_decide two_ne four_ne b256_ne lendA_fn lendA_own lendA_none llendA_fn llendA_none plain_bool plain_int plain_tup2 isNs_own isO_own isS_own isOs_own false_and and_false Q_nil Q_l Q_g Q_h Q_grd qgrdW_b qgrdW_tup lightD_some heavyD_some readD_some fnD_some fnD_own fnD_none callL_f ownH_some callH_f litD_some litE_some Q_call Q_bslice H_call pendOk_nil pendOk_cons pastOk_nil pastOk_cons Q_mv Q_pick Q_bin Q_un Q_convI Q_mkfunc Q_extract Q_min Q_max Q_lenS Q_lenA Q_field Q_idxA Q_mkiface Q_tassert Q_alloc Q_box Q_store Q_mkslice Q_append Q_appendZ Q_copy Q_clear Q_build Q_load Q_nilck Q_isnil Q_convS Q_slice Q_faddr Q_iaddr Q_iaddrA Q_len H_alloc H_box H_bslice H_store H_mkslice H_append H_appendZ H_copy H_clear free_mv free_pick free_bin free_un free_convI free_mkfunc free_extract free_min free_max free_lenS free_lenA free_field free_idxA free_mkiface free_tassert free_build free_load free_nilck free_isnil free_convS free_slice free_faddr free_iaddr free_iaddrA free_len callW_y List.length_map List.length_set leaves_r evR_some evRess1 evRess2 evRess3 evRes_t evRes_c nz_kind nz_enc nz_cred nz_source nz_parent nz_ienc nz_hash nz_un true_or or_true bsl_node idbs_node idbs_int appN appI appO ixo_nodes canon_row canon_rowI canon_rowO not_false_eq_true not_true_eq_false ldE_a ldE_c adE_b stE_b onE_a onP_b bsl_zero idbs_zero appN_zero
attribute [local go_sem low] condW_b grdW_b lgrdW_b ldP adP stP onO onPt
attribute [local simp] envL_cons envL_nil idb_int idb_bool idb_str idb_ints idb_nil idb_own idb_ptr entB_ints' idb_octs entB_octs idb_intss entB_intss idb_octss entB_octss idb_nodes entB_nodes idb_leafA idb_innerA idb_nodeA idb_agg idb_tup idb_iptr idb_fn idb_undef entB_dead entB_box

theorem numsJoin_spec (l : List Int) (i : Int) (hl : l.length ≤ 4294960000) : Fun seat 185 [ints l, .int .i64 i] (ints (joinL l i)) := by
  have hl' : l.length ≤ 4294967295 := by omega
  have m1 : l.length + 1 ≤ maxRow := by unfold maxRow; omega
  refine Fun.of0R [r201] told185 (by simp [il185]) (by simp [idb_patchA]) (by simp [idb_patchA]) 4 ?_
  simp -implicitDefEqProofs only [il185, List.zipIdx_cons, List.zipIdx_nil, leafA, innerA, nodeA, patchA, Leaf.cells, Inner.cells, Node.cells, r201_c, r201_ask, decide_true, decide_false, hl', m1, go_sem, Nat.reduceEqDiff, reduceIte, Nat.reduceAdd, Nat.reduceLeDiff, Nat.reduceLT, Nat.reduceSub]
  refine Callee.frz 1 told163 (by
    rw [List.map_cons, List.map_nil, canon_rowI (H := [Entry.arr 1 1 (List.map (AV.int .i64) (l ++ [i])), Entry.arr 1 0 [AV.int .i64 i]]) (id := 0) (ver := 1) (k := 0) (l := l ++ [i]) rfl]
    exact thin_spec (l ++ [i]) (by simp; omega)) ?_
  exact encI64.canon_row _ _ _
noncomputable def r185 : Reg seat := .of told185 (ask2 (fun a0' a1' => isS a0' ∧ isI a1' ∧ (dO a0').length ≤ 4294960000) fun a0' a1' => .fn (ints (joinL (dO a0') (dI a1')))) (ask2_ok fun a0' a1' h => SaidOk.fn (Fun.weak (.cons (isS.weak h.1) (.cons (isI.weak h.2.1) .nil)) (numsJoin_spec _ _ h.2.2)))
theorem r185_c : r185.c = 185 := rfl
open Classical in
theorem r185_ask (a0' a1' : AV) : r185.ask [a0', a1'] = if isS a0' ∧ isI a1' ∧ (dO a0').length ≤ 4294960000 then some (Said.fn (ints (joinL (dO a0') (dI a1')))) else none := by unfold r185 Reg.of ask2; exact ite_cl

theorem index_spec (l : List Int) (x : Int) (hl : Small l) : Fun seat 222 [ints l, .int .i64 x] (.int .i64 (idxF (fun y => decide (x = y)) l)) := by
  simp only [Small] at hl
  refine Fun.of0R [] told222 (by simp [il222]) (by simp [idb_patchA]) (by simp [idb_patchA]) 4 ?_
  simp -implicitDefEqProofs only [il222, List.zipIdx_cons, List.zipIdx_nil, leafA, innerA, nodeA, patchA, Leaf.cells, Inner.cells, Node.cells, decide_true, decide_false, go_sem, Nat.reduceEqDiff, reduceIte, Nat.reduceAdd, Nat.reduceLeDiff, Nat.reduceLT, Nat.reduceSub]
  refine WP.loop0 (fun k => k ≤ l.length ∧ ∀ j (h : j < l.length), j < k → ¬ x = l[j]) (fun k => [(0, ints l), (1, .int .i64 x), (7, .int .i64 l.length), (8, .int .i64 (k : Nat))]) (fun k => l.length - k) 0 ⟨Nat.zero_le _, fun j _ h => absurd h (Nat.not_lt_zero j)⟩ (fun k _ => by simp ) (by simp ) ?_
  rintro k ⟨hk, hno⟩
  refine wpc_soundR [] ?_
  by_cases hlt : (k : Int) < (l.length : Nat)
  · have hk' : k < l.length := by omega
    by_cases he : x = l[k]
    · simp -implicitDefEqProofs only [leafA, innerA, nodeA, patchA, Leaf.cells, Inner.cells, Node.cells, decide_true, decide_false, hlt, fun H => index_ints H l k hk', he, go_sem, Nat.reduceEqDiff, reduceIte, Nat.reduceAdd, Nat.reduceLeDiff, Nat.reduceLT, Nat.reduceSub]
      exact (findIdx_at hk' (by simp) fun j hj => decide_eq_false (by have := hno j (by omega) hj; rwa [he] at this)).symm
    · simp -implicitDefEqProofs only [leafA, innerA, nodeA, patchA, Leaf.cells, Inner.cells, Node.cells, decide_true, decide_false, hlt, fun H => index_ints H l k hk', he, go_sem, Nat.reduceEqDiff, reduceIte, Nat.reduceAdd, Nat.reduceLeDiff, Nat.reduceLT, Nat.reduceSub]
      exact ⟨k + 1, ⟨hk', scanS (p := fun j h => ¬ x = l[j]) hno fun _ => he⟩, by omega, by simp [wrapS (show k < 9223372036854775807 by omega)]⟩
  · simp -implicitDefEqProofs only [leafA, innerA, nodeA, patchA, Leaf.cells, Inner.cells, Node.cells, decide_true, decide_false, hlt, go_sem, Nat.reduceEqDiff, reduceIte, Nat.reduceAdd, Nat.reduceLeDiff, Nat.reduceLT, Nat.reduceSub]
    exact (idxF_none (l := l) (p := fun y => decide (x = y)) fun j hj => decide_eq_false (hno j hj (by omega))).symm
noncomputable def r222 : Reg seat := .of told222 (ask2 (fun a0' a1' => isS a0' ∧ isI a1' ∧ Small (dO a0')) fun a0' a1' => .fn (.int .i64 (idxF (fun y => decide ((dI a1') = y)) (dO a0')))) (ask2_ok fun a0' a1' h => SaidOk.fn (Fun.weak (.cons (isS.weak h.1) (.cons (isI.weak h.2.1) .nil)) (index_spec _ _ h.2.2)))
theorem r222_c : r222.c = 222 := rfl
open Classical in
theorem r222_ask (a0' a1' : AV) : r222.ask [a0', a1'] = if isS a0' ∧ isI a1' ∧ Small (dO a0') then some (Said.fn (.int .i64 (idxF (fun y => decide ((dI a1') = y)) (dO a0')))) else none := by unfold r222 Reg.of ask2; exact ite_cl
theorem idxF_has (l : List Int) (x : Int) : decide (idxF (fun y => decide (x = y)) l ≥ 0) = l.contains x := by
  rw [idxF_ge]
  rw [Bool.eq_iff_iff]
  simp only [List.any_eq_true, decide_eq_true_eq, List.contains_iff_mem]
  exact ⟨fun ⟨y, h1, h2⟩ => h2 ▸ h1, fun h => ⟨x, h, rfl⟩⟩
theorem contains_spec (l : List Int) (x : Int) (hl : Small l) : Fun seat 204 [ints l, .int .i64 x] (.bool (l.contains x)) := by
  rw [← idxF_has]
  refine Fun.of0R [r222] told204 (by simp [il204]) (by simp [idb_patchA]) (by simp [idb_patchA]) 4 ?_
  simp -implicitDefEqProofs only [il204, List.zipIdx_cons, List.zipIdx_nil, leafA, innerA, nodeA, patchA, Leaf.cells, Inner.cells, Node.cells, r222_c, r222_ask, decide_true, decide_false, hl, go_sem, Nat.reduceEqDiff, reduceIte, Nat.reduceAdd, Nat.reduceLeDiff, Nat.reduceLT, Nat.reduceSub]
noncomputable def r204 : Reg seat := .of told204 (ask2 (fun a0' a1' => isS a0' ∧ isI a1' ∧ Small (dO a0')) fun a0' a1' => .fn (.bool ((dO a0').contains (dI a1')))) (ask2_ok fun a0' a1' h => SaidOk.fn (Fun.weak (.cons (isS.weak h.1) (.cons (isI.weak h.2.1) .nil)) (contains_spec _ _ h.2.2)))
theorem r204_c : r204.c = 204 := rfl
open Classical in
theorem r204_ask (a0' a1' : AV) : r204.ask [a0', a1'] = if isS a0' ∧ isI a1' ∧ Small (dO a0') then some (Said.fn (.bool ((dO a0').contains (dI a1')))) else none := by unfold r204 Reg.of ask2; exact ite_cl
theorem cutting_spec (l : List Int) (x : Int) (hl : Small l) : Fun seat 203 [.int .i64 x, .iptr [ints l] 0] (.bool (l.contains x)) := by
  refine Fun.of0R [r204] told203 (by simp [il203]) (by simp [idb_patchA]) (by simp [idb_patchA]) 4 ?_
  simp -implicitDefEqProofs only [il203, List.zipIdx_cons, List.zipIdx_nil, leafA, innerA, nodeA, patchA, Leaf.cells, Inner.cells, Node.cells, r204_c, r204_ask, decide_true, decide_false, hl, go_sem, Nat.reduceEqDiff, reduceIte, Nat.reduceAdd, Nat.reduceLeDiff, Nat.reduceLT, Nat.reduceSub]

theorem st_rowI {H : List Entry} {id ver k : Nat} {l : List Int} (n : Int) (h : H[id]? = some (.arr 1 ver (l.map (AV.int .i64)))) (hk : k < l.length) : evStore H 1 (.eptr id ver k 0) (.int .i64 n) = some (H.set id (.arr 1 ver ((l.set k n).map (AV.int .i64)))) := by
  have h3 : (l.map (AV.int .i64))[k]? = some (.int .i64 l[k]) := by simp [hk]
  simp [evStore, AV.cells, AV.oneIn, h, h3, setPart, splice, List.map_set, hk]
theorem clearI {e0 : Entry} {v c : Nat} {R : List Int} (hc : c ≤ R.length) : evClear [e0, .arr 1 v (R.map (AV.int .i64))] 1 (.int .i64 0) (.own 1 v c R.length) = some [e0, .arr 1 v ((R.take c ++ List.replicate (R.length - c) 0).map (AV.int .i64))] := by
  simp [evClear, hc, szOk, AV.cells, AV.oneIn]
theorem idxF_cases {α : Type} (p : α → Bool) (l : List α) : (idxF p l = -1 ∧ ∀ j (h : j < l.length), p l[j] = false) ∨ ∃ k : Nat, ∃ hk : k < l.length, idxF p l = k ∧ p l[k] = true ∧ ∀ j (h : j < k), p (l[j]'(by omega)) = false := by
  by_cases ha : l.any p = true
  · right
    obtain ⟨x, hx, hp⟩ := List.any_eq_true.1 ha
    have hlt : l.findIdx p < l.length := List.findIdx_lt_length_of_exists ⟨x, hx, hp⟩
    exact ⟨l.findIdx p, hlt, by unfold idxF; rw [if_pos ha], List.findIdx_getElem, fun j h => by simpa using List.not_of_lt_findIdx h⟩
  · left
    refine ⟨by unfold idxF; rw [if_neg ha], fun j h => ?_⟩
    cases hp : p l[j] with
    | false => rfl
    | true => exact absurd (List.any_eq_true.2 ⟨l[j], List.getElem_mem h, hp⟩) ha
theorem cutL_same {l i : List Int} (h : ∀ j (hj : j < l.length), i.contains l[j] = false) : cutL l i = l := by
  unfold cutL
  rw [List.filter_eq_self]
  intro x hx
  obtain ⟨j, hj, rfl⟩ := List.getElem_of_mem hx
  rw [h j hj]; rfl

theorem take_set_last {R : List Int} {c : Nat} {x : Int} (h : c < R.length) : (R.set c x).take (c + 1) = R.take c ++ [x] := by
  rw [List.take_succ_eq_append_getElem (by rw [List.length_set]; exact h), List.getElem_set_self, List.take_set, List.set_eq_of_length_le (by rw [List.length_take]; omega)]
theorem drop_set_more {R : List Int} {c m : Nat} {x : Int} (h : c < m) : (R.set c x).drop m = R.drop m := by
  rw [List.drop_set, if_pos h]
/-- slices.DeleteFunc over a row of one's own: what is left stands ahead. -/
theorem delete_spec (l i : List Int) (v : Nat) (hl : l.length ≤ 4294967295) (hi : Small i) :
    ACall seat 202 [.own 1 v 0 l.length, .func (.f 203) [] [.iptr [ints i] 0]] [.dead, .arr 1 v (l.map (AV.int .i64))] (fun r H' => r = .own 1 v 0 (cutL l i).length ∧ ∃ R : List Int, H' = [.dead, .arr 1 v (R.map (AV.int .i64))] ∧ R.length = l.length ∧ R.take (cutL l i).length = cutL l i) := by
  refine ACall.of_wp told202 (by simp [il202]) (wpc_soundR [] ?_)
  rw [start_env]
  simp only [il202, List.zipIdx_cons, List.zipIdx_nil, Nat.zero_add, go_sem, Nat.reduceEqDiff, reduceIte, Nat.reduceAdd, Nat.reduceLeDiff, Nat.reduceLT, Nat.reduceSub]
  refine Callee.lend (r := .int .i64 (idxF (fun x => i.contains x) l)) 1 told167 ?_ (.int _ _) ?_
  · rw [List.map_cons, List.map_cons, List.map_nil, canon_rowI (H := [.dead, .arr 1 v (l.map (AV.int .i64))]) (id := 1) (ver := v) (k := 0) (l := l) rfl]
    exact idx167_spec l (fun x => i.contains x) 203 il203 told203 [.iptr [ints i] 0] (fun x hx => by simp only [List.mem_singleton] at hx; subst hx; simp ) fun x hx => cutting_spec i x hi
  rcases idxF_cases (fun x => i.contains x) l with ⟨h1, h2⟩ | ⟨k0, hk0, h1, h2, h3⟩
  · have e := cutL_same h2
    rw [h1, e]
    simp -implicitDefEqProofs only [leafA, innerA, nodeA, patchA, Leaf.cells, Inner.cells, Node.cells, decide_true, decide_false, go_sem, Nat.reduceEqDiff, reduceIte, Nat.reduceAdd, Nat.reduceLeDiff, Nat.reduceLT, Nat.reduceSub]
    exact ⟨l, rfl, rfl, List.take_length⟩
  have hne : ¬ (k0 : Int) = -1 := by omega
  rw [h1]
  have w0 := wrapS (show k0 < 9223372036854775807 by omega)
  have c0 : cutL (l.take k0) i = l.take k0 := cutL_same fun j hj => by
    rw [List.length_take] at hj
    rw [List.getElem_take]; exact h3 j (by omega)
  have c1 : cutL (l.take (k0 + 1)) i = l.take k0 := by
    have hm : l[k0] ∈ i := by simpa using h2
    rw [cutL_take hk0, if_pos hm, c0]
  simp -implicitDefEqProofs only [leafA, innerA, nodeA, patchA, Leaf.cells, Inner.cells, Node.cells, decide_true, decide_false, hne, w0, go_sem, Nat.reduceEqDiff, reduceIte, Nat.reduceAdd, Nat.reduceLeDiff, Nat.reduceLT, Nat.reduceSub]
  refine WP.loopG (fun s : Nat × List Int => s.1 ≤ l.length ∧ s.2.length = l.length ∧ (cutL (l.take s.1) i).length < s.1 ∧ s.2.take (cutL (l.take s.1) i).length = cutL (l.take s.1) i ∧ s.2.drop s.1 = l.drop s.1)
    (fun s => [(0, .own 1 v 0 l.length), (1, .func (.f 203) [] [.iptr [ints i] 0]), (5, .int .i64 ((cutL (l.take s.1) i).length : Nat)), (6, .int .i64 (s.1 : Nat))]) (fun s => [.dead, .arr 1 v (s.2.map (AV.int .i64))]) (fun s => l.length - s.1) (k0 + 1, l)
    ⟨hk0, rfl, by rw [c1, List.length_take]; simp only; omega, by rw [c1, List.length_take, Nat.min_eq_left (by omega)], rfl⟩
    (fun s hs => ⟨by simp, by simp , fun e he => by
      simp only [List.mem_cons, List.not_mem_nil, or_false] at he
      rcases he with rfl | rfl <;> first | exact encI64.entB _ _ _ _ | simp ⟩) (by simp [c1, Nat.min_eq_left (show k0 ≤ l.length by omega)]) ?_
  rintro ⟨j, R⟩ ⟨a1, a2, a3, a4, a5⟩
  simp only at a1 a2 a3 a4 a5
  refine wpc_soundR [] ?_
  by_cases hlt : (j : Int) < (l.length : Nat)
  · have hj : j < l.length := by omega
    have hR : R[j]'(by omega) = l[j] := by
      have := congrArg (fun x => x[0]?) a5
      simpa [List.getElem?_drop, hj, a2] using this
    have ix : ∀ c : Nat, c < l.length → evIndex [.dead, .arr 1 v (R.map (AV.int .i64))] 1 (.own 1 v 0 l.length) (.int .i64 (c : Int)) = some (.eptr 1 v c 0) := fun c hc => by
      rw [← a2]; exact encI64.index_own rfl (by omega)
    have ixj := ix j hj
    have ixc := ix (cutL (l.take j) i).length (by omega)
    have ld : evLoad [.dead, .arr 1 v (R.map (AV.int .i64))] false 1 (.eptr 1 v j 0) = some (.int .i64 l[j]) := by
      rw [← hR]; simp [evLoad, window, AV.cells, a2, hj]
    have st : ∀ n : Int, evStore [.dead, .arr 1 v (R.map (AV.int .i64))] 1 (.eptr 1 v (cutL (l.take j) i).length 0) (.int .i64 n) = some [.dead, .arr 1 v ((R.set (cutL (l.take j) i).length n).map (AV.int .i64))] := fun n => st_rowI n rfl (by omega)
    have wj := wrapS (show j < 9223372036854775807 by omega)
    have wc := wrapS (show (cutL (l.take j) i).length < 9223372036854775807 by omega)
    simp -implicitDefEqProofs only [leafA, innerA, nodeA, patchA, Leaf.cells, Inner.cells, Node.cells, decide_true, decide_false, hlt, ixj, ld, go_sem, Nat.reduceEqDiff, reduceIte, Nat.reduceAdd, Nat.reduceLeDiff, Nat.reduceLT, Nat.reduceSub]
    refine Callee.c told203 (cutting_spec i l[j] hi) ?_
    have ct := cutL_take (i := i) hj
    by_cases hm : l[j] ∈ i
    · have hc : i.contains l[j] = true := by simpa using hm
      rw [if_pos hm] at ct
      rw [hc]
      simp -implicitDefEqProofs only [leafA, innerA, nodeA, patchA, Leaf.cells, Inner.cells, Node.cells, decide_true, decide_false, wj, go_sem, Nat.reduceEqDiff, reduceIte, Nat.reduceAdd, Nat.reduceLeDiff, Nat.reduceLT, Nat.reduceSub]
      exact ⟨(j + 1, R), ⟨hj, a2, by simp only [ct]; omega, by simp only [ct]; exact a4, by
        simp only
        rw [← List.drop_drop, ← List.drop_drop, a5]⟩, by simp only; omega, by simp [ct], by simp⟩
    · have hc : i.contains l[j] = false := by simpa using hm
      rw [if_neg hm] at ct
      rw [hc]
      simp -implicitDefEqProofs only [leafA, innerA, nodeA, patchA, Leaf.cells, Inner.cells, Node.cells, decide_true, decide_false, wj, wc, ixc, st, go_sem, Nat.reduceEqDiff, reduceIte, Nat.reduceAdd, Nat.reduceLeDiff, Nat.reduceLT, Nat.reduceSub]
      exact ⟨(j + 1, R.set (cutL (l.take j) i).length l[j]), ⟨hj, by rw [List.length_set]; exact a2, by simp only [ct, List.length_append, List.length_singleton]; omega, by
        simp only [ct, List.length_append, List.length_singleton]
        rw [take_set_last (by omega), a4], by
        simp only
        rw [drop_set_more (by omega), ← List.drop_drop, ← List.drop_drop, a5]⟩, by simp only; omega, by simp [ct], by simp⟩
  · have e : j = l.length := by omega
    subst e
    rw [List.take_length] at *
    have s1 : evSlice [.dead, .arr 1 v (R.map (AV.int .i64))] 1 (.own 1 v 0 l.length) (some (.int .i64 ((cutL l i).length : Nat))) none none = some (.own 1 v (cutL l i).length l.length) := by
      simp [evSlice, evBound, a2]; omega
    have s2 : ∀ R' : List Int, R'.length = l.length → evSlice [.dead, .arr 1 v (R'.map (AV.int .i64))] 1 (.own 1 v 0 l.length) none (some (.int .i64 ((cutL l i).length : Nat))) none = some (.own 1 v 0 (cutL l i).length) := fun R' hR' => by
      simp [evSlice, evBound, hR']; omega
    have cl : evClear [.dead, .arr 1 v (R.map (AV.int .i64))] 1 (.int .i64 0) (.own 1 v (cutL l i).length l.length) = some [.dead, .arr 1 v ((R.take (cutL l i).length ++ List.replicate (R.length - (cutL l i).length) 0).map (AV.int .i64))] := by
      rw [← a2]; exact clearI (by omega)
    have hl2 : (R.take (cutL l i).length ++ List.replicate (R.length - (cutL l i).length) 0).length = l.length := by
      simp only [List.length_append, List.length_take, List.length_replicate]; omega
    simp -implicitDefEqProofs only [leafA, innerA, nodeA, patchA, Leaf.cells, Inner.cells, Node.cells, decide_true, decide_false, hlt, s1, cl, s2 _ hl2, go_sem, Nat.reduceEqDiff, reduceIte, Nat.reduceAdd, Nat.reduceLeDiff, Nat.reduceLT, Nat.reduceSub]
    exact ⟨_, rfl, hl2, by rw [List.take_append_of_le_length (by rw [List.length_take]; omega), List.take_take, Nat.min_self, a4]⟩

theorem numsCut_spec (l i : List Int) (hl : l.length ≤ 4294967295) (hi : Small i) : Fun seat 186 [ints l, ints i] (ints (cutL l i)) := by
  refine Fun.of0W told186 (by simp [il186]) (by simp ) (by simp ) 4 ?_
  simp only [il186, List.zipIdx_cons, List.zipIdx_nil, Nat.zero_add, List.map_cons, List.map_nil]
  refine WP.seqR [] fun K hK => ?_
  simp -implicitDefEqProofs only [leafA, innerA, nodeA, patchA, Leaf.cells, Inner.cells, Node.cells, decide_true, decide_false, go_sem, Nat.reduceEqDiff, reduceIte, Nat.reduceAdd, Nat.reduceLeDiff, Nat.reduceLT, Nat.reduceSub]
  refine hK _ (WP.sealB 3 0 rfl rfl ?_)
  clear hK K
  refine wpc_soundR [r201] ?_
  simp -implicitDefEqProofs only [leafA, innerA, nodeA, patchA, Leaf.cells, Inner.cells, Node.cells, r201_c, r201_ask, decide_true, decide_false, hl, go_sem, Nat.reduceEqDiff, reduceIte, Nat.reduceAdd, Nat.reduceLeDiff, Nat.reduceLT, Nat.reduceSub]
  refine Callee.plain (Callable.of told202) (delete_spec l i 0 hl hi) ?_
  rintro _ _ ⟨rfl, R, rfl, hR, hT⟩
  have := encI64.canon_own (H := [.dead, .arr 1 0 (R.map (AV.int .i64))]) (id := 1) (sz := 1) (ver := 0) (lo := 0) (hi := (cutL l i).length) (l := R) rfl (by rw [hR]; exact cutL_le l i) 3
  rw [this, List.drop_zero, hT]; rfl
noncomputable def r186 : Reg seat := .of told186 (ask2 (fun a0' a1' => isS a0' ∧ isS a1' ∧ (dO a0').length ≤ 4294967295 ∧ Small (dO a1')) fun a0' a1' => .fn (ints (cutL (dO a0') (dO a1')))) (ask2_ok fun a0' a1' h => SaidOk.fn (Fun.weak (.cons (isS.weak h.1) (.cons (isS.weak h.2.1) .nil)) (numsCut_spec _ _ h.2.2.1 h.2.2.2)))
theorem r186_c : r186.c = 186 := rfl
open Classical in
theorem r186_ask (a0' a1' : AV) : r186.ask [a0', a1'] = if isS a0' ∧ isS a1' ∧ (dO a0').length ≤ 4294967295 ∧ Small (dO a1') then some (Said.fn (ints (cutL (dO a0') (dO a1')))) else none := by unfold r186 Reg.of ask2; exact ite_cl
end Go.Proofs.Ytilhcglckgdbcaa.Al
