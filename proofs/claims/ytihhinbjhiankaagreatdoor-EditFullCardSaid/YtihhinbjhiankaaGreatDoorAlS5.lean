/-
  SPECS: shape.Set, Grow, Trim.
-/
import Derived.Test.YtihhinbjhiankaaGreatDoorAlS4
import Derived.Test.YtihhinbjhiankaaGreatDoorAlN5
set_option linter.unusedSimpArgs false
set_option linter.unusedVariables false
namespace Go.Proofs.YtihhinbjhiankaaGreatDoor.Al
open Go
attribute [local go_sem] W_mv W_pick W_alloc W_box W_build W_bslice W_load W_store W_nilck W_bin W_isnil W_un W_convI W_convS W_mkiface W_mkfunc W_mkslice W_slice W_faddr W_field W_iaddr W_iaddrA W_idxA W_extract W_len W_lenS W_lenA W_min W_max W_append W_appendZ W_copy W_clear W_tassert W_invoke thenQ_normal thenQ_exit thenQ_goto thenQ_ret blockQ_normal blockQ_ret blockQ_goto blockQ_exit wpc_skip wpc_region wpc_draw wpc_seq wpc_cond wpc_block wpc_exit wpc_goto wpc_label wpc_ret wpc_loop wpc_range wpc_scope condW_true condW_false condW_dec condW_any W_nil W_call resW_some evalOp Opd.ev updo_envL updo_none setL_cons setL_nil envL_cons Option.map_some Option.bind_some evBin evInt List.map_cons List.map_nil Option.pure_def Option.bind_eq_bind W_grd' grdW_tt grdW_ff grdW_tf grdW_ft grdW_tup grdW_dt grdW_df lgrdW_tt lgrdW_ff lgrdW_tf lgrdW_ft lgrdW_tup lgrdW_dt lgrdW_df L_mv L_pick L_alloc L_box L_build L_bslice L_load L_store L_nilck L_bin L_isnil L_un L_convI L_convS L_mkiface L_mkfunc L_mkslice L_slice L_faddr L_field L_iaddr L_iaddrA L_idxA L_extract L_len L_lenS L_lenA L_min L_max L_append L_appendZ L_copy L_clear L_tassert L_nil L_call L_grd lresW_some upd_envL evUn beq_dec bne_dec leaves_ret1 leaves_end1 leaves_ret0 leaves_end0 leaves_ret2 leaves_ret3 rowLen_ints load_iptr0 not_dec heap_get0 heap_get1 heap_set0 heap_set1 heap_len1 heap_len2 heap_app heap_app2 bslice1_int seen_ints seen_one0 seen_one1 seen_one2 rowLen_own0 bslice0_int rowLen_own1 Nat.sub_zero Bool.not_true Bool.not_false List.length_nil List.length_cons List.nil_append List.cons_append Nat.zero_add load_iptrA canon_ptrI canon_bool canon_tup canon_agg canon_leafA canon_innerA canon_nodeA canon_ints' rowLen_ints0 seen_ints0 canon_ints0 rowLen_ints1 seen_ints1 canon_ints1 rowLen_ints2 seen_ints2 canon_ints2 rowLen_ints3 seen_ints3 canon_ints3 rowLen_octs seen_octs canon_octs' szOk_octs rowLen_octs0 seen_octs0 canon_octs0 rowLen_octs1 seen_octs1 canon_octs1 rowLen_octs2 seen_octs2 canon_octs2 rowLen_octs3 seen_octs3 canon_octs3 rowLen_intss seen_intss canon_intss' szOk_intss rowLen_intss0 seen_intss0 canon_intss0 rowLen_intss1 seen_intss1 canon_intss1 rowLen_intss2 seen_intss2 canon_intss2 rowLen_intss3 seen_intss3 canon_intss3 rowLen_octss seen_octss canon_octss' szOk_octss rowLen_octss0 seen_octss0 canon_octss0 rowLen_octss1 seen_octss1 canon_octss1 rowLen_octss2 seen_octss2 canon_octss2 rowLen_octss3 seen_octss3 canon_octss3 rowLen_nodes seen_nodes canon_nodes' szOk_nodes rowLen_nodes0 seen_nodes0 canon_nodes0 rowLen_nodes1 seen_nodes1 canon_nodes1 rowLen_nodes2 seen_nodes2 canon_nodes2 rowLen_nodes3 seen_nodes3 canon_nodes3 seen_list cells_int oneIn_int cells_bool oneIn_bool cells_str oneIn_str cells_list oneIn_list cells_func oneIn_func cells_nilfunc oneIn_nilfunc cells_iptr oneIn_iptr cells_iface oneIn_iface cells_nilIface oneIn_nilIface cells_own cells_ptr cells_anybool oneIn_anybool cells_agg oneIn_own0 oneIn_ptr0 seenL0 seenM0 oneIn_own1 oneIn_ptr1 seenL1 seenM1 oneIn_own2 oneIn_ptr2 seenL2 seenM2 oneIn_own3 oneIn_ptr3 seenL3 seenM3 oneIn_own4 oneIn_ptr4 seenL4 seenM4 oneIn_own5 oneIn_ptr5 seenL5 seenM5 cells_ints oneIn_ints cells_octs oneIn_octs cells_intss oneIn_intss cells_octss oneIn_octss cells_nodes oneIn_nodes ldB0 ldA0 adB0 stB0 ldB1 ldA1 adB1 stB1 ldB2 ldA2 adB2 stB2 ldB3 ldA3 adB3 stB3 ldB4 ldA4 adB4 stB4 ldB5 ldA5 adB5 stB5 List.getElem?_cons_zero List.getElem?_cons_succ beq_self_eq_true splice List.take_zero List.take_succ_cons List.drop_zero List.drop_succ_cons List.append_nil List.set_cons_zero List.set_cons_succ List.all_cons List.all_nil Bool.and_self and_self and_true true_and Nat.lt_irrefl Nat.zero_lt_one Nat.le_refl fillA evNil notA Bool.false_eq_true evMin_int evMax_int Option.map_none freezeP_all_nil freezeP_all_cons frzE_box frzE_arr frzE_dead foldA List.foldlM_cons List.foldlM_nil callW_f lcallW_f ansW_fn ansW_own lansW_fn lansW_own ansW_none lansW_none tab_cons tab_nil dI_int dB_bool dO_octs dO_ints dO_list dO_nil dOs_octss dOs_intss dOs_nil dLf_leafA dIn_innerA dN_nodeA dLf_agg dIn_agg dN_agg dNs_nodes dNs_list dNs_nil isI_int isU_int isB_bool isO_octs isO_nil isO_list isS_ints isS_nil isS_list isOs_octss isSs_intss isOs_nil isSs_nil isNs_nodes isNs_list isNs_nil isLf_leafA isIn_innerA isN_nodeA isLf_agg isIn_agg isN_agg leaf_eta inner_eta node_eta leaf_zero inner_zero node_zero dP_patchA dP_agg isP_patchA isP_agg patch_eta decide_eq_true_eq decide_eq_false_iff_not eq_self forall_const true_implies false_implies Bool.not_eq_true' Bool.not_eq_false' Bool.true_eq_false implies_true ne_eq ldI ldIA adI AV.tup.injEq AV.agg.injEq List.cons.injEq AV.int.injEq AV.bool.injEq nodes_inj octs_inj ints_inj nil_nodes nil_octs nil_ints canon_nilL decide_eq_decide two_ne four_ne b256_ne lendA_fn lendA_own lendA_none llendA_fn llendA_none plain_bool plain_int plain_tup2 isNs_own isO_own isS_own isOs_own false_and and_false Q_nil Q_l Q_g Q_h Q_grd qgrdW_b qgrdW_tup lightD_some heavyD_some readD_some fnD_some fnD_own fnD_none callL_f ownH_some callH_f litD_some litE_some Q_call Q_bslice H_call pendOk_nil pendOk_cons pastOk_nil pastOk_cons Q_mv Q_pick Q_bin Q_un Q_convI Q_mkfunc Q_extract Q_min Q_max Q_lenS Q_lenA Q_field Q_idxA Q_mkiface Q_tassert Q_alloc Q_box Q_store Q_mkslice Q_append Q_appendZ Q_copy Q_clear Q_build Q_load Q_nilck Q_isnil Q_convS Q_slice Q_faddr Q_iaddr Q_iaddrA Q_len H_alloc H_box H_bslice H_store H_mkslice H_append H_appendZ H_copy H_clear free_mv free_pick free_bin free_un free_convI free_mkfunc free_extract free_min free_max free_lenS free_lenA free_field free_idxA free_mkiface free_tassert free_build free_load free_nilck free_isnil free_convS free_slice free_faddr free_iaddr free_iaddrA free_len callW_y List.length_map List.length_set leaves_r evR_some evRess1 evRess2 evRess3 evRes_t evRes_c nz_kind nz_enc nz_cred nz_source nz_parent nz_ienc nz_hash nz_un true_or or_true bsl_node idbs_node idbs_int appN appI appO ixo_nodes canon_row canon_rowI canon_rowO not_false_eq_true not_true_eq_false ldE_a ldE_c adE_b stE_b onE_a onP_b bsl_zero idbs_zero appN_zero
attribute [local go_sem low] condW_b grdW_b lgrdW_b ldP adP stP onO onPt
attribute [local simp] envL_cons envL_nil idb_int idb_bool idb_str idb_ints idb_nil idb_own idb_ptr entB_ints' idb_octs entB_octs idb_intss entB_intss idb_octss entB_octss idb_nodes entB_nodes idb_leafA idb_innerA idb_nodeA idb_agg idb_tup idb_iptr idb_fn idb_undef entB_dead entB_box

/-- slices.Clone of nodes. -/
theorem cloneN_spec (l : List Node) (hl : l.length ≤ 4294967295) : FunOwn seat 129 [nodes l] 8 (l.map nodeA) := by
  refine FunOwn.of0W told129 (by simp [il129]) (by simp ) (encNode.xs_idb l) (wpc_sound ?_)
  simp only [il129, List.zipIdx_cons, List.zipIdx_nil, Nat.zero_add, go_sem, Nat.reduceEqDiff, reduceIte, Nat.reduceAdd, Nat.reduceLeDiff, Nat.reduceLT, Nat.reduceSub, nodes]
  have app : ∀ r : List Node, r.length ≤ 4294967295 → ∃ v, evAppend [Entry.arr 8 0 (([] : List Node).map nodeA)] 8 160 (.own 0 0 0 ([] : List Node).length) (r.map nodeA) = some (.own 0 v 0 r.length, [.arr 8 v (r.map nodeA)]) := by
    intro r hr
    obtain ⟨v, hv⟩ := encNode.app_any (H := [Entry.arr 8 0 (([] : List Node).map nodeA)]) (id := 0) (ver := 0) (l := []) (ys := r) (bytes := 160) rfl (by unfold maxRow; simp; omega) (by decide)
    exact ⟨v, by simpa [encNode] using hv⟩
  have hb : evBslice ([] : List Entry) 8 0 zeroA [] = some (.own 0 0 0 0, [.arr 8 0 []]) := rfl
  unfold zeroA at hb
  cases l with
  | nil =>
    obtain ⟨v, hv⟩ := app [] (by simp)
    simp only [List.map_nil, List.length_nil] at hv
    simp only [List.map_nil, go_sem, Nat.reduceEqDiff, reduceIte, Nat.reduceAdd, Nat.reduceLeDiff, Nat.reduceLT, Nat.reduceSub, hv, hb]
    exact .inl ⟨0, v, rfl, rfl⟩
  | cons x r =>
    obtain ⟨v, hv⟩ := app (x :: r) hl
    simp only [List.map_nil, List.length_nil, List.map_cons, List.length_cons] at hv
    simp only [List.map_cons, go_sem, Nat.reduceEqDiff, reduceIte, Nat.reduceAdd, Nat.reduceLeDiff, Nat.reduceLT, Nat.reduceSub, hv, hb]
    exact .inl ⟨0, v, by simp, rfl⟩
noncomputable def r129 : Reg seat := .of told129 (ask1 (fun a0' => isNs a0' ∧ (dNs a0').length ≤ 4294967295) fun a0' => .own 8 ((dNs a0').map nodeA)) (ask1_ok fun a0' h => SaidOk.own (FunOwn.weak (.cons (isNs.weak h.1) .nil) (cloneN_spec _ h.2)) (by first | exact encU8.xs_idb _ | exact encI64.xs_idb _ | exact encNode.xs_idb _))
theorem r129_c : r129.c = 129 := rfl
open Classical in
theorem r129_ask (a0' : AV) : r129.ask [a0'] = if isNs a0' ∧ (dNs a0').length ≤ 4294967295 then some (Said.own 8 ((dNs a0').map nodeA)) else none := by unfold r129 Reg.of ask1; exact ite_cl

theorem zeroA_norm (H : List Entry) (k : Nat) : derefN H (k + 2) zeroA = nodeA .zero := by
  simp only [zeroA, derefN, List.map_cons, List.map_nil]
  rfl
theorem appZ (l : List Node) (n : Nat) (hn : 0 < n) (h : l.length + n ≤ 4294967296) : evAppend [] 8 160 (.list true (l.map nodeA)) (List.replicate n zeroA) = some (.own 0 0 0 (l.length + n), [.arr 8 0 (l.map nodeA ++ List.replicate n zeroA)]) := by
  have h1 : List.replicate n zeroA ≠ [] := by simp; omega
  have h2 : szOk [] 8 (List.replicate n zeroA) = true := by
    simp only [szOk, List.all_eq_true]
    intro x hx; rw [(List.mem_replicate.1 hx).2]; rfl
  have h3 : szOk [] 8 (l.map nodeA) = true := encNode.szOk [] l
  simp only [evAppend, h1, h2, h3, List.length_map, List.length_replicate, maxRow, h, if_false, and_self, if_true, show 160 ≤ 4096 by decide, show 0 < 8 by decide, List.length_nil, List.nil_append]
theorem canonZ (l : List Node) (n : Nat) : canon [.arr 8 0 (l.map nodeA ++ List.replicate n zeroA)] 3 (.own 0 0 0 (l.length + n)) = nodes (l ++ List.replicate n .zero) := by
  have h : ∀ x : Node, derefN (freezeP all [.arr 8 0 (l.map nodeA ++ List.replicate n zeroA)]) 2 (nodeA x) = nodeA x := fun x => encNode.norm _ _ x
  have h2 : derefN (freezeP all [.arr 8 0 (l.map nodeA ++ List.replicate n zeroA)]) 2 zeroA = nodeA .zero := zeroA_norm _ 0
  rw [canon, derefN]
  simp only [freezeP_all_cons, freezeP_all_nil, frzE_arr, List.getElem?_cons_zero] at h h2 ⊢
  simp only [List.length_append, List.length_map, List.length_replicate, Nat.le_refl, and_self, if_true, List.drop_zero]
  rw [List.take_of_length_le (by simp), List.map_append, List.map_map, List.map_replicate, h2, nodes, List.map_append, List.map_replicate]
  congr 2
  exact List.map_congr_left fun x _ => h x

theorem grow_spec (t : List Node) (ht : Tree.Ok t) : Fun seat 107 [nodes t] (.tup [nodes (growT t).1, .int .i64 (growT t).2]) := by
  have hl := known_len t
  unfold growT
  have sl := encNode.sliceTT [] (known t) (known t).length (by omega) (by simp)
  have e1 : ((known t).length : Int).toNat = (known t).length := Int.toNat_natCast _
  simp only [e1, List.take_length] at sl
  have sl : evSlice [] 8 (nodes (known t)) none (some (.int .i64 ((known t).length : Int))) (some (.int .i64 ((known t).length : Int))) = some (.list true ((known t).map nodeA)) := sl
  have ap := appZ (known t) ((known t).length + 1) (by omega) (by omega)
  unfold zeroA at ap
  have e2 : (((known t).length : Int) + 1).toNat = (known t).length + 1 := by omega
  have e3 : (0 ≤ ((known t).length : Int) + 1 ∧ ((known t).length : Int) + 1 ≤ (maxRow : Nat)) = True := eq_true ⟨by omega, by unfold maxRow; omega⟩
  refine Fun.of0R [r126] told107 (by simp [il107]) (by simp [idb_patchA]) (by simp [idb_patchA]) 4 ?_
  simp only [il107, List.zipIdx_cons, List.zipIdx_nil, leafA, innerA, nodeA, patchA, Leaf.cells, Inner.cells, Node.cells, r126_c, r126_ask, ht, wrap64s ((known t).length + 1) (by omega), sl, ap, e2, e3, go_sem, Nat.reduceEqDiff, reduceIte, Nat.reduceAdd, Nat.reduceLeDiff, Nat.reduceLT, Nat.reduceSub]
  have cz := canonZ (known t) ((known t).length + 1)
  unfold zeroA at cz
  rw [cz]
  simp only [nodes_inj]
  iterate 12 ((all_goals intros); (all_goals try refine And.intro ?_ ?_))
  all_goals first | (show WP _ _ _ _ _ _ _) | grind
noncomputable def r107 : Reg seat := .of told107 (ask1 (fun a0' => isNs a0' ∧ Tree.Ok (dNs a0')) fun a0' => .fn (.tup [nodes (growT (dNs a0')).1, .int .i64 (growT (dNs a0')).2])) (ask1_ok fun a0' h => SaidOk.fn (Fun.weak (.cons (isNs.weak h.1) .nil) (grow_spec _ h.2)))
theorem r107_c : r107.c = 107 := rfl
open Classical in
theorem r107_ask (a0' : AV) : r107.ask [a0'] = if isNs a0' ∧ Tree.Ok (dNs a0') then some (Said.fn (.tup [nodes (growT (dNs a0')).1, .int .i64 (growT (dNs a0')).2])) else none := by unfold r107 Reg.of ask1; exact ite_cl

theorem trimLeaf_spec (n : Node) : Fun seat 131 [nodeA n] (.bool (decide (n.kind = 1))) := by
  refine Fun.of0R [] told131 (by simp [il131]) (by simp [idb_patchA]) (by simp [idb_patchA]) 4 ?_
  simp only [il131, List.zipIdx_cons, List.zipIdx_nil, leafA, innerA, nodeA, patchA, Leaf.cells, Inner.cells, Node.cells, go_sem, Nat.reduceEqDiff, reduceIte, Nat.reduceAdd, Nat.reduceLeDiff, Nat.reduceLT, Nat.reduceSub]

theorem any131_spec (t : List Node) : Fun seat 132 [nodes t, .func (.f 131) [] []] (.bool (t.any fun n => decide (n.kind = 1))) :=
  any132_spec t (fun n => decide (n.kind = 1)) 131 il131 told131 [] (by simp) fun x _ => by simpa using trimLeaf_spec x
noncomputable def r132 : Reg seat := .of told132 (ask2 (fun a0' a1' => isNs a0' ∧ a1' = .func (.f 131) [] []) fun a0' a1' => .fn (.bool ((dNs a0').any fun n => decide (n.kind = 1)))) (ask2_ok fun a0' a1' h => SaidOk.fn (Fun.weak (.cons (isNs.weak h.1) (.cons (Weak.of_eq h.2) .nil)) (any131_spec _)))
theorem r132_c : r132.c = 132 := rfl
open Classical in
theorem r132_ask (a0' a1' : AV) : r132.ask [a0', a1'] = if isNs a0' ∧ a1' = .func (.f 131) [] [] then some (Said.fn (.bool ((dNs a0').any fun n => decide (n.kind = 1)))) else none := by unfold r132 Reg.of ask2; exact ite_cl
theorem leafless_any (a : List Node) (k : Nat) : (a.drop k).any (fun n => decide (n.kind = 1)) = decide (¬ Leafless a k) := by
  rw [Bool.eq_iff_iff, List.any_eq_true, decide_eq_true_eq]
  constructor
  · rintro ⟨x, hx, h⟩ hl
    obtain ⟨j, hj, rfl⟩ := List.getElem_of_mem hx
    rw [List.length_drop] at hj
    rw [List.getElem_drop] at h
    exact hl (k + j) (by omega) (by omega) (by simpa using h)
  · intro h
    simp only [Leafless, Classical.not_forall, ne_eq, Classical.not_not] at h
    obtain ⟨x, hx, hk, h1⟩ := h
    refine ⟨a[x], ?_, by simpa using h1⟩
    have : a[x] = (a.drop k)[x - k]'(by rw [List.length_drop]; omega) := by rw [List.getElem_drop]; congr 1; omega
    rw [this]; exact List.getElem_mem _

theorem trimL_ok : ∀ {a : List Node}, Tree.Ok a → Tree.Ok (trimL a) := by
  intro a
  induction h : a.length using Nat.strongRecOn generalizing a with
  | _ n ih =>
    intro ha
    by_cases hc : 1 < a.length ∧ Leafless a (a.length / 2)
    · rw [trimL_step hc.1 hc.2]
      exact ih _ (by rw [List.length_take]; omega) rfl (take_ok ha _)
    · rw [trimL_end hc]; exact ha
theorem trimL_len : ∀ {a : List Node}, (trimL a).length ≤ a.length := by
  intro a
  induction h : a.length using Nat.strongRecOn generalizing a with
  | _ n ih =>
    by_cases hc : 1 < a.length ∧ Leafless a (a.length / 2)
    · rw [trimL_step hc.1 hc.2]
      have := ih _ (by rw [List.length_take]; omega) (a := a.take (a.length / 2)) rfl
      rw [List.length_take] at this
      omega
    · rw [trimL_end hc]; omega

theorem trim_spec (t : List Node) (ht : Tree.Ok t) : Fun seat 108 [nodes t] (nodes (trimT t)) := by
  have hl := known_len t
  have hk0 := known_ok ht
  unfold trimT
  refine Fun.of0R [r126, r127] told108 (by simp [il108]) (by simp [idb_patchA]) (by simp [idb_patchA]) 4 ?_
  simp only [il108, List.zipIdx_cons, List.zipIdx_nil, leafA, innerA, nodeA, patchA, Leaf.cells, Inner.cells, Node.cells, r126_c, r126_ask, r127_c, r127_ask, ht, quo2 (known t).length (by omega), go_sem, Nat.reduceEqDiff, reduceIte, Nat.reduceAdd, Nat.reduceLeDiff, Nat.reduceLT, Nat.reduceSub]
  generalize known t = a0 at *
  refine WP.loopJW (fun a : List Node => [(3, .func (.f 131) [] []), (4, .int .i64 ((a.length / 2 : Nat) : Int)), (0, nodes a)]) (fun a H => a.length ≤ 127 ∧ Tree.Ok a ∧ trimL a0 = trimL a) (fun a => a.length) a0 (by simp [weak_refl]) ⟨hl, hk0, rfl⟩ ?_
  rintro a H ⟨hal, hao, hat⟩
  have e1 : (((a.length / 2 : Nat) : Int)).toNat = a.length / 2 := Int.toNat_natCast _
  have sF : ∀ H, evSlice H 8 (nodes a) (some (.int .i64 ((a.length / 2 : Nat) : Int))) none none = some (nodes (a.drop (a.length / 2))) := fun H => by
    have := encNode.sliceF H a ((a.length / 2 : Nat) : Int) (by omega) (by omega)
    rwa [e1] at this
  have sT : ∀ H, evSlice H 8 (nodes a) none (some (.int .i64 ((a.length / 2 : Nat) : Int))) (some (.int .i64 ((a.length / 2 : Nat) : Int))) = some (.list true ((a.take (a.length / 2)).map nodeA)) := fun H => by
    have := encNode.sliceTT H a ((a.length / 2 : Nat) : Int) (by omega) (by omega)
    rwa [e1] at this
  refine wpc_soundR [r132] ?_
  have el : (a.take (a.length / 2)).length = a.length / 2 := by rw [List.length_take]; omega
  have eq2 : IntKind.i64.wrap (((a.length / 2 : Nat) : Int).tdiv 2) = (((a.take (a.length / 2)).length / 2 : Nat) : Int) := by rw [quo2 _ (by omega), el]; omega
  have en : ¬ (0 < a.length / 2 ∧ Leafless a (a.length / 2)) → trimL a0 = a := fun h => by rw [hat, trimL_end]; rintro ⟨h1, h2⟩; exact h ⟨by omega, h2⟩
  by_cases h1 : a.length = 1
  · have e0 : ∀ H, evIndex H 8 (nodes a) (.int .i64 0) = _ := fun H => ix_nodes H a 0 (by omega)
    have ea : trimL a0 = a := en (by omega)
    have en : nodeAt a 0 = a[0] := nodeAt_lt (by omega)
    have hd : ((a.length / 2 : Nat) : Int) = 0 := by omega
    simp only [leafA, innerA, nodeA, patchA, Leaf.cells, Inner.cells, Node.cells, r132_c, r132_ask, r127_c, r127_ask, sF, sT, drop_ok hao, leafless_any, e0, ea, h1, hd, en, go_sem, Nat.reduceEqDiff, reduceIte, Nat.reduceAdd, Nat.reduceLeDiff, Nat.reduceLT, Nat.reduceSub]
    simp (config := { decide := true }) only [h1]
    iterate 12 ((all_goals intros); (all_goals try refine And.intro ?_ ?_))
    all_goals first | (show WP _ _ _ _ _ _ _) | grind

  · simp only [leafA, innerA, nodeA, patchA, Leaf.cells, Inner.cells, Node.cells, r132_c, r132_ask, r127_c, r127_ask, sF, sT, drop_ok hao, leafless_any, h1, go_sem, Nat.reduceEqDiff, reduceIte, Nat.reduceAdd, Nat.reduceLeDiff, Nat.reduceLT, Nat.reduceSub]
    iterate 12 ((all_goals intros); (all_goals try refine And.intro ?_ ?_))
    all_goals first
      | exact ⟨a.take (a.length / 2), ⟨by omega, take_ok hao _, by rw [hat, trimL_step (by omega) (Classical.not_not.1 (by assumption))]⟩, by omega,
          by simp only [List.mem_cons, List.not_mem_nil, or_false, forall_eq_or_imp, forall_eq, weak_refl, weak_nodes, eq2, and_self, go_sem, Nat.reduceEqDiff, reduceIte, Nat.reduceAdd, Nat.reduceLeDiff, Nat.reduceLT, Nat.reduceSub]⟩
      | grind
noncomputable def r108 : Reg seat := .of told108 (ask1 (fun a0' => isNs a0' ∧ Tree.Ok (dNs a0')) fun a0' => .fn (nodes (trimT (dNs a0')))) (ask1_ok fun a0' h => SaidOk.fn (Fun.weak (.cons (isNs.weak h.1) .nil) (trim_spec _ h.2)))
theorem r108_c : r108.c = 108 := rfl
open Classical in
theorem r108_ask (a0' : AV) : r108.ask [a0'] = if isNs a0' ∧ Tree.Ok (dNs a0') then some (Said.fn (nodes (trimT (dNs a0')))) else none := by unfold r108 Reg.of ask1; exact ite_cl
end Go.Proofs.YtihhinbjhiankaaGreatDoor.Al
