/-
  SPECS: package resolve.
-/
import Derived.Test.YtlehcigcaihoaaaDoorAlJ0
import Derived.Test.YtlehcigcaihoaaaDoorAlJ1
import Derived.Test.YtlehcigcaihoaaaDoorAlI4
set_option linter.unusedSimpArgs false
set_option linter.unusedVariables false
namespace Go.Proofs.YtlehcigcaihoaaaDoor.Al
open Go
attribute [local go_sem] W_mv W_pick W_alloc W_box W_build W_bslice W_load W_store W_nilck W_bin W_isnil W_un W_convI W_convS W_mkiface W_mkfunc W_mkslice W_slice W_faddr W_field W_iaddr W_iaddrA W_idxA W_extract W_len W_lenS W_lenA W_min W_max W_append W_appendZ W_copy W_clear W_tassert W_invoke thenQ_normal thenQ_exit thenQ_goto thenQ_ret blockQ_normal blockQ_ret blockQ_goto blockQ_exit wpc_skip wpc_region wpc_draw wpc_seq wpc_cond wpc_block wpc_exit wpc_goto wpc_label wpc_ret wpc_loop wpc_range wpc_scope condW_true condW_false condW_dec condW_any W_nil W_call resW_some evalOp Opd.ev updo_envL updo_none setL_cons setL_nil envL_cons Option.map_some Option.bind_some evBin evInt List.map_cons List.map_nil Option.pure_def Option.bind_eq_bind W_grd' grdW_tt grdW_ff grdW_tf grdW_ft grdW_tup grdW_dt grdW_df lgrdW_tt lgrdW_ff lgrdW_tf lgrdW_ft lgrdW_tup lgrdW_dt lgrdW_df L_mv L_pick L_alloc L_box L_build L_bslice L_load L_store L_nilck L_bin L_isnil L_un L_convI L_convS L_mkiface L_mkfunc L_mkslice L_slice L_faddr L_field L_iaddr L_iaddrA L_idxA L_extract L_len L_lenS L_lenA L_min L_max L_append L_appendZ L_copy L_clear L_tassert L_nil L_call L_grd lresW_some upd_envL evUn beq_dec bne_dec leaves_ret1 leaves_end1 leaves_ret0 leaves_end0 leaves_ret2 leaves_ret3 rowLen_ints load_iptr0 not_dec heap_get0 heap_get1 heap_set0 heap_set1 heap_len1 heap_len2 heap_app heap_app2 bslice1_int seen_ints seen_one0 seen_one1 seen_one2 rowLen_own0 bslice0_int rowLen_own1 Nat.sub_zero Bool.not_true Bool.not_false List.length_nil List.length_cons List.nil_append List.cons_append Nat.zero_add load_iptrA canon_ptrI canon_bool canon_tup canon_agg canon_leafA canon_innerA canon_nodeA canon_ints' rowLen_ints0 seen_ints0 canon_ints0 rowLen_ints1 seen_ints1 canon_ints1 rowLen_ints2 seen_ints2 canon_ints2 rowLen_ints3 seen_ints3 canon_ints3 rowLen_octs seen_octs canon_octs' szOk_octs rowLen_octs0 seen_octs0 canon_octs0 rowLen_octs1 seen_octs1 canon_octs1 rowLen_octs2 seen_octs2 canon_octs2 rowLen_octs3 seen_octs3 canon_octs3 rowLen_intss seen_intss canon_intss' szOk_intss rowLen_intss0 seen_intss0 canon_intss0 rowLen_intss1 seen_intss1 canon_intss1 rowLen_intss2 seen_intss2 canon_intss2 rowLen_intss3 seen_intss3 canon_intss3 rowLen_octss seen_octss canon_octss' szOk_octss rowLen_octss0 seen_octss0 canon_octss0 rowLen_octss1 seen_octss1 canon_octss1 rowLen_octss2 seen_octss2 canon_octss2 rowLen_octss3 seen_octss3 canon_octss3 rowLen_nodes seen_nodes canon_nodes' szOk_nodes rowLen_nodes0 seen_nodes0 canon_nodes0 rowLen_nodes1 seen_nodes1 canon_nodes1 rowLen_nodes2 seen_nodes2 canon_nodes2 rowLen_nodes3 seen_nodes3 canon_nodes3 seen_list cells_int oneIn_int cells_bool oneIn_bool cells_str oneIn_str cells_list oneIn_list cells_func oneIn_func cells_nilfunc oneIn_nilfunc cells_iptr oneIn_iptr cells_iface oneIn_iface cells_nilIface oneIn_nilIface cells_own cells_ptr cells_anybool oneIn_anybool cells_agg oneIn_own0 oneIn_ptr0 seenL0 seenM0 oneIn_own1 oneIn_ptr1 seenL1 seenM1 oneIn_own2 oneIn_ptr2 seenL2 seenM2 oneIn_own3 oneIn_ptr3 seenL3 seenM3 oneIn_own4 oneIn_ptr4 seenL4 seenM4 oneIn_own5 oneIn_ptr5 seenL5 seenM5 cells_ints oneIn_ints cells_octs oneIn_octs cells_intss oneIn_intss cells_octss oneIn_octss cells_nodes oneIn_nodes ldB0 ldA0 adB0 stB0 ldB1 ldA1 adB1 stB1 ldB2 ldA2 adB2 stB2 ldB3 ldA3 adB3 stB3 ldB4 ldA4 adB4 stB4 ldB5 ldA5 adB5 stB5 List.getElem?_cons_zero List.getElem?_cons_succ beq_self_eq_true splice List.take_zero List.take_succ_cons List.drop_zero List.drop_succ_cons List.append_nil List.set_cons_zero List.set_cons_succ List.all_cons List.all_nil Bool.and_self and_self and_true true_and Nat.lt_irrefl Nat.zero_lt_one Nat.le_refl fillA evNil notA Bool.false_eq_true evMin_int evMax_int Option.map_none freezeP_all_nil freezeP_all_cons frzE_box frzE_arr frzE_dead foldA List.foldlM_cons List.foldlM_nil callW_f lcallW_f ansW_fn ansW_own lansW_fn lansW_own ansW_none lansW_none tab_cons tab_nil dI_int dB_bool dO_octs dO_ints dO_list dO_nil dOs_octss dOs_intss dOs_nil dLf_leafA dIn_innerA dN_nodeA dLf_agg dIn_agg dN_agg dNs_nodes dNs_list dNs_nil isI_int isU_int isB_bool isO_octs isO_nil isO_list isS_ints isS_nil isS_list isOs_octss isSs_intss isOs_nil isSs_nil isNs_nodes isNs_list isNs_nil isLf_leafA isIn_innerA isN_nodeA isLf_agg isIn_agg isN_agg leaf_eta inner_eta node_eta leaf_zero inner_zero node_zero dP_patchA dP_agg isP_patchA isP_agg patch_eta decide_eq_true_eq decide_eq_false_iff_not eq_self forall_const true_implies false_implies Bool.not_eq_true' Bool.not_eq_false' Bool.true_eq_false implies_true ne_eq ldI ldIA adI AV.tup.injEq AV.agg.injEq List.cons.injEq AV.int.injEq AV.bool.injEq nodes_inj octs_inj ints_inj nil_nodes nil_octs nil_ints canon_nilL decide_eq_decide two_ne four_ne b256_ne lendA_fn lendA_own lendA_none llendA_fn llendA_none plain_bool plain_int plain_tup2 isNs_own isO_own isS_own isOs_own false_and and_false Q_nil Q_l Q_g Q_h Q_grd qgrdW_b qgrdW_tup lightD_some heavyD_some readD_some fnD_some fnD_own fnD_none callL_f ownH_some callH_f litD_some litE_some Q_call Q_bslice H_call pendOk_nil pendOk_cons pastOk_nil pastOk_cons Q_mv Q_pick Q_bin Q_un Q_convI Q_mkfunc Q_extract Q_min Q_max Q_lenS Q_lenA Q_field Q_idxA Q_mkiface Q_tassert Q_alloc Q_box Q_store Q_mkslice Q_append Q_appendZ Q_copy Q_clear Q_build Q_load Q_nilck Q_isnil Q_convS Q_slice Q_faddr Q_iaddr Q_iaddrA Q_len H_alloc H_box H_bslice H_store H_mkslice H_append H_appendZ H_copy H_clear free_mv free_pick free_bin free_un free_convI free_mkfunc free_extract free_min free_max free_lenS free_lenA free_field free_idxA free_mkiface free_tassert free_build free_load free_nilck free_isnil free_convS free_slice free_faddr free_iaddr free_iaddrA free_len callW_y List.length_map List.length_set leaves_r evR_some evRess1 evRess2 evRess3 evRes_t evRes_c nz_kind nz_enc nz_cred nz_source nz_parent nz_ienc nz_hash nz_un true_or or_true bsl_node idbs_node idbs_int appN appI appO ixo_nodes canon_row canon_rowI canon_rowO not_false_eq_true not_true_eq_false ldE_a ldE_c adE_b stE_b onE_a onP_b bsl_zero idbs_zero appN_zero
attribute [local go_sem low] condW_b grdW_b lgrdW_b ldP adP stP onO onPt
attribute [local simp] envL_cons envL_nil idb_int idb_bool idb_str idb_ints idb_nil idb_own idb_ptr entB_ints' idb_octs entB_octs idb_intss entB_intss idb_octss entB_octss idb_nodes entB_nodes idb_leafA idb_innerA idb_nodeA idb_agg idb_tup idb_iptr idb_fn idb_undef entB_dead entB_box

theorem resF_len {t : List Node} (hs : Sane t) : ∀ (f : Nat) (x : Int), (resF f t x).length ≤ 65 * 2 ^ f := by
  intro f
  induction f with
  | zero => intro x; simp [resF]
  | succ f ih =>
    intro x
    unfold resF
    split
    · simp
    · split
      · have hx : x.toNat < t.length := by omega
        rw [nodeAt_lt hx]
        have := (unmerged_in (hs.1 _ hx).2).1
        have h2 : 1 ≤ 2 ^ (f + 1) := Nat.one_le_two_pow
        simp only [List.length_cons, List.length_map]; omega
      · have a := ih (leftI x t.length)
        have b := ih (rightI x t.length)
        rw [List.length_append, Nat.pow_succ]; omega
theorem resI_len {t : List Node} (hs : Sane t) (x : Int) : (resI t x).length ≤ 8320 := resF_len hs 7 x
theorem rknown_spec (t : List Node) (ht : Tree.Ok t) : Fun seat 269 [nodes t] (nodes (known t)) := by
  unfold known
  by_cases h : Sane t
  · rw [if_pos h]
    refine Fun.of0R [r101] told269 (by simp [il269]) (by simp [idb_patchA]) (by simp [idb_patchA]) 4 ?_
    simp -implicitDefEqProofs only [il269, List.zipIdx_cons, List.zipIdx_nil, leafA, innerA, nodeA, patchA, Leaf.cells, Inner.cells, Node.cells, r101_c, r101_ask, decide_true, decide_false, ht, h, go_sem, Nat.reduceEqDiff, reduceIte, Nat.reduceAdd, Nat.reduceLeDiff, Nat.reduceLT, Nat.reduceSub]
  · rw [if_neg h]
    refine Fun.of0R [r101] told269 (by simp [il269]) (by simp [idb_patchA]) (by simp [idb_patchA]) 4 ?_
    simp -implicitDefEqProofs only [il269, List.zipIdx_cons, List.zipIdx_nil, leafA, innerA, nodeA, patchA, Leaf.cells, Inner.cells, Node.cells, r101_c, r101_ask, decide_true, decide_false, ht, h, go_sem, Nat.reduceEqDiff, reduceIte, Nat.reduceAdd, Nat.reduceLeDiff, Nat.reduceLT, Nat.reduceSub]
    try rfl
noncomputable def r269 : Reg seat := .of told269 (ask1 (fun a0' => isNs a0' ∧ Tree.Ok (dNs a0')) fun a0' => .fn (nodes (known (dNs a0')))) (ask1_ok fun a0' h => SaidOk.fn (Fun.weak (.cons (isNs.weak h.1) .nil) (rknown_spec _ h.2)))
theorem r269_c : r269.c = 269 := rfl
open Classical in
theorem r269_ask (a0' : AV) : r269.ask [a0'] = if isNs a0' ∧ Tree.Ok (dNs a0') then some (Said.fn (nodes (known (dNs a0')))) else none := by unfold r269 Reg.of ask1; exact ite_cl
theorem resolve_spec (t : List Node) (x : Int) (ht : Tree.Ok t) : Fun seat 258 [nodes t, .int .i64 x] (ints (resI (known t) x)) := by
  have hs := known_sane t
  have hl := resI_len hs x
  refine Fun.of0R [r269, r268] told258 (by simp [il258]) (by simp [idb_patchA]) (by simp [idb_patchA]) 4 ?_
  simp -implicitDefEqProofs only [il258, List.zipIdx_cons, List.zipIdx_nil, leafA, innerA, nodeA, patchA, Leaf.cells, Inner.cells, Node.cells, r269_c, r269_ask, r268_c, r268_ask, decide_true, decide_false, ht, go_sem, Nat.reduceEqDiff, reduceIte, Nat.reduceAdd, Nat.reduceLeDiff, Nat.reduceLT, Nat.reduceSub]
  refine Callee.own told40 (collectB_spec (resI (known t) x) (by omega) 278 il278 told278 _ (by simp ) (below_all _ hs x)) ?_
  simp -implicitDefEqProofs only [leafA, innerA, nodeA, patchA, Leaf.cells, Inner.cells, Node.cells, r269_c, r269_ask, r268_c, r268_ask, decide_true, decide_false, List.length_map, go_sem, Nat.reduceEqDiff, reduceIte, Nat.reduceAdd, Nat.reduceLeDiff, Nat.reduceLT, Nat.reduceSub]
noncomputable def r258 : Reg seat := .of told258 (ask2 (fun a0' a1' => isNs a0' ∧ isI a1' ∧ Tree.Ok (dNs a0')) fun a0' a1' => .fn (ints (resI (known (dNs a0')) (dI a1')))) (ask2_ok fun a0' a1' h => SaidOk.fn (Fun.weak (.cons (isNs.weak h.1) (.cons (isI.weak h.2.1) .nil)) (resolve_spec _ _ h.2.2)))
theorem r258_c : r258.c = 258 := rfl
open Classical in
theorem r258_ask (a0' a1' : AV) : r258.ask [a0', a1'] = if isNs a0' ∧ isI a1' ∧ Tree.Ok (dNs a0') then some (Said.fn (ints (resI (known (dNs a0')) (dI a1')))) else none := by unfold r258 Reg.of ask2; exact ite_cl
set_option maxHeartbeats 1000000 in
theorem some_spec (t : List Node) (x : Int) (ht : Tree.Ok t) (hs : Sane t) : Fun seat 275 [nodes t, .int .i64 x] (.bool (decide (resI t x ≠ []))) := by
  refine Fun.of0R [r268] told275 (by simp [il275]) (by simp [idb_patchA]) (by simp [idb_patchA]) 4 ?_
  simp -implicitDefEqProofs only [il275, List.zipIdx_cons, List.zipIdx_nil, leafA, innerA, nodeA, patchA, Leaf.cells, Inner.cells, Node.cells, r268_c, r268_ask, decide_true, decide_false, go_sem, Nat.reduceEqDiff, reduceIte, Nat.reduceAdd, Nat.reduceLeDiff, Nat.reduceLT, Nat.reduceSub]
  refine WP.rangeB (c := 278) (cap := [.iptr [.int .i64 x] 0, .iptr [nodes t] 0]) (cellsI (resI t x)) (by simp only [go_sem, Nat.reduceEqDiff, reduceIte, Nat.reduceAdd, Nat.reduceLeDiff, Nat.reduceLT, Nat.reduceSub]) (Callable.of told278) (below_all t hs x) (fun y hy => by obtain ⟨z, _, rfl⟩ := List.mem_map.1 hy; rfl)
    (fun _ => [.box [.bool false]]) (fun k => k = 0) (fun _ => rfl) rfl rfl ?_ ?_
  · rintro k hk rfl l T b hb
    have hne : ¬ resI t x = [] := fun h => by rw [h] at hk; simp [cellsI] at hk
    have hk' : 0 < (resI t x).length := by rwa [cellsI_len] at hk
    rw [cellsI_at hk']
    simp only [setPs]
    refine wpc_soundR [] ?_
    simp -implicitDefEqProofs only [leafA, innerA, nodeA, patchA, Leaf.cells, Inner.cells, Node.cells, decide_true, decide_false, List.cons_append, List.nil_append, go_sem, Nat.reduceEqDiff, reduceIte, Nat.reduceAdd, Nat.reduceLeDiff, Nat.reduceLT, Nat.reduceSub]
    refine ⟨[], by simp, fun T' hT' => wpc_soundR [] ?_⟩
    simp -implicitDefEqProofs only [leafA, innerA, nodeA, patchA, Leaf.cells, Inner.cells, Node.cells, decide_true, decide_false, List.append_nil, go_sem, Nat.reduceEqDiff, reduceIte, Nat.reduceAdd, Nat.reduceLeDiff, Nat.reduceLT, Nat.reduceSub]
    refine ⟨[.box [.bool true]], T', rfl, rfl, fun _ _ => rfl, .ret, rfl, fun T3 => ?_⟩
    simp -implicitDefEqProofs only [leafA, innerA, nodeA, patchA, Leaf.cells, Inner.cells, Node.cells, decide_true, decide_false, Jump.leave, List.cons_append, List.nil_append, hne, go_sem, Nat.reduceEqDiff, reduceIte, Nat.reduceAdd, Nat.reduceLeDiff, Nat.reduceLT, Nat.reduceSub]
    try simp
  · intro hP T
    have he : resI t x = [] := List.eq_nil_of_length_eq_zero (by rw [← cellsI_len]; exact hP)
    simp -implicitDefEqProofs only [leafA, innerA, nodeA, patchA, Leaf.cells, Inner.cells, Node.cells, decide_true, decide_false, he, List.cons_append, List.nil_append, go_sem, Nat.reduceEqDiff, reduceIte, Nat.reduceAdd, Nat.reduceLeDiff, Nat.reduceLT, Nat.reduceSub]
noncomputable def r275 : Reg seat := .of told275 (ask2 (fun a0' a1' => isNs a0' ∧ isI a1' ∧ Tree.Ok (dNs a0') ∧ Sane (dNs a0')) fun a0' a1' => .fn (.bool (decide (resI (dNs a0') (dI a1') ≠ [])))) (ask2_ok fun a0' a1' h => SaidOk.fn (Fun.weak (.cons (isNs.weak h.1) (.cons (isI.weak h.2.1) .nil)) (some_spec _ _ h.2.2.1 h.2.2.2)))
theorem r275_c : r275.c = 275 := rfl
open Classical in
theorem r275_ask (a0' a1' : AV) : r275.ask [a0', a1'] = if isNs a0' ∧ isI a1' ∧ Tree.Ok (dNs a0') ∧ Sane (dNs a0') then some (Said.fn (.bool (decide (resI (dNs a0') (dI a1') ≠ [])))) else none := by unfold r275 Reg.of ask2; exact ite_cl
theorem empty_spec (t : List Node) (x : Int) (ht : Tree.Ok t) (hs : Sane t) : Fun seat 274 [.int .i64 x, .iptr [nodes t] 0] (.bool (decide (resI t x = []))) := by
  by_cases h : resI t x = []
  · refine Fun.of0R [r275] told274 (by simp [il274]) (by simp [idb_patchA]) (by simp [idb_patchA]) 4 ?_
    simp -implicitDefEqProofs only [il274, List.zipIdx_cons, List.zipIdx_nil, leafA, innerA, nodeA, patchA, Leaf.cells, Inner.cells, Node.cells, r275_c, r275_ask, decide_true, decide_false, ht, hs, h, go_sem, Nat.reduceEqDiff, reduceIte, Nat.reduceAdd, Nat.reduceLeDiff, Nat.reduceLT, Nat.reduceSub]
  · refine Fun.of0R [r275] told274 (by simp [il274]) (by simp [idb_patchA]) (by simp [idb_patchA]) 4 ?_
    simp -implicitDefEqProofs only [il274, List.zipIdx_cons, List.zipIdx_nil, leafA, innerA, nodeA, patchA, Leaf.cells, Inner.cells, Node.cells, r275_c, r275_ask, decide_true, decide_false, ht, hs, h, go_sem, Nat.reduceEqDiff, reduceIte, Nat.reduceAdd, Nat.reduceLeDiff, Nat.reduceLT, Nat.reduceSub]

/-- What stands beside the way up, so far. -/
def coK (L : List Int) (w : Int) : List Int := (L.map fun y => sibI y w).filter fun s => decide (0 ≤ s)
theorem coK_snoc (L : List Int) (w : Int) {k : Nat} (hk : k < L.length) : coK (L.take (k + 1)) w = if 0 ≤ sibI L[k] w then coK (L.take k) w ++ [sibI L[k] w] else coK (L.take k) w := by
  unfold coK
  rw [List.take_succ_eq_append_getElem hk, List.map_append, List.filter_append]
  by_cases h : 0 ≤ sibI L[k] w
  · rw [if_pos h]; simp [h]
  · rw [if_neg h]; simp [h]
theorem coK_le (L : List Int) (w : Int) : (coK L w).length ≤ L.length := by
  have := List.length_filter_le (fun s => decide (0 ≤ s)) (L.map fun y => sibI y w)
  simpa [coK] using this
theorem coI_coK (x w : Int) : coI x w = coK (ups x w) w := rfl
set_option maxHeartbeats 1000000 in
theorem copath_spec (x w : Int) : FunOwn seat 264 [.int .i64 x, .int .i64 w] 1 ((coI x w).map (AV.int .i64)) := by
  have hul := ups_len x w
  refine FunOwn.of0W told264 (by simp [il264]) (by simp ) (encI64.xs_idb _) ?_
  simp only [il264, List.zipIdx_cons, List.zipIdx_nil, Nat.zero_add]
  refine WP.seqR [] fun K hK => ?_
  simp -implicitDefEqProofs only [leafA, innerA, nodeA, patchA, Leaf.cells, Inner.cells, Node.cells, decide_true, decide_false, go_sem, Nat.reduceEqDiff, reduceIte, Nat.reduceAdd, Nat.reduceLeDiff, Nat.reduceLT, Nat.reduceSub]
  refine hK _ ?_
  clear hK K
  refine WP.seqR [] fun K hK => ?_
  simp -implicitDefEqProofs only [leafA, innerA, nodeA, patchA, Leaf.cells, Inner.cells, Node.cells, decide_true, decide_false, go_sem, Nat.reduceEqDiff, reduceIte, Nat.reduceAdd, Nat.reduceLeDiff, Nat.reduceLT, Nat.reduceSub]
  refine hK _ (WP.adoptB 1 0 1 (cs := [.list true []]) rfl rfl ?_)
  clear hK K
  refine wpc_soundR [] ?_
  simp -implicitDefEqProofs only [leafA, innerA, nodeA, patchA, Leaf.cells, Inner.cells, Node.cells, decide_true, decide_false, List.set_cons_succ, List.set_cons_zero, List.length_cons, List.length_nil, List.cons_append, List.nil_append, go_sem, Nat.reduceEqDiff, reduceIte, Nat.reduceAdd, Nat.reduceLeDiff, Nat.reduceLT, Nat.reduceSub]
  refine Callee.plain (Callable.of told266) (up_spec x w _) ?_
  rintro _ _ ⟨rfl, rfl⟩
  simp -implicitDefEqProofs only [leafA, innerA, nodeA, patchA, Leaf.cells, Inner.cells, Node.cells, decide_true, decide_false, List.length_cons, List.length_nil, List.cons_append, List.nil_append, go_sem, Nat.reduceEqDiff, reduceIte, Nat.reduceAdd, Nat.reduceLeDiff, Nat.reduceLT, Nat.reduceSub]
  refine WP.rangeO 3 (.box [.int .i64 x]) ((ups x w).map fun y => [.int .i64 y]) (c := 277) (cap := [.ptr 3 0, .iptr [.int .i64 w] 0]) (by simp only [go_sem, Nat.reduceEqDiff, reduceIte, Nat.reduceAdd, Nat.reduceLeDiff, Nat.reduceLT, Nat.reduceSub]) (Callable.of told277) (up1_gives x w 3) (ups_len' x w)
    (fun k e => [.box [.int .i64 w], .box [.own 2 (coK ((ups x w).take k) w).length 0 (coK ((ups x w).take k) w).length], .arr 1 (coK ((ups x w).take k) w).length ((coK ((ups x w).take k) w).map (AV.int .i64)), e, .dead]) (fun k => True) (by simp) (fun _ _ => rfl) (fun _ _ => rfl) (fun _ _ _ => rfl) trivial (by simp [coK]) ?_ ?_
  · intro k hk e hP l T b hb
    have hk' : k < (ups x w).length := by simpa using hk
    rw [List.getElem_map]
    simp only [setPs]
    refine wpc_soundR [] ?_
    simp -implicitDefEqProofs only [leafA, innerA, nodeA, patchA, Leaf.cells, Inner.cells, Node.cells, decide_true, decide_false, List.cons_append, List.nil_append, go_sem, Nat.reduceEqDiff, reduceIte, Nat.reduceAdd, Nat.reduceLeDiff, Nat.reduceLT, Nat.reduceSub]
    refine ⟨[], by simp, fun T' hT' => wpc_soundR [r265] ?_⟩
    have hco := coK_snoc (ups x w) w hk'
    have hcl := coK_le ((ups x w).take k) w
    rw [List.length_take] at hcl
    generalize coK ((ups x w).take k) w = o at *
    by_cases hs : 0 ≤ sibI (ups x w)[k] w
    · rw [if_pos hs] at hco
      have hs' : sibI (ups x w)[k] w ≥ 0 := hs
      have sn : ∀ (a b c d e : Entry) (T : List Entry) (s : Int), seen (a :: b :: c :: d :: e :: (T ++ [.arr 1 0 [.int .i64 s]])) (.own (T.length + 1 + 1 + 1 + 1 + 1) 0 0 1) = some [.int .i64 s] := fun _ _ _ _ _ _ _ => by simp [seen]
      have ap : ∀ (a : Entry) (T : List Entry) (s : Int), evAppend (a :: .box [.own 2 o.length 0 o.length] :: .arr 1 o.length (o.map (AV.int .i64)) :: e :: .dead :: T) 1 8 (.own 2 o.length 0 o.length) [.int .i64 s] =
          some (.own 2 (o.length + 1) 0 (o.length + 1), a :: .box [.own 2 o.length 0 o.length] :: .arr 1 (o.length + 1) ((o ++ [s]).map (AV.int .i64)) :: e :: .dead :: T) := fun a T s => by
        have := app_own (H := a :: .box [.own 2 o.length 0 o.length] :: .arr 1 o.length (o.map (AV.int .i64)) :: e :: .dead :: T) (id := 2) (ver := o.length) (n := o.length) (ys := [.int .i64 s]) (bytes := 8) rfl (by simp) (by unfold maxRow; simp; omega) (by decide) (by decide) (by simp) (by simp [szOk, AV.cells, AV.oneIn])
        simpa [List.take_of_length_le] using this
      simp -implicitDefEqProofs only [leafA, innerA, nodeA, patchA, Leaf.cells, Inner.cells, Node.cells, r265_c, r265_ask, decide_true, decide_false, hs', List.append_nil, sn, ap, go_sem, Nat.reduceEqDiff, reduceIte, Nat.reduceAdd, Nat.reduceLeDiff, Nat.reduceLT, Nat.reduceSub]
      refine ⟨[.box [.int .i64 w], .box [.own 2 (o.length + 1) 0 (o.length + 1)], .arr 1 (o.length + 1) ((o ++ [sibI (ups x w)[k] w]).map (AV.int .i64)), e, .dead], T' ++ [.arr 1 0 [.int .i64 (sibI (ups x w)[k] w)]], rfl, rfl, fun i hi => List.getElem?_append_left hi, trivial, ?_⟩
      simp only [hco, List.length_append, List.length_singleton]
    · rw [if_neg hs] at hco
      have hs' : ¬ sibI (ups x w)[k] w ≥ 0 := hs
      simp -implicitDefEqProofs only [leafA, innerA, nodeA, patchA, Leaf.cells, Inner.cells, Node.cells, r265_c, r265_ask, decide_true, decide_false, hs', List.append_nil, go_sem, Nat.reduceEqDiff, reduceIte, Nat.reduceAdd, Nat.reduceLeDiff, Nat.reduceLT, Nat.reduceSub]
      refine ⟨[.box [.int .i64 w], .box [.own 2 o.length 0 o.length], .arr 1 o.length (o.map (AV.int .i64)), e, .dead], T', rfl, rfl, fun _ _ => rfl, trivial, by simp only [hco]⟩
  · intro hP e T
    rw [List.length_map, List.take_length]
    simp -implicitDefEqProofs only [leafA, innerA, nodeA, patchA, Leaf.cells, Inner.cells, Node.cells, decide_true, decide_false, List.cons_append, List.nil_append, go_sem, Nat.reduceEqDiff, reduceIte, Nat.reduceAdd, Nat.reduceLeDiff, Nat.reduceLT, Nat.reduceSub]
    exact .inl ⟨2, _, rfl, rfl⟩
noncomputable def r264 : Reg seat := .of told264 (ask2 (fun a0' a1' => isI a0' ∧ isI a1') fun a0' a1' => .own 1 ((coI (dI a0') (dI a1')).map (AV.int .i64))) (ask2_ok fun a0' a1' h => SaidOk.own (FunOwn.weak (.cons (isI.weak h.1) (.cons (isI.weak h.2) .nil)) (copath_spec _ _)) (by first | exact encU8.xs_idb _ | exact encI64.xs_idb _ | exact encNode.xs_idb _))
theorem r264_c : r264.c = 264 := rfl
open Classical in
theorem r264_ask (a0' a1' : AV) : r264.ask [a0', a1'] = if isI a0' ∧ isI a1' then some (Said.own 1 ((coI (dI a0') (dI a1')).map (AV.int .i64))) else none := by unfold r264 Reg.of ask2; exact ite_cl

/-- What stands beside a leaf's way up, where somebody is. -/
def besI (t : List Node) (i : Int) : List Int := if i < 0 ∨ i > ((known t).length : Int) / 2 then [] else delF (fun s => decide (resI (known t) s = [])) (coI (2 * i) (known t).length)
def filI (t : List Node) (i : Int) : List Int := (besI t i).map fun x => parI x t.length
theorem besI_le (t : List Node) (i : Int) : (besI t i).length ≤ 7 := by
  unfold besI
  split
  · simp
  · have a := delF_le (fun s => decide (resI (known t) s = [])) (coI (2 * i) (known t).length)
    have b := coK_le (ups (2 * i) (known t).length) (known t).length
    have c := ups_len (2 * i) (known t).length
    have e : coI (2 * i) (known t).length = coK (ups (2 * i) (known t).length) (known t).length := rfl
    rw [e] at a ⊢
    omega
set_option maxHeartbeats 1000000 in
theorem beside_spec (t : List Node) (i : Int) (ht : Tree.Ok t) : Fun seat 262 [nodes t, .int .i64 i] (ints (besI t i)) := by
  have hs := known_sane t
  have hl := known_len t
  have ok := known_ok ht
  have q2 : IntKind.i64.wrap (((known t).length : Int).tdiv 2) = ((known t).length : Int) / 2 := quo2 _ (by omega)
  unfold besI
  by_cases h0 : i < 0
  · rw [if_pos (.inl h0)]
    refine Fun.of0R [r269] told262 (by simp [il262]) (by simp [idb_patchA]) (by simp [idb_patchA]) 4 ?_
    simp -implicitDefEqProofs only [il262, List.zipIdx_cons, List.zipIdx_nil, leafA, innerA, nodeA, patchA, Leaf.cells, Inner.cells, Node.cells, r269_c, r269_ask, decide_true, decide_false, ht, h0, go_sem, Nat.reduceEqDiff, reduceIte, Nat.reduceAdd, Nat.reduceLeDiff, Nat.reduceLT, Nat.reduceSub]
    try rfl
  by_cases h1 : i > ((known t).length : Int) / 2
  · rw [if_pos (.inr h1)]
    refine Fun.of0R [r269] told262 (by simp [il262]) (by simp [idb_patchA]) (by simp [idb_patchA]) 4 ?_
    simp -implicitDefEqProofs only [il262, List.zipIdx_cons, List.zipIdx_nil, leafA, innerA, nodeA, patchA, Leaf.cells, Inner.cells, Node.cells, r269_c, r269_ask, decide_true, decide_false, ht, h0, q2, h1, go_sem, Nat.reduceEqDiff, reduceIte, Nat.reduceAdd, Nat.reduceLeDiff, Nat.reduceLT, Nat.reduceSub]
    try rfl
  rw [if_neg (by omega)]
  obtain ⟨a, ha⟩ : ∃ a, known t = a := ⟨_, rfl⟩
  rw [ha] at hs hl ok q2 h1 ⊢
  have w1 : IntKind.i64.wrap (2 * i) = 2 * i := wrap64 _ (by omega) (by omega)
  have hul := ups_len (2 * i) a.length
  have hcl := coK_le (ups (2 * i) a.length) a.length
  rw [← coI_coK] at hcl
  refine Fun.of0W told262 (by simp [il262]) (by simp ) (by simp ) 4 ?_
  simp only [il262, List.zipIdx_cons, List.zipIdx_nil, Nat.zero_add]
  refine WP.seqR [] fun K hK => ?_
  simp -implicitDefEqProofs only [leafA, innerA, nodeA, patchA, Leaf.cells, Inner.cells, Node.cells, decide_true, decide_false, go_sem, Nat.reduceEqDiff, reduceIte, Nat.reduceAdd, Nat.reduceLeDiff, Nat.reduceLT, Nat.reduceSub]
  refine hK _ ?_
  clear hK K
  refine WP.seqR [r269] fun K hK => ?_
  simp -implicitDefEqProofs only [leafA, innerA, nodeA, patchA, Leaf.cells, Inner.cells, Node.cells, r269_c, r269_ask, decide_true, decide_false, ht, ha, go_sem, Nat.reduceEqDiff, reduceIte, Nat.reduceAdd, Nat.reduceLeDiff, Nat.reduceLT, Nat.reduceSub]
  refine hK _ (WP.sealB 2 0 (cs := [nodes a]) rfl rfl ?_)
  clear hK K
  refine wpc_soundR [] ?_
  simp -implicitDefEqProofs only [leafA, innerA, nodeA, patchA, Leaf.cells, Inner.cells, Node.cells, decide_true, decide_false, h0, q2, h1, w1, List.set_cons_zero, go_sem, Nat.reduceEqDiff, reduceIte, Nat.reduceAdd, Nat.reduceLeDiff, Nat.reduceLT, Nat.reduceSub]
  refine Callee.own told264 (copath_spec (2 * i) a.length) ?_
  simp -implicitDefEqProofs only [leafA, innerA, nodeA, patchA, Leaf.cells, Inner.cells, Node.cells, decide_true, decide_false, List.length_map, List.length_cons, List.length_nil, List.cons_append, List.nil_append, go_sem, Nat.reduceEqDiff, reduceIte, Nat.reduceAdd, Nat.reduceLeDiff, Nat.reduceLT, Nat.reduceSub]
  refine Callee.plain (Callable.of told202) (deleteF_spec (coI (2 * i) a.length) (fun s => decide (resI a s = [])) 0 (by omega) 274 il274 told274 [.iptr [nodes a] 0] (by simp ) fun x _ => empty_spec a x ok hs) ?_
  rintro _ _ ⟨rfl, R, rfl, hR, hT⟩
  have := encI64.canon_own (H := [.dead, .arr 1 0 (R.map (AV.int .i64))]) (id := 1) (sz := 1) (ver := 0) (lo := 0) (hi := (delF (fun s => decide (resI a s = [])) (coI (2 * i) a.length)).length) (l := R) rfl (by rw [hR]; exact delF_le _ _) 3
  rw [this, List.drop_zero, hT]; rfl
noncomputable def r262 : Reg seat := .of told262 (ask2 (fun a0' a1' => isNs a0' ∧ isI a1' ∧ Tree.Ok (dNs a0')) fun a0' a1' => .fn (ints (besI (dNs a0') (dI a1')))) (ask2_ok fun a0' a1' h => SaidOk.fn (Fun.weak (.cons (isNs.weak h.1) (.cons (isI.weak h.2.1) .nil)) (beside_spec _ _ h.2.2)))
theorem r262_c : r262.c = 262 := rfl
open Classical in
theorem r262_ask (a0' a1' : AV) : r262.ask [a0', a1'] = if isNs a0' ∧ isI a1' ∧ Tree.Ok (dNs a0') then some (Said.fn (ints (besI (dNs a0') (dI a1')))) else none := by unfold r262 Reg.of ask2; exact ite_cl
set_option maxHeartbeats 1000000 in
theorem filter_spec (t : List Node) (i : Int) (ht : Tree.Ok t) : Fun seat 261 [nodes t, .int .i64 i] (ints (filI t i)) := by
  have hl := besI_le t i
  refine Fun.of0W told261 (by simp [il261]) (by simp ) (by simp ) 4 ?_
  simp only [il261, List.zipIdx_cons, List.zipIdx_nil, Nat.zero_add]
  refine WP.seqR [] fun K hK => ?_
  simp -implicitDefEqProofs only [leafA, innerA, nodeA, patchA, Leaf.cells, Inner.cells, Node.cells, decide_true, decide_false, go_sem, Nat.reduceEqDiff, reduceIte, Nat.reduceAdd, Nat.reduceLeDiff, Nat.reduceLT, Nat.reduceSub]
  refine hK _ ?_
  clear hK K
  refine WP.seqR [] fun K hK => ?_
  simp -implicitDefEqProofs only [leafA, innerA, nodeA, patchA, Leaf.cells, Inner.cells, Node.cells, decide_true, decide_false, go_sem, Nat.reduceEqDiff, reduceIte, Nat.reduceAdd, Nat.reduceLeDiff, Nat.reduceLT, Nat.reduceSub]
  refine hK _ (WP.adopt 5 1 rfl ?_)
  rw [upd_envL]
  clear hK K
  unfold filI
  generalize hB : besI t i = B at *
  obtain ⟨P, hP⟩ : ∃ P : Nat → List Int, P = fun k => (B.take k).map fun x => parI x t.length := ⟨_, rfl⟩
  have hPl : ∀ k, k ≤ B.length → (P k).length = k := fun k hk => by rw [hP]; simp; omega
  have hPs : ∀ k (hk : k < B.length), P (k + 1) = P k ++ [parI B[k] t.length] := fun k hk => by rw [hP]; simp only [List.take_succ_eq_append_getElem hk, List.map_append, List.map_singleton]
  have hPe : B.map (fun x => parI x t.length) = P B.length := by rw [hP]; simp
  have hP0 : P 0 = [] := by rw [hP]; rfl
  rw [hPe]
  refine wpc_soundR [r262] ?_
  simp -implicitDefEqProofs only [leafA, innerA, nodeA, patchA, Leaf.cells, Inner.cells, Node.cells, r262_c, r262_ask, decide_true, decide_false, ht, hB, go_sem, Nat.reduceEqDiff, reduceIte, Nat.reduceAdd, Nat.reduceLeDiff, Nat.reduceLT, Nat.reduceSub]
  refine WP.loopG (fun k => k ≤ B.length) (fun k => [(0, nodes t), (5, .own 0 k 0 (P k).length), (10, ints B), (11, .int .i64 B.length), (12, .int .i64 (k : Nat))]) (fun k => [.arr 1 k ((P k).map (AV.int .i64))]) (fun k => B.length - k) 0 (Nat.zero_le _)
    (fun k _ => ⟨by simp, by simp , fun e he => by simp only [List.mem_cons, List.not_mem_nil, or_false] at he; subst he; exact encI64.entB _ _ _ _⟩) (by simp [hP0]) ?_
  intro k hk
  refine wpc_soundR [r273] ?_
  by_cases hlt : (k : Int) < (B.length : Nat)
  · have hk' : k < B.length := by omega
    have m1 : (P k).length + 1 ≤ maxRow := by rw [hPl k hk]; unfold maxRow; omega
    simp -implicitDefEqProofs only [leafA, innerA, nodeA, patchA, Leaf.cells, Inner.cells, Node.cells, r273_c, r273_ask, decide_true, decide_false, hlt, fun H => index_ints H B k hk', m1, go_sem, Nat.reduceEqDiff, reduceIte, Nat.reduceAdd, Nat.reduceLeDiff, Nat.reduceLT, Nat.reduceSub]
    exact ⟨k + 1, hk', by omega, by simp [wrapS (show k < 9223372036854775807 by omega), hPs k hk'], by simp [hPs k hk']⟩
  · have e : k = B.length := by omega
    subst e
    simp -implicitDefEqProofs only [leafA, innerA, nodeA, patchA, Leaf.cells, Inner.cells, Node.cells, r273_c, r273_ask, decide_true, decide_false, hlt, go_sem, Nat.reduceEqDiff, reduceIte, Nat.reduceAdd, Nat.reduceLeDiff, Nat.reduceLT, Nat.reduceSub]
noncomputable def r261 : Reg seat := .of told261 (ask2 (fun a0' a1' => isNs a0' ∧ isI a1' ∧ Tree.Ok (dNs a0')) fun a0' a1' => .fn (ints (filI (dNs a0') (dI a1')))) (ask2_ok fun a0' a1' h => SaidOk.fn (Fun.weak (.cons (isNs.weak h.1) (.cons (isI.weak h.2.1) .nil)) (filter_spec _ _ h.2.2)))
theorem r261_c : r261.c = 261 := rfl
open Classical in
theorem r261_ask (a0' a1' : AV) : r261.ask [a0', a1'] = if isNs a0' ∧ isI a1' ∧ Tree.Ok (dNs a0') then some (Said.fn (ints (filI (dNs a0') (dI a1')))) else none := by unfold r261 Reg.of ask2; exact ite_cl
end Go.Proofs.YtlehcigcaihoaaaDoor.Al
