/-
  SPECS: diff.Make, Places, Apply.
-/
import Derived.Test.YtikkcicghpkbgaaAlS7
import Derived.Test.YtikkcicghpkbgaaAlD9
set_option linter.unusedSimpArgs false
set_option linter.unusedVariables false
namespace Go.Proofs.Ytikkcicghpkbgaa.Al
open Go
attribute [local go_sem] W_mv W_pick W_alloc W_box W_build W_bslice W_load W_store W_nilck W_bin W_isnil W_un W_convI W_convS W_mkiface W_mkfunc W_mkslice W_slice W_faddr W_field W_iaddr W_iaddrA W_idxA W_extract W_len W_lenS W_lenA W_min W_max W_append W_appendZ W_copy W_clear W_tassert W_invoke thenQ_normal thenQ_exit thenQ_goto thenQ_ret blockQ_normal blockQ_ret blockQ_goto blockQ_exit wpc_skip wpc_region wpc_draw wpc_seq wpc_cond wpc_block wpc_exit wpc_goto wpc_label wpc_ret wpc_loop wpc_range wpc_scope condW_true condW_false condW_dec condW_any W_nil W_call resW_some evalOp Opd.ev updo_envL updo_none setL_cons setL_nil envL_cons Option.map_some Option.bind_some evBin evInt List.map_cons List.map_nil Option.pure_def Option.bind_eq_bind W_grd' grdW_tt grdW_ff grdW_tf grdW_ft grdW_tup grdW_dt grdW_df lgrdW_tt lgrdW_ff lgrdW_tf lgrdW_ft lgrdW_tup lgrdW_dt lgrdW_df L_mv L_pick L_alloc L_box L_build L_bslice L_load L_store L_nilck L_bin L_isnil L_un L_convI L_convS L_mkiface L_mkfunc L_mkslice L_slice L_faddr L_field L_iaddr L_iaddrA L_idxA L_extract L_len L_lenS L_lenA L_min L_max L_append L_appendZ L_copy L_clear L_tassert L_nil L_call L_grd lresW_some upd_envL evUn beq_dec bne_dec leaves_ret1 leaves_end1 leaves_ret0 leaves_end0 leaves_ret2 leaves_ret3 rowLen_ints load_iptr0 not_dec heap_get0 heap_get1 heap_set0 heap_set1 heap_len1 heap_len2 heap_app heap_app2 bslice1_int seen_ints seen_one0 seen_one1 seen_one2 rowLen_own0 bslice0_int rowLen_own1 Nat.sub_zero Bool.not_true Bool.not_false List.length_nil List.length_cons List.nil_append List.cons_append Nat.zero_add load_iptrA canon_ptrI canon_bool canon_tup canon_agg canon_leafA canon_innerA canon_nodeA canon_ints' rowLen_ints0 seen_ints0 canon_ints0 rowLen_ints1 seen_ints1 canon_ints1 rowLen_ints2 seen_ints2 canon_ints2 rowLen_ints3 seen_ints3 canon_ints3 rowLen_octs seen_octs canon_octs' szOk_octs rowLen_octs0 seen_octs0 canon_octs0 rowLen_octs1 seen_octs1 canon_octs1 rowLen_octs2 seen_octs2 canon_octs2 rowLen_octs3 seen_octs3 canon_octs3 rowLen_intss seen_intss canon_intss' szOk_intss rowLen_intss0 seen_intss0 canon_intss0 rowLen_intss1 seen_intss1 canon_intss1 rowLen_intss2 seen_intss2 canon_intss2 rowLen_intss3 seen_intss3 canon_intss3 rowLen_octss seen_octss canon_octss' szOk_octss rowLen_octss0 seen_octss0 canon_octss0 rowLen_octss1 seen_octss1 canon_octss1 rowLen_octss2 seen_octss2 canon_octss2 rowLen_octss3 seen_octss3 canon_octss3 rowLen_nodes seen_nodes canon_nodes' szOk_nodes rowLen_nodes0 seen_nodes0 canon_nodes0 rowLen_nodes1 seen_nodes1 canon_nodes1 rowLen_nodes2 seen_nodes2 canon_nodes2 rowLen_nodes3 seen_nodes3 canon_nodes3 seen_list cells_int oneIn_int cells_bool oneIn_bool cells_str oneIn_str cells_list oneIn_list cells_func oneIn_func cells_nilfunc oneIn_nilfunc cells_iptr oneIn_iptr cells_iface oneIn_iface cells_nilIface oneIn_nilIface cells_own cells_ptr cells_anybool oneIn_anybool cells_agg oneIn_own0 oneIn_ptr0 seenL0 seenM0 oneIn_own1 oneIn_ptr1 seenL1 seenM1 oneIn_own2 oneIn_ptr2 seenL2 seenM2 oneIn_own3 oneIn_ptr3 seenL3 seenM3 oneIn_own4 oneIn_ptr4 seenL4 seenM4 oneIn_own5 oneIn_ptr5 seenL5 seenM5 cells_ints oneIn_ints cells_octs oneIn_octs cells_intss oneIn_intss cells_octss oneIn_octss cells_nodes oneIn_nodes ldB0 ldA0 adB0 stB0 ldB1 ldA1 adB1 stB1 ldB2 ldA2 adB2 stB2 ldB3 ldA3 adB3 stB3 ldB4 ldA4 adB4 stB4 ldB5 ldA5 adB5 stB5 List.getElem?_cons_zero List.getElem?_cons_succ beq_self_eq_true splice List.take_zero List.take_succ_cons List.drop_zero List.drop_succ_cons List.append_nil List.set_cons_zero List.set_cons_succ List.all_cons List.all_nil Bool.and_self and_self and_true true_and Nat.lt_irrefl Nat.zero_lt_one Nat.le_refl fillA evNil notA Bool.false_eq_true evMin_int evMax_int Option.map_none freezeP_all_nil freezeP_all_cons frzE_box frzE_arr frzE_dead foldA List.foldlM_cons List.foldlM_nil callW_f lcallW_f ansW_fn ansW_own lansW_fn lansW_own ansW_none lansW_none tab_cons tab_nil dI_int dB_bool dO_octs dO_ints dO_list dO_nil dOs_octss dOs_intss dOs_nil dLf_leafA dIn_innerA dN_nodeA dLf_agg dIn_agg dN_agg dNs_nodes dNs_list dNs_nil isI_int isU_int isB_bool isO_octs isO_nil isO_list isS_ints isS_nil isS_list isOs_octss isSs_intss isOs_nil isSs_nil isNs_nodes isNs_list isNs_nil isLf_leafA isIn_innerA isN_nodeA isLf_agg isIn_agg isN_agg leaf_eta inner_eta node_eta leaf_zero inner_zero node_zero dP_patchA dP_agg isP_patchA isP_agg patch_eta decide_eq_true_eq decide_eq_false_iff_not eq_self forall_const true_implies false_implies Bool.not_eq_true' Bool.not_eq_false' Bool.true_eq_false implies_true ne_eq ldI ldIA adI AV.tup.injEq AV.agg.injEq List.cons.injEq AV.int.injEq AV.bool.injEq nodes_inj octs_inj ints_inj nil_nodes nil_octs nil_ints canon_nilL decide_eq_decide two_ne four_ne b256_ne lendA_fn lendA_own lendA_none llendA_fn llendA_none plain_bool plain_int plain_tup2 isNs_own isO_own isS_own isOs_own false_and and_false Q_nil Q_l Q_g Q_h Q_grd qgrdW_b qgrdW_tup lightD_some heavyD_some readD_some fnD_some fnD_own fnD_none callL_f ownH_some callH_f litD_some litE_some Q_call Q_bslice H_call pendOk_nil pendOk_cons pastOk_nil pastOk_cons Q_mv Q_pick Q_bin Q_un Q_convI Q_mkfunc Q_extract Q_min Q_max Q_lenS Q_lenA Q_field Q_idxA Q_mkiface Q_tassert Q_alloc Q_box Q_store Q_mkslice Q_append Q_appendZ Q_copy Q_clear Q_build Q_load Q_nilck Q_isnil Q_convS Q_slice Q_faddr Q_iaddr Q_iaddrA Q_len H_alloc H_box H_bslice H_store H_mkslice H_append H_appendZ H_copy H_clear free_mv free_pick free_bin free_un free_convI free_mkfunc free_extract free_min free_max free_lenS free_lenA free_field free_idxA free_mkiface free_tassert free_build free_load free_nilck free_isnil free_convS free_slice free_faddr free_iaddr free_iaddrA free_len callW_y List.length_map List.length_set leaves_r evR_some evRess1 evRess2 evRess3 evRes_t evRes_c nz_kind nz_enc nz_cred nz_source nz_parent nz_ienc nz_hash nz_un true_or or_true bsl_node idbs_node idbs_int appN appI appO ixo_nodes canon_row canon_rowI canon_rowO not_false_eq_true not_true_eq_false ldE_a ldE_c adE_b stE_b onE_a onP_b bsl_zero idbs_zero appN_zero
attribute [local go_sem low] condW_b grdW_b lgrdW_b ldP adP stP onO onPt
attribute [local simp] envL_cons envL_nil idb_int idb_bool idb_str idb_ints idb_nil idb_own idb_ptr entB_ints' idb_octs entB_octs idb_intss entB_intss idb_octss entB_octss idb_nodes entB_nodes idb_leafA idb_innerA idb_nodeA idb_agg idb_tup idb_iptr idb_fn idb_undef entB_dead entB_box
attribute [local simp] upI_zero upN_zero

def IC.snd : IC → IC
  | .seq _ b => b
  | x => x
def IC.fst : IC → IC
  | .seq a _ => a
  | x => x
def IC.sub : IC → IC
  | .scope b => b
  | .block _ b => b
  | .loop b => b
  | x => x

def zp : List AV := [.int .i64 0, .list true [], .list true []]
def makeL (B F : List Node) (s : Nat × Nat × Nat) : List (Nat × AV) := [(4, AV.ptr 0 0), (0, nodes F), (1, nodes B), (5, .ptr 2 0), (6, .int .i64 (s.1 : Nat))]
def makeG (A B F : List Node) (s : Nat × Nat × Nat) : List Entry := [.box zp, .frz 8 0 (F.map nodeA), .box [.int .i64 B.length, .own 3 s.2.1 0 (upI (differ A B) s.1).length, .own 4 s.2.2 0 (upN (nodeAt B) (differ A B) s.1).length],
  .arr 1 s.2.1 ((upI (differ A B) s.1).map (AV.int .i64)), .arr 8 s.2.2 ((upN (nodeAt B) (differ A B) s.1).map nodeA)]
theorem make_spec (a b : List Node) (ha : Tree.Ok a) (hb : Tree.Ok b) : Fun seat 119 [nodes a, nodes b] (patchA (makeT a b)) := by
  have hka := known_ok ha
  have hkb := known_ok hb
  have hl := known_len b
  unfold makeT placesT
  have hdf : ∀ x, x < (known b).length → differ (known a) (known b) x = decide (¬ nodeAt (fitT (known a) (known b).length) x = nodeAt (known b) x) := fun x hx => by rw [differ, fitT_at _ hx]
  have hfo := fitT_ok hka (n := (known b).length) (by omega)
  have hfl := fitT_len (known a) (known b).length
  have hn2 : ((known b).length : Int) ≤ 4294967295 := by omega
  refine Fun.of0W told119 (by simp [il119]) (by simp ) (by simp [idb_patchA]) 4 ?_
  simp only [il119, List.zipIdx_cons, List.zipIdx_nil, Nat.zero_add, List.map_cons, List.map_nil]
  refine WP.seqR [] fun K hK => ?_
  simp only [go_sem, Nat.reduceEqDiff, reduceIte, Nat.reduceAdd, Nat.reduceLeDiff, Nat.reduceLT, Nat.reduceSub]
  refine hK _ ?_
  clear hK K
  have key : ∀ s : Nat × Nat × Nat, s.1 ≤ (known b).length → WP seat none 49 0 il119.body.snd.sub.snd.snd.snd.snd.snd
      (jumpQ 0 (fun st' => ∃ s' : Nat × Nat × Nat, s'.1 ≤ (known b).length ∧ (known b).length - s'.1 < (known b).length - s.1 ∧
        (∀ p ∈ makeL (known b) (fitT (known a) (known b).length) s', st'.env p.1 = p.2) ∧ st'.H.take (makeG (known a) (known b) (fitT (known a) (known b).length) s').length = makeG (known a) (known b) (fitT (known a) (known b).length) s')
        (leaves il119.res fun r' H' => canon H' 4 r' = patchA ⟨(known b).length, upI (differ (known a) (known b)) (known b).length, upN (nodeAt (known b)) (differ (known a) (known b)) (known b).length⟩))
      ⟨envL (makeL (known b) (fitT (known a) (known b).length) s), makeG (known a) (known b) (fitT (known a) (known b).length) s⟩ := by
    unfold makeL makeG
    generalize known a = A at *
    generalize known b = B at *
    generalize fitT A B.length = F at *
    rintro ⟨k, v1, v2⟩ hk
    simp only at hk
    simp only [il119, IC.snd, IC.sub, zp]
    refine wpc_soundR [] ?_
    simp only [leafA, innerA, nodeA, patchA, Leaf.cells, Inner.cells, Node.cells, go_sem, Nat.reduceEqDiff, reduceIte, Nat.reduceAdd, Nat.reduceLeDiff, Nat.reduceLT, Nat.reduceSub]
    refine ⟨fun he => ?_, fun hne => ?_⟩
    · obtain rfl : k = B.length := by omega
      simp only [jumpQ_ret, go_sem, Nat.reduceEqDiff, reduceIte, Nat.reduceAdd, Nat.reduceLeDiff, Nat.reduceLT, Nat.reduceSub]
    · have hk' : k < B.length := by omega
      have hkn := nodeAt_lt hk'
      have hkF : k < F.length := by omega
      have hkf := nodeAt_lt hkF
      have dif : differ A B k = decide (¬ F[k] = B[k]) := by rw [hdf k hk', hkn, hkf]
      refine WP.drawQ [r121] [.l, .l, .g 0 0, .g 0 0, .l, .l, .g 0 0, .g 0 0, .l, .l] mixed (by decide) ?_
      simp only [leafA, innerA, nodeA, patchA, Leaf.cells, Inner.cells, Node.cells, r121_c, r121_ask, fun H => ix_nodes H B k hk', fun H => ix_nodes H F k hkF, hkb.at hk', hfo.at hkF, go_sem, Nat.reduceEqDiff, reduceIte, Nat.reduceAdd, Nat.reduceLeDiff, Nat.reduceLT, Nat.reduceSub]
      have hu1 := upI_len (differ A B) k
      have hu2 := upN_len (nodeAt B) (differ A B) k
      have hx1 : (upI (differ A B) k).length + 1 ≤ maxRow := by unfold maxRow; omega
      have hx2 : (upN (nodeAt B) (differ A B) k).length + 1 ≤ maxRow := by unfold maxRow; omega
      refine ⟨fun h => ?_, fun h => ?_⟩
      · have hd : differ A B k = true := by rw [dif]; simpa using h
        refine WP.drawQ [] [.g 0 0, .g 0 0, .l, .l, .h 0, .g 0 1, .g 0 1, .l, .l, .g 0 1, .g 0 1, .l, .h 1, .g 1 2, .h 2, .g 3 3, .h 3] mixed (by decide) ?_
        simp only [leafA, innerA, nodeA, patchA, Leaf.cells, Inner.cells, Node.cells, fun H => ix_nodes H B k hk', hx1, hx2, jumpQ_goto, go_sem, Nat.reduceEqDiff, reduceIte, Nat.reduceAdd, Nat.reduceLeDiff, Nat.reduceLT, Nat.reduceSub]
        exact ⟨(k + 1, v1 + 1, v2 + 1), hk', by omega, by simp [wrapS (show k < 9223372036854775807 by omega)], by simp [upI_yes hd, upN_yes hd, hkn]⟩
      · have hd : differ A B k = false := by rw [dif]; simpa using h
        simp only [jumpQ_goto, go_sem, Nat.reduceEqDiff, reduceIte, Nat.reduceAdd, Nat.reduceLeDiff, Nat.reduceLT, Nat.reduceSub]
        exact ⟨(k + 1, v1, v2), hk', by omega, by simp [wrapS (show k < 9223372036854775807 by omega)], by simp [upI_no hd, upN_no hd]⟩
  refine WP.scopeG 0 rfl (fun s : Nat × Nat × Nat => s.1 ≤ (known b).length) (makeL (known b) (fitT (known a) (known b).length)) (makeG (known a) (known b) (fitT (known a) (known b).length)) (fun s => (known b).length - s.1) (fun s _ => ?_) ?_ (fun s hs => ?_)
  · refine ⟨by simp [makeG], by simp [makeL, makeG], fun e he => ?_⟩
    simp only [makeG, List.mem_cons, List.not_mem_nil, or_false] at he
    rcases he with rfl | rfl | rfl | rfl | rfl <;> first | exact encNode.entB _ _ _ _ | exact encI64.entB _ _ _ _ | exact entB_frzN _ _ _ | simp [makeG, zp]
  · refine WP.seqR [r135] fun K hK => ?_
    simp only [leafA, innerA, nodeA, patchA, Leaf.cells, Inner.cells, Node.cells, r135_c, r135_ask, hb, go_sem, Nat.reduceEqDiff, reduceIte, Nat.reduceAdd, Nat.reduceLeDiff, Nat.reduceLT, Nat.reduceSub]
    refine hK _ (WP.seqR [r135, r134] ?_)
    clear hK K
    intro K hK
    simp only [leafA, innerA, nodeA, patchA, Leaf.cells, Inner.cells, Node.cells, r135_c, r135_ask, r134_c, r134_ask, ha, Int.natCast_nonneg, hn2, Int.toNat_natCast, go_sem, Nat.reduceEqDiff, reduceIte, Nat.reduceAdd, Nat.reduceLeDiff, Nat.reduceLT, Nat.reduceSub]
    refine hK _ (WP.freeze all (WP.deref 0 1 ?_))
    clear hK K
    have ed := frz_rowN (H := freezeP all [.box zp, .arr 8 0 ((fitT (known a) (known b).length).map nodeA)]) (id := 1) (ver := 0) (k := 0) (l := fitT (known a) (known b).length) rfl
    simp only [freezeP_all_cons, freezeP_all_nil, frzE_box, frzE_arr, zp] at ed
    refine WP.weakL [(0, nodes (fitT (known a) (known b).length)), (1, nodes (known b)), (4, .ptr 0 0)] ?_ ?_
    · simp only [upd_envL, freezeP_all_cons, freezeP_all_nil, frzE_box, frzE_arr, envL_cons, Nat.reduceEqDiff, reduceIte, ed, List.mem_cons, List.not_mem_nil, or_false, forall_eq_or_imp, forall_eq, weak_refl, and_self]
    simp only [freezeP_all_cons, freezeP_all_nil, frzE_box, frzE_arr]
    refine WP.seqR [] fun K hK => ?_
    simp only [go_sem, Nat.reduceEqDiff, reduceIte, Nat.reduceAdd, Nat.reduceLeDiff, Nat.reduceLT, Nat.reduceSub]
    refine hK _ (WP.seqR [] ?_)
    clear hK K
    intro K hK
    simp only [go_sem, Nat.reduceEqDiff, reduceIte, Nat.reduceAdd, Nat.reduceLeDiff, Nat.reduceLT, Nat.reduceSub]
    refine hK _ (WP.seq (WP.label ?_))
    clear hK K
    refine WP.adoptB 2 1 1 rfl rfl (WP.adoptB 2 2 8 rfl rfl ?_)
    refine WP.mono (WP.weakL (makeL (known b) (fitT (known a) (known b).length) (0, 0, 0)) ?_ (key (0, 0, 0) (Nat.zero_le _))) ?_
    · simp only [makeL, upd_envL, envL_cons, Nat.reduceEqDiff, reduceIte, List.mem_cons, List.not_mem_nil, or_false, forall_eq_or_imp, forall_eq, weak_refl, and_self]
      exact ⟨trivial, trivial, trivial, trivial, .refl _⟩
    · intro e st h
      cases e with
      | goto l =>
        obtain ⟨rfl, s', h1, _, h3, h4⟩ := h
        exact ⟨rfl, s', h1, h3, h4⟩
      | _ => exact h
  · refine WP.seqR [] fun K hK => ?_
    simp only [go_sem, Nat.reduceEqDiff, reduceIte, Nat.reduceAdd, Nat.reduceLeDiff, Nat.reduceLT, Nat.reduceSub]
    exact hK _ (key s hs)
noncomputable def r119 : Reg seat := .of told119 (ask2 (fun a0' a1' => isNs a0' ∧ isNs a1' ∧ Tree.Ok (dNs a0') ∧ Tree.Ok (dNs a1')) fun a0' a1' => .fn (patchA (makeT (dNs a0') (dNs a1')))) (ask2_ok fun a0' a1' h => SaidOk.fn (Fun.weak (.cons (isNs.weak h.1) (.cons (isNs.weak h.2.1) .nil)) (make_spec _ _ h.2.2.1 h.2.2.2)))
theorem r119_c : r119.c = 119 := rfl
open Classical in
theorem r119_ask (a0' a1' : AV) : r119.ask [a0', a1'] = if isNs a0' ∧ isNs a1' ∧ Tree.Ok (dNs a0') ∧ Tree.Ok (dNs a1') then some (Said.fn (patchA (makeT (dNs a0') (dNs a1')))) else none := by unfold r119 Reg.of ask2; exact ite_cl

theorem places_spec (a b : List Node) (ha : Tree.Ok a) (hb : Tree.Ok b) : Fun seat 116 [nodes a, nodes b] (ints (placesT a b)) := by
  refine Fun.of0R [r119] told116 (by simp [il116]) (by simp [idb_patchA]) (by simp [idb_patchA]) 4 ?_
  simp only [il116, List.zipIdx_cons, List.zipIdx_nil, leafA, innerA, nodeA, patchA, Leaf.cells, Inner.cells, Node.cells, r119_c, r119_ask, ha, hb, go_sem, Nat.reduceEqDiff, reduceIte, Nat.reduceAdd, Nat.reduceLeDiff, Nat.reduceLT, Nat.reduceSub]
  simp only [makeT]
noncomputable def r116 : Reg seat := .of told116 (ask2 (fun a0' a1' => isNs a0' ∧ isNs a1' ∧ Tree.Ok (dNs a0') ∧ Tree.Ok (dNs a1')) fun a0' a1' => .fn (ints (placesT (dNs a0') (dNs a1')))) (ask2_ok fun a0' a1' h => SaidOk.fn (Fun.weak (.cons (isNs.weak h.1) (.cons (isNs.weak h.2.1) .nil)) (places_spec _ _ h.2.2.1 h.2.2.2)))
theorem r116_c : r116.c = 116 := rfl
open Classical in
theorem r116_ask (a0' a1' : AV) : r116.ask [a0', a1'] = if isNs a0' ∧ isNs a1' ∧ Tree.Ok (dNs a0') ∧ Tree.Ok (dNs a1') then some (Said.fn (ints (placesT (dNs a0') (dNs a1')))) else none := by unfold r116 Reg.of ask2; exact ite_cl

theorem sets_at (t : List Node) (p : Patch) (k : Nat) (h1 : k < p.x.length) (h2 : k < p.n.length) : putsT t ((p.x.zip p.n).take (k + 1)) = (putsT t ((p.x.zip p.n).take k)).set (p.x[k]).toNat p.n[k] := by
  rw [List.take_succ_eq_append_getElem (by simp; omega), putsT_snoc]
  simp
theorem putsN_ok {t : List Node} (ht : Tree.Ok t) {p : Patch} (hp : p.Ok) (k : Nat) : Tree.Ok (putsT t ((p.x.zip p.n).take k)) := putsT_ok ht fun q hq => hp.n.2 _ (List.of_mem_zip (List.mem_of_mem_take hq)).2

theorem refApply_spec (a : List Node) (p : Patch) (ha : Tree.Ok a) (hp : p.Ok) : Fun seat 113 [nodes a, patchA p] (.tup [nodes (applyT a p).1, .int .i64 (applyT a p).2]) := by
  have hka := known_ok ha
  by_cases hm : May p
  rotate_left
  · have e : applyT a p = ([], 2) := if_pos hm
    rw [e]
    refine Fun.of0R [r136] told113 (by simp [il113]) (by simp [idb_patchA]) (by simp [idb_patchA]) 4 ?_
    simp only [il113, List.zipIdx_cons, List.zipIdx_nil, leafA, innerA, nodeA, patchA, Leaf.cells, Inner.cells, Node.cells, r136_c, r136_ask, hp, hm, go_sem, Nat.reduceEqDiff, reduceIte, Nat.reduceAdd, Nat.reduceLeDiff, Nat.reduceLT, Nat.reduceSub]
  have e : applyT a p = let t := putsT (fitT (known a) p.len.toNat) (p.x.zip p.n); if ¬ Sane t then ([], 14) else (t, 0) := if_neg (not_not_intro hm)
  rw [e]
  have hml := hm.len
  have hnx := hm.nx
  have hat := fun k (hk : k < p.x.length) => hm.at hk
  obtain ⟨L, hL⟩ : ∃ L : Nat, p.len = L := ⟨p.len.toNat, by omega⟩
  rw [hL, Int.toNat_natCast]
  have hfa := fitT_succ (known a)
  have hfl := fitT_len (known a)
  have hf0 := fitT_zero (known a)
  have hfo := fun n hn => fitT_ok hka (n := n) hn
  refine Fun.of0R [r136, r137, r139] told113 (by simp [il113]) (by simp [idb_patchA]) (by simp [idb_patchA]) 4 ?_
  simp only [il113, List.zipIdx_cons, List.zipIdx_nil, leafA, innerA, nodeA, patchA, Leaf.cells, Inner.cells, Node.cells, r136_c, r136_ask, r137_c, r137_ask, r139_c, r139_ask, hp, hm, ha, go_sem, Nat.reduceEqDiff, reduceIte, Nat.reduceAdd, Nat.reduceLeDiff, Nat.reduceLT, Nat.reduceSub]
  generalize known a = A at *
  refine WP.adopt 7 8 rfl ?_
  rw [upd_envL]
  refine WP.loopG (fun s : Nat × Nat => s.1 ≤ L) (fun s => [(3, .ptr 0 0), (6, nodes A), (7, .own 1 s.2 0 (fitT A s.1).length), (8, .int .i64 (s.1 : Nat))]) (fun s => [.box [.int .i64 p.len, ints p.x, nodes p.n], .arr 8 s.2 ((fitT A s.1).map nodeA)]) (fun s => L - s.1) (0, 0) (Nat.zero_le _)
    (fun k _ => ⟨by simp, by simp [idb_patchA], fun e he => by (simp only [List.mem_cons, List.not_mem_nil, or_false] at he); (rcases he with rfl | rfl | rfl | rfl | rfl | rfl) <;> first | exact encNode.entB _ _ _ _ | exact encI64.entB _ _ _ _ | exact encU8.entB _ _ _ _ | simp ⟩) (by simp [hf0]) ?_
  rintro ⟨k, v⟩ hk
  simp only at hk
  refine wpc_soundR [r138] ?_
  have hx : (fitT A k).length + 1 ≤ maxRow := by rw [hfl]; unfold maxRow; omega
  simp only [leafA, innerA, nodeA, patchA, Leaf.cells, Inner.cells, Node.cells, r138_c, r138_ask, hL, Int.natCast_nonneg, Int.toNat_natCast, hx, go_sem, Nat.reduceEqDiff, reduceIte, Nat.reduceAdd, Nat.reduceLeDiff, Nat.reduceLT, Nat.reduceSub]
  refine ⟨fun hlt => ?_, fun hge => ?_⟩
  · exact ⟨(k + 1, v + 1), by omega, by omega, by simp [hfa, wrapS (show k < 9223372036854775807 by omega)]⟩
  · have hkL : k = L := by omega
    subst hkL
    clear hge
    have hpl : (p.x.zip p.n).length = p.x.length := by simp [hnx]
    obtain ⟨F, hF⟩ : ∃ F, F = fitT A k := ⟨_, rfl⟩
    have hFl : F.length = k := by rw [hF, hfl]
    have hFo : Tree.Ok F := by rw [hF]; exact hfo k (by omega)
    have hpo := fun j => putsN_ok hFo hp j
    have hsa := fun j h1 => sets_at F p j h1 (by omega)
    have hpl2 := fun j => putsT_len F ((p.x.zip p.n).take j)
    rw [← hF]
    generalize hT : (fun j => putsT F ((p.x.zip p.n).take j)) = T at *
    have hT0 : T 0 = F := by rw [← hT]; rfl
    have hTe : putsT F (p.x.zip p.n) = T p.x.length := by rw [← hT]; simp only; rw [← hpl, List.take_length]
    have hTs : ∀ j (h1 : j < p.x.length), T (j + 1) = (T j).set (p.x[j]).toNat (p.n[j]'(by omega)) := fun j h1 => by rw [← hT]; exact hsa j h1
    have hTl : ∀ j, (T j).length = k := fun j => by rw [← hT]; simp only; rw [hpl2, hFl]
    have hTo : ∀ j, Tree.Ok (T j) := fun j => by rw [← hT]; exact hpo j
    clear hsa hpl2 hpo
    rw [hTe]
    have hxl := hp.x.len
    refine WP.loopG (fun s : Nat => s ≤ p.x.length) (fun s => [(3, .ptr 0 0), (7, .own 1 v 0 (T s).length), (9, .int .i64 (s : Nat))]) (fun s => [.box [.int .i64 p.len, ints p.x, nodes p.n], .arr 8 v ((T s).map nodeA)]) (fun s => p.x.length - s) 0 (Nat.zero_le _)
      (fun k _ => ⟨by simp, by simp [idb_patchA], fun e he => by (simp only [List.mem_cons, List.not_mem_nil, or_false] at he); (rcases he with rfl | rfl | rfl | rfl | rfl | rfl) <;> first | exact encNode.entB _ _ _ _ | exact encI64.entB _ _ _ _ | exact encU8.entB _ _ _ _ | simp ⟩) (by simp [hT0, hL]) ?_
    intro j hj
    refine wpc_soundR [] ?_
    simp only [leafA, innerA, nodeA, patchA, Leaf.cells, Inner.cells, Node.cells, go_sem, Nat.reduceEqDiff, reduceIte, Nat.reduceAdd, Nat.reduceLeDiff, Nat.reduceLT, Nat.reduceSub]
    refine ⟨fun hlt => ?_, fun hge => ?_⟩
    · have hj' : j < p.x.length := by omega
      have hb := hat j hj'
      obtain ⟨y, hy⟩ : ∃ y : Nat, p.x[j] = y := ⟨(p.x[j]).toNat, by omega⟩
      have hyl : y < (T j).length := by rw [hTl]; omega
      have hts := hTs j hj'
      rw [hy, Int.toNat_natCast] at hts
      refine WP.drawQ [] [.l, .g 0 0, .g 0 0, .l, .g 0 0, .g 0 0, .g 0 0, .g 0 0, .l, .g 0 0, .g 0 0, .g 0 0, .h 0] mixed (by decide) ?_
      simp only [leafA, innerA, nodeA, patchA, Leaf.cells, Inner.cells, Node.cells, fun H => index_ints H p.x j hj', fun H => ix_nodes H p.n j (by omega), hy, hyl, fun H h => st_rowA (H := H) (id := 1) (ver := v) (l := T j) (p.n[j]'(by omega)) h hyl, go_sem, Nat.reduceEqDiff, reduceIte, Nat.reduceAdd, Nat.reduceLeDiff, Nat.reduceLT, Nat.reduceSub]
      exact ⟨j + 1, hj', by omega, by simp [hts, wrapS (show j < 9223372036854775807 by omega)]⟩
    · have e : j = p.x.length := by omega
      subst e
      have hto := hTo p.x.length
      simp only [leafA, innerA, nodeA, patchA, Leaf.cells, Inner.cells, Node.cells, r136_c, r136_ask, r137_c, r137_ask, r139_c, r139_ask, hto, go_sem, Nat.reduceEqDiff, reduceIte, Nat.reduceAdd, Nat.reduceLeDiff, Nat.reduceLT, Nat.reduceSub]
      iterate 12 ((all_goals intros); (all_goals try refine And.intro ?_ ?_))
      all_goals first | (show WP _ _ _ _ _ _ _) | grind
noncomputable def r113 : Reg seat := .of told113 (ask2 (fun a0' a1' => isNs a0' ∧ isP a1' ∧ Tree.Ok (dNs a0') ∧ (dP a1').Ok) fun a0' a1' => .fn (.tup [nodes (applyT (dNs a0') (dP a1')).1, .int .i64 (applyT (dNs a0') (dP a1')).2])) (ask2_ok fun a0' a1' h => SaidOk.fn (Fun.weak (.cons (isNs.weak h.1) (.cons (isP.weak h.2.1) .nil)) (refApply_spec _ _ h.2.2.1 h.2.2.2)))
theorem r113_c : r113.c = 113 := rfl
open Classical in
theorem r113_ask (a0' a1' : AV) : r113.ask [a0', a1'] = if isNs a0' ∧ isP a1' ∧ Tree.Ok (dNs a0') ∧ (dP a1').Ok then some (Said.fn (.tup [nodes (applyT (dNs a0') (dP a1')).1, .int .i64 (applyT (dNs a0') (dP a1')).2])) else none := by unfold r113 Reg.of ask2; exact ite_cl

theorem apply_spec (a : List Node) (p : Patch) (ha : Tree.Ok a) (hp : p.Ok) : Fun seat 112 [nodes a, patchA p] (.tup [nodes (applyT a p).1, .int .i64 (applyT a p).2]) := by
  have hka := known_ok ha
  by_cases hm : May p
  rotate_left
  · have e : applyT a p = ([], 2) := if_pos hm
    rw [e]
    refine Fun.of0R [r133] told112 (by simp [il112]) (by simp [idb_patchA]) (by simp [idb_patchA]) 4 ?_
    simp only [il112, List.zipIdx_cons, List.zipIdx_nil, leafA, innerA, nodeA, patchA, Leaf.cells, Inner.cells, Node.cells, r133_c, r133_ask, hp, hm, go_sem, Nat.reduceEqDiff, reduceIte, Nat.reduceAdd, Nat.reduceLeDiff, Nat.reduceLT, Nat.reduceSub]
  have e : applyT a p = let t := putsT (fitT (known a) p.len.toNat) (p.x.zip p.n); if ¬ Sane t then ([], 14) else (t, 0) := if_neg (not_not_intro hm)
  rw [e]
  have hml := hm.len
  have hnx := hm.nx
  have hat := fun k (hk : k < p.x.length) => hm.at hk
  obtain ⟨L, hL⟩ : ∃ L : Nat, p.len = L := ⟨p.len.toNat, by omega⟩
  rw [hL, Int.toNat_natCast]
  have hfl := fitT_len (known a) L
  have hfo := fitT_ok hka (n := L) (by omega)
  have hL2 : (L : Int) ≤ 4294967295 := by omega
  have hpl : (p.x.zip p.n).length = p.x.length := by simp [hnx]
  have hpo := fun j => putsN_ok hfo hp j
  have hsa := fun j h1 => sets_at (fitT (known a) L) p j h1 (by omega)
  have hpl2 := fun j => putsT_len (fitT (known a) L) ((p.x.zip p.n).take j)
  refine Fun.of0R [r133, r101] told112 (by simp [il112]) (by simp [idb_patchA]) (by simp [idb_patchA]) 4 ?_
  simp only [il112, List.zipIdx_cons, List.zipIdx_nil, leafA, innerA, nodeA, patchA, Leaf.cells, Inner.cells, Node.cells, r133_c, r133_ask, r101_c, r101_ask, hp, hm, go_sem, Nat.reduceEqDiff, reduceIte, Nat.reduceAdd, Nat.reduceLeDiff, Nat.reduceLT, Nat.reduceSub]
  refine WP.drawQ [r135, r134] [.l, .l, .g 0 0, .g 0 0, .h 0, .l] mixed (by decide) ?_
  simp only [leafA, innerA, nodeA, patchA, Leaf.cells, Inner.cells, Node.cells, r135_c, r135_ask, r134_c, r134_ask, ha, hL, Int.natCast_nonneg, Int.toNat_natCast, hL2, go_sem, Nat.reduceEqDiff, reduceIte, Nat.reduceAdd, Nat.reduceLeDiff, Nat.reduceLT, Nat.reduceSub]
  generalize fitT (known a) L = F at *
  generalize hT : (fun j => putsT F ((p.x.zip p.n).take j)) = T at *
  have hT0 : T 0 = F := by rw [← hT]; rfl
  have hTe : putsT F (p.x.zip p.n) = T p.x.length := by rw [← hT]; simp only; rw [← hpl, List.take_length]
  have hTs : ∀ j (h1 : j < p.x.length), T (j + 1) = (T j).set (p.x[j]).toNat (p.n[j]'(by omega)) := fun j h1 => by rw [← hT]; exact hsa j h1
  have hTl : ∀ j, (T j).length = L := fun j => by rw [← hT]; simp only; rw [hpl2, hfl]
  have hTo : ∀ j, Tree.Ok (T j) := fun j => by rw [← hT]; exact hpo j
  clear hsa hpl2 hpo
  rw [hTe]
  have hxl := hp.x.len
  refine WP.loopG (fun s : Nat => s ≤ p.x.length) (fun s => [(3, .ptr 0 0), (6, .own 1 0 0 (T s).length), (18, ints p.x), (19, .int .i64 p.x.length), (20, .int .i64 (s : Nat))]) (fun s => [.box [.int .i64 p.len, ints p.x, nodes p.n], .arr 8 0 ((T s).map nodeA)]) (fun s => p.x.length - s) 0 (Nat.zero_le _)
    (fun k _ => ⟨by simp, by simp [idb_patchA], fun e he => by (simp only [List.mem_cons, List.not_mem_nil, or_false] at he); (rcases he with rfl | rfl | rfl | rfl | rfl | rfl) <;> first | exact encNode.entB _ _ _ _ | exact encI64.entB _ _ _ _ | exact encU8.entB _ _ _ _ | simp ⟩) (by simp [hT0, hL]) ?_
  intro j hj
  refine wpc_soundR [] ?_
  simp only [leafA, innerA, nodeA, patchA, Leaf.cells, Inner.cells, Node.cells, go_sem, Nat.reduceEqDiff, reduceIte, Nat.reduceAdd, Nat.reduceLeDiff, Nat.reduceLT, Nat.reduceSub]
  refine ⟨fun hlt => ?_, fun hge => ?_⟩
  · have hj' : j < p.x.length := by omega
    have hb := hat j hj'
    obtain ⟨y, hy⟩ : ∃ y : Nat, p.x[j] = y := ⟨(p.x[j]).toNat, by omega⟩
    have hyl : y < (T j).length := by rw [hTl]; omega
    have hts := hTs j hj'
    rw [hy, Int.toNat_natCast] at hts
    simp only [leafA, innerA, nodeA, patchA, Leaf.cells, Inner.cells, Node.cells, fun H => index_ints H p.x j hj', fun H => ix_nodes H p.n j (by omega), hy, hyl, fun H h => st_rowA (H := H) (id := 1) (ver := 0) (l := T j) (p.n[j]'(by omega)) h hyl, go_sem, Nat.reduceEqDiff, reduceIte, Nat.reduceAdd, Nat.reduceLeDiff, Nat.reduceLT, Nat.reduceSub]
    exact ⟨j + 1, hj', by omega, by simp [hts, wrapS (show j < 9223372036854775807 by omega)]⟩
  · have e : j = p.x.length := by omega
    subst e
    have hto := hTo p.x.length
    simp only [leafA, innerA, nodeA, patchA, Leaf.cells, Inner.cells, Node.cells, r133_c, r133_ask, r101_c, r101_ask, hto, go_sem, Nat.reduceEqDiff, reduceIte, Nat.reduceAdd, Nat.reduceLeDiff, Nat.reduceLT, Nat.reduceSub]
    iterate 12 ((all_goals intros); (all_goals try refine And.intro ?_ ?_))
    all_goals first | (show WP _ _ _ _ _ _ _) | grind
noncomputable def r112 : Reg seat := .of told112 (ask2 (fun a0' a1' => isNs a0' ∧ isP a1' ∧ Tree.Ok (dNs a0') ∧ (dP a1').Ok) fun a0' a1' => .fn (.tup [nodes (applyT (dNs a0') (dP a1')).1, .int .i64 (applyT (dNs a0') (dP a1')).2])) (ask2_ok fun a0' a1' h => SaidOk.fn (Fun.weak (.cons (isNs.weak h.1) (.cons (isP.weak h.2.1) .nil)) (apply_spec _ _ h.2.2.1 h.2.2.2)))
theorem r112_c : r112.c = 112 := rfl
open Classical in
theorem r112_ask (a0' a1' : AV) : r112.ask [a0', a1'] = if isNs a0' ∧ isP a1' ∧ Tree.Ok (dNs a0') ∧ (dP a1').Ok then some (Said.fn (.tup [nodes (applyT (dNs a0') (dP a1')).1, .int .i64 (applyT (dNs a0') (dP a1')).2])) else none := by unfold r112 Reg.of ask2; exact ite_cl

theorem isNaN_spec (a : Int) : Fun seat 66 [.int .i64 a] (.bool false) := by
  refine Fun.of0R [] told66 (by simp [il66]) (by simp [idb_patchA]) (by simp [idb_patchA]) 4 ?_
  simp only [il66, List.zipIdx_cons, List.zipIdx_nil, leafA, innerA, nodeA, patchA, Leaf.cells, Inner.cells, Node.cells, go_sem, Nat.reduceEqDiff, reduceIte, Nat.reduceAdd, Nat.reduceLeDiff, Nat.reduceLT, Nat.reduceSub]
theorem isNaN2_spec (a : Int) : Fun seat 155 [.int .i64 a] (.bool false) := by
  refine Fun.of0R [] told155 (by simp [il155]) (by simp [idb_patchA]) (by simp [idb_patchA]) 4 ?_
  simp only [il155, List.zipIdx_cons, List.zipIdx_nil, leafA, innerA, nodeA, patchA, Leaf.cells, Inner.cells, Node.cells, go_sem, Nat.reduceEqDiff, reduceIte, Nat.reduceAdd, Nat.reduceLeDiff, Nat.reduceLT, Nat.reduceSub]
noncomputable def r66 : Reg seat := .of told66 (ask1 (fun a0' => isI a0') fun a0' => .fn (.bool false)) (ask1_ok fun a0' h => SaidOk.fn (Fun.weak (.cons (isI.weak h) .nil) (isNaN_spec _)))
theorem r66_c : r66.c = 66 := rfl
open Classical in
theorem r66_ask (a0' : AV) : r66.ask [a0'] = if isI a0' then some (Said.fn (.bool false)) else none := by unfold r66 Reg.of ask1; exact ite_cl
noncomputable def r155 : Reg seat := .of told155 (ask1 (fun a0' => isI a0') fun a0' => .fn (.bool false)) (ask1_ok fun a0' h => SaidOk.fn (Fun.weak (.cons (isI.weak h) .nil) (isNaN2_spec _)))
theorem r155_c : r155.c = 155 := rfl
open Classical in
theorem r155_ask (a0' : AV) : r155.ask [a0'] = if isI a0' then some (Said.fn (.bool false)) else none := by unfold r155 Reg.of ask1; exact ite_cl
theorem cmpLess_spec (a b : Int) : Fun seat 56 [.int .i64 a, .int .i64 b] (.bool (decide (a < b))) := by
  refine Fun.of0R [r66] told56 (by simp [il56]) (by simp [idb_patchA]) (by simp [idb_patchA]) 4 ?_
  simp only [il56, List.zipIdx_cons, List.zipIdx_nil, leafA, innerA, nodeA, patchA, Leaf.cells, Inner.cells, Node.cells, r66_c, r66_ask, go_sem, Nat.reduceEqDiff, reduceIte, Nat.reduceAdd, Nat.reduceLeDiff, Nat.reduceLT, Nat.reduceSub]
noncomputable def r56 : Reg seat := .of told56 (ask2 (fun a0' a1' => isI a0' ∧ isI a1') fun a0' a1' => .fn (.bool (decide ((dI a0') < (dI a1'))))) (ask2_ok fun a0' a1' h => SaidOk.fn (Fun.weak (.cons (isI.weak h.1) (.cons (isI.weak h.2) .nil)) (cmpLess_spec _ _)))
theorem r56_c : r56.c = 56 := rfl
open Classical in
theorem r56_ask (a0' a1' : AV) : r56.ask [a0', a1'] = if isI a0' ∧ isI a1' then some (Said.fn (.bool (decide ((dI a0') < (dI a1'))))) else none := by unfold r56 Reg.of ask2; exact ite_cl

/-- How many numbers of a list are below another one. -/
def below (l : List Int) (x : Int) : Nat := (l.filter fun y => decide (y < x)).length
theorem below_eq {l : List Int} (hr : Rises l) {x : Int} {i : Nat} (hi : i ≤ l.length) (h1 : ∀ j (h : j < l.length), j < i → l[j] < x) (h2 : ∀ j (h : j < l.length), i ≤ j → x ≤ l[j]) : below l x = i := by
  have e : l.filter (fun y => decide (y < x)) = l.take i := by
    conv => lhs; rw [← List.take_append_drop i l]
    rw [List.filter_append, List.filter_eq_self.2, List.filter_eq_nil_iff.2, List.append_nil]
    · intro y hy
      obtain ⟨j, hj, rfl⟩ := List.getElem_of_mem hy
      rw [List.getElem_drop]
      have := h2 (i + j) (by rw [List.length_drop] at hj; omega) (by omega)
      simpa using this
    · intro y hy
      obtain ⟨j, hj, rfl⟩ := List.getElem_of_mem hy
      rw [List.length_take] at hj
      rw [List.getElem_take]
      have := h1 j (by omega) (by omega)
      simpa using this
  rw [below, e, List.length_take]; omega
theorem below_le (l : List Int) (x : Int) : below l x ≤ l.length := List.length_filter_le _ _
theorem below_lt {l : List Int} (hr : Rises l) {x : Int} (hx : x ∈ l) : ∃ h : below l x < l.length, l[below l x] = x := by
  obtain ⟨i, hi, rfl⟩ := List.getElem_of_mem hx
  have e : below l l[i] = i := below_eq hr (by omega) (fun j h hj => List.pairwise_iff_getElem.1 hr j i h hi hj) fun j h hj => by
    rcases Nat.lt_or_eq_of_le hj with h1 | h1
    · exact Int.le_of_lt (List.pairwise_iff_getElem.1 hr i j hi h h1)
    · subst h1; exact Int.le_refl _
  exact ⟨by omega, by simp only [e]⟩

/-- slices.BinarySearch in a rising list. -/
theorem search_spec (l : List Int) (x : Int) (hs : Small l) (hr : Rises l) : Fun seat 140 [ints l, .int .i64 x] (.tup [.int .i64 (below l x), .bool (decide (x ∈ l))]) := by
  have hl : l.length ≤ 140737488355328 := hs
  have rs : ∀ i j (hi : i < l.length) (hj : j < l.length), i < j → l[i] < l[j] := fun i j hi hj h => List.pairwise_iff_getElem.1 hr i j hi hj h
  refine Fun.of0R [r155] told140 (by simp [il140]) (by simp [idb_patchA]) (by simp [idb_patchA]) 4 ?_
  simp only [il140, List.zipIdx_cons, List.zipIdx_nil, leafA, innerA, nodeA, patchA, Leaf.cells, Inner.cells, Node.cells, r155_c, r155_ask, go_sem, Nat.reduceEqDiff, reduceIte, Nat.reduceAdd, Nat.reduceLeDiff, Nat.reduceLT, Nat.reduceSub]
  refine WP.loop0 (fun s : Nat × Nat => s.1 ≤ s.2 ∧ s.2 ≤ l.length ∧ (∀ j (h : j < l.length), j < s.1 → l[j] < x) ∧ ∀ j (h : j < l.length), s.2 ≤ j → x ≤ l[j]) (fun s => [(0, ints l), (1, .int .i64 x), (6, .int .i64 l.length), (7, .int .i64 (s.1 : Nat)), (8, .int .i64 (s.2 : Nat))]) (fun s => s.2 - s.1) (0, l.length)
    ⟨Nat.zero_le _, Nat.le_refl _, fun j _ h => absurd h (Nat.not_lt_zero j), fun j h1 h2 => by omega⟩ (fun k _ => by simp ) (by simp ) ?_
  rintro ⟨i, j⟩ ⟨h1, h2, h3, h4⟩
  simp only at h1 h2 h3 h4
  refine wpc_soundR [r56] ?_
  by_cases hij : i < j
  · have hm : (i + j) / 2 < l.length := by omega
    have e1 : IntKind.i64.wrap (((i : Int) + j)) = ((i + j : Nat) : Int) := by rw [wrap64 _ (by omega) (by omega)]; omega
    have e2 : IntKind.u64.wrap ((i + j : Nat) : Int) = ((i + j : Nat) : Int) := wrapU64 _ (by omega) (by omega)
    have e3 : evShift .shr .u64 ((i + j : Nat) : Int) 1 = some (.int .u64 (((i + j) / 2 : Nat) : Int)) := by
      have : ((i + j : Nat) : Int).fdiv (2 ^ (min (1 : Int).toNat IntKind.u64.bits)) = (((i + j) / 2 : Nat) : Int) := by
        show ((i + j : Nat) : Int).fdiv 2 = _
        rw [Int.fdiv_eq_ediv_of_nonneg _ (by decide)]; omega
      simp only [evShift, this]; rfl
    have e4 : IntKind.i64.wrap (((i + j) / 2 : Nat) : Int) = (((i + j) / 2 : Nat) : Int) := wrap64 _ (by omega) (by omega)
    simp only [leafA, innerA, nodeA, patchA, Leaf.cells, Inner.cells, Node.cells, r56_c, r56_ask, e1, e2, e3, e4, fun H => index_ints H l ((i + j) / 2) hm, go_sem, Nat.reduceEqDiff, reduceIte, Nat.reduceAdd, Nat.reduceLeDiff, Nat.reduceLT, Nat.reduceSub]
    have rs1 := fun q (hq : q < l.length) => rs q ((i + j) / 2) hq hm
    have rs2 := fun q (hq : q < l.length) => rs ((i + j) / 2) q hm hq
    iterate 12 ((all_goals intros); (all_goals try refine And.intro ?_ ?_))
    · refine ⟨((i + j) / 2 + 1, j), ⟨by omega, h2, fun q hq hlt => ?_, h4⟩, by omega, ?_⟩
      · rcases Nat.lt_or_eq_of_le (show q ≤ (i + j) / 2 by omega) with h | h
        · have := rs1 q hq h; omega
        · subst h; assumption
      · simp only [List.mem_cons, List.not_mem_nil, or_false, forall_eq_or_imp, forall_eq, go_sem, Nat.reduceEqDiff, reduceIte, Nat.reduceAdd, Nat.reduceLeDiff, Nat.reduceLT, Nat.reduceSub, wrapS (show (i + j) / 2 < 9223372036854775807 by omega)]
    · refine ⟨(i, (i + j) / 2), ⟨by omega, by omega, h3, fun q hq hle => ?_⟩, by omega, ?_⟩
      · rcases Nat.lt_or_eq_of_le hle with h | h
        · have := rs2 q hq h; omega
        · subst h; show x ≤ l[(i + j) / 2]; omega
      · simp only [List.mem_cons, List.not_mem_nil, or_false, forall_eq_or_imp, forall_eq, go_sem, Nat.reduceEqDiff, reduceIte, Nat.reduceAdd, Nat.reduceLeDiff, Nat.reduceLT, Nat.reduceSub]
    all_goals omega
  · have hij' : j = i := by omega
    subst hij'
    have eb : below l x = j := below_eq hr h2 h3 h4
    rw [eb]
    by_cases hjl : j < l.length
    · have hmem : (x ∈ l) = (l[j] = x) := propext ⟨fun h => by
        obtain ⟨hlt, he⟩ := below_lt hr h
        simp only [eb] at he
        exact he, fun h => h ▸ List.getElem_mem hjl⟩
      simp only [leafA, innerA, nodeA, patchA, Leaf.cells, Inner.cells, Node.cells, r56_c, r56_ask, r155_c, r155_ask, fun H => index_ints H l j hjl, hmem, go_sem, Nat.reduceEqDiff, reduceIte, Nat.reduceAdd, Nat.reduceLeDiff, Nat.reduceLT, Nat.reduceSub]
      iterate 12 ((all_goals intros); (all_goals try refine And.intro ?_ ?_))
      all_goals first | (show WP _ _ _ _ _ _ _) | grind
    · have hmem : ¬ x ∈ l := fun h => by
        obtain ⟨hlt, he⟩ := below_lt hr h
        omega
      simp only [leafA, innerA, nodeA, patchA, Leaf.cells, Inner.cells, Node.cells, r56_c, r56_ask, r155_c, r155_ask, hmem, go_sem, Nat.reduceEqDiff, reduceIte, Nat.reduceAdd, Nat.reduceLeDiff, Nat.reduceLT, Nat.reduceSub]
      iterate 12 ((all_goals intros); (all_goals try refine And.intro ?_ ?_))
      all_goals first | (show WP _ _ _ _ _ _ _) | grind
noncomputable def r140 : Reg seat := .of told140 (ask2 (fun a0' a1' => isS a0' ∧ isI a1' ∧ Small (dO a0') ∧ Rises (dO a0')) fun a0' a1' => .fn (.tup [.int .i64 (below (dO a0') (dI a1')), .bool (decide ((dI a1') ∈ (dO a0')))])) (ask2_ok fun a0' a1' h => SaidOk.fn (Fun.weak (.cons (isS.weak h.1) (.cons (isI.weak h.2.1) .nil)) (search_spec _ _ h.2.2.1 h.2.2.2)))
theorem r140_c : r140.c = 140 := rfl
open Classical in
theorem r140_ask (a0' a1' : AV) : r140.ask [a0', a1'] = if isS a0' ∧ isI a1' ∧ Small (dO a0') ∧ Rises (dO a0') then some (Said.fn (.tup [.int .i64 (below (dO a0') (dI a1')), .bool (decide ((dI a1') ∈ (dO a0')))])) else none := by unfold r140 Reg.of ask2; exact ite_cl
end Go.Proofs.Ytikkcicghpkbgaa.Al
