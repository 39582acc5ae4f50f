/-
  SPECS: what is wrong with an inner node (the document's).
-/
import Derived.Test.YtihhinbjhiankaaGreatDoorAlS1
set_option linter.unusedSimpArgs false
set_option linter.unusedVariables false
namespace Go.Proofs.YtihhinbjhiankaaGreatDoor.Al
open Go
attribute [local go_sem] W_mv W_pick W_alloc W_box W_build W_bslice W_load W_store W_nilck W_bin W_isnil W_un W_convI W_convS W_mkiface W_mkfunc W_mkslice W_slice W_faddr W_field W_iaddr W_iaddrA W_idxA W_extract W_len W_lenS W_lenA W_min W_max W_append W_appendZ W_copy W_clear W_tassert W_invoke thenQ_normal thenQ_exit thenQ_goto thenQ_ret blockQ_normal blockQ_ret blockQ_goto blockQ_exit wpc_skip wpc_region wpc_draw wpc_seq wpc_cond wpc_block wpc_exit wpc_goto wpc_label wpc_ret wpc_loop wpc_range wpc_scope condW_true condW_false condW_dec condW_any W_nil W_call resW_some evalOp Opd.ev updo_envL updo_none setL_cons setL_nil envL_cons Option.map_some Option.bind_some evBin evInt List.map_cons List.map_nil Option.pure_def Option.bind_eq_bind W_grd' grdW_tt grdW_ff grdW_tf grdW_ft grdW_tup grdW_dt grdW_df lgrdW_tt lgrdW_ff lgrdW_tf lgrdW_ft lgrdW_tup lgrdW_dt lgrdW_df L_mv L_pick L_alloc L_box L_build L_bslice L_load L_store L_nilck L_bin L_isnil L_un L_convI L_convS L_mkiface L_mkfunc L_mkslice L_slice L_faddr L_field L_iaddr L_iaddrA L_idxA L_extract L_len L_lenS L_lenA L_min L_max L_append L_appendZ L_copy L_clear L_tassert L_nil L_call L_grd lresW_some upd_envL evUn beq_dec bne_dec leaves_ret1 leaves_end1 leaves_ret0 leaves_end0 leaves_ret2 leaves_ret3 rowLen_ints load_iptr0 not_dec heap_get0 heap_get1 heap_set0 heap_set1 heap_len1 heap_len2 heap_app heap_app2 bslice1_int seen_ints seen_one0 seen_one1 seen_one2 rowLen_own0 bslice0_int rowLen_own1 Nat.sub_zero Bool.not_true Bool.not_false List.length_nil List.length_cons List.nil_append List.cons_append Nat.zero_add load_iptrA canon_ptrI canon_bool canon_tup canon_agg canon_leafA canon_innerA canon_nodeA canon_ints' rowLen_ints0 seen_ints0 canon_ints0 rowLen_ints1 seen_ints1 canon_ints1 rowLen_ints2 seen_ints2 canon_ints2 rowLen_ints3 seen_ints3 canon_ints3 rowLen_octs seen_octs canon_octs' szOk_octs rowLen_octs0 seen_octs0 canon_octs0 rowLen_octs1 seen_octs1 canon_octs1 rowLen_octs2 seen_octs2 canon_octs2 rowLen_octs3 seen_octs3 canon_octs3 rowLen_intss seen_intss canon_intss' szOk_intss rowLen_intss0 seen_intss0 canon_intss0 rowLen_intss1 seen_intss1 canon_intss1 rowLen_intss2 seen_intss2 canon_intss2 rowLen_intss3 seen_intss3 canon_intss3 rowLen_octss seen_octss canon_octss' szOk_octss rowLen_octss0 seen_octss0 canon_octss0 rowLen_octss1 seen_octss1 canon_octss1 rowLen_octss2 seen_octss2 canon_octss2 rowLen_octss3 seen_octss3 canon_octss3 rowLen_nodes seen_nodes canon_nodes' szOk_nodes rowLen_nodes0 seen_nodes0 canon_nodes0 rowLen_nodes1 seen_nodes1 canon_nodes1 rowLen_nodes2 seen_nodes2 canon_nodes2 rowLen_nodes3 seen_nodes3 canon_nodes3 seen_list cells_int oneIn_int cells_bool oneIn_bool cells_str oneIn_str cells_list oneIn_list cells_func oneIn_func cells_nilfunc oneIn_nilfunc cells_iptr oneIn_iptr cells_iface oneIn_iface cells_nilIface oneIn_nilIface cells_own cells_ptr cells_anybool oneIn_anybool cells_agg oneIn_own0 oneIn_ptr0 seenL0 seenM0 oneIn_own1 oneIn_ptr1 seenL1 seenM1 oneIn_own2 oneIn_ptr2 seenL2 seenM2 oneIn_own3 oneIn_ptr3 seenL3 seenM3 oneIn_own4 oneIn_ptr4 seenL4 seenM4 oneIn_own5 oneIn_ptr5 seenL5 seenM5 cells_ints oneIn_ints cells_octs oneIn_octs cells_intss oneIn_intss cells_octss oneIn_octss cells_nodes oneIn_nodes ldB0 ldA0 adB0 stB0 ldB1 ldA1 adB1 stB1 ldB2 ldA2 adB2 stB2 ldB3 ldA3 adB3 stB3 ldB4 ldA4 adB4 stB4 ldB5 ldA5 adB5 stB5 List.getElem?_cons_zero List.getElem?_cons_succ beq_self_eq_true splice List.take_zero List.take_succ_cons List.drop_zero List.drop_succ_cons List.append_nil List.set_cons_zero List.set_cons_succ List.all_cons List.all_nil Bool.and_self and_self and_true true_and Nat.lt_irrefl Nat.zero_lt_one Nat.le_refl fillA evNil notA Bool.false_eq_true evMin_int evMax_int Option.map_none freezeP_all_nil freezeP_all_cons frzE_box frzE_arr frzE_dead foldA List.foldlM_cons List.foldlM_nil callW_f lcallW_f ansW_fn ansW_own lansW_fn lansW_own ansW_none lansW_none tab_cons tab_nil dI_int dB_bool dO_octs dO_ints dO_list dO_nil dOs_octss dOs_intss dOs_nil dLf_leafA dIn_innerA dN_nodeA dLf_agg dIn_agg dN_agg dNs_nodes dNs_list dNs_nil isI_int isU_int isB_bool isO_octs isO_nil isO_list isS_ints isS_nil isS_list isOs_octss isSs_intss isOs_nil isSs_nil isNs_nodes isNs_list isNs_nil isLf_leafA isIn_innerA isN_nodeA isLf_agg isIn_agg isN_agg leaf_eta inner_eta node_eta leaf_zero inner_zero node_zero dP_patchA dP_agg isP_patchA isP_agg patch_eta decide_eq_true_eq decide_eq_false_iff_not eq_self forall_const true_implies false_implies Bool.not_eq_true' Bool.not_eq_false' Bool.true_eq_false implies_true ne_eq ldI ldIA adI AV.tup.injEq AV.agg.injEq List.cons.injEq AV.int.injEq AV.bool.injEq nodes_inj octs_inj ints_inj nil_nodes nil_octs nil_ints canon_nilL decide_eq_decide two_ne four_ne b256_ne lendA_fn lendA_own lendA_none llendA_fn llendA_none plain_bool plain_int plain_tup2 isNs_own isO_own isS_own isOs_own false_and and_false Q_nil Q_l Q_g Q_h Q_grd qgrdW_b qgrdW_tup lightD_some heavyD_some readD_some fnD_some fnD_own fnD_none callL_f ownH_some callH_f litD_some litE_some Q_call Q_bslice H_call pendOk_nil pendOk_cons pastOk_nil pastOk_cons Q_mv Q_pick Q_bin Q_un Q_convI Q_mkfunc Q_extract Q_min Q_max Q_lenS Q_lenA Q_field Q_idxA Q_mkiface Q_tassert Q_alloc Q_box Q_store Q_mkslice Q_append Q_appendZ Q_copy Q_clear Q_build Q_load Q_nilck Q_isnil Q_convS Q_slice Q_faddr Q_iaddr Q_iaddrA Q_len H_alloc H_box H_bslice H_store H_mkslice H_append H_appendZ H_copy H_clear free_mv free_pick free_bin free_un free_convI free_mkfunc free_extract free_min free_max free_lenS free_lenA free_field free_idxA free_mkiface free_tassert free_build free_load free_nilck free_isnil free_convS free_slice free_faddr free_iaddr free_iaddrA free_len callW_y List.length_map List.length_set leaves_r evR_some evRess1 evRess2 evRess3 evRes_t evRes_c nz_kind nz_enc nz_cred nz_source nz_parent nz_ienc nz_hash nz_un true_or or_true bsl_node idbs_node idbs_int appN appI appO ixo_nodes canon_row canon_rowI canon_rowO not_false_eq_true not_true_eq_false ldE_a ldE_c adE_b stE_b onE_a onP_b bsl_zero idbs_zero appN_zero
attribute [local go_sem low] condW_b grdW_b lgrdW_b ldP adP stP onO onPt
attribute [local simp] envL_cons envL_nil idb_int idb_bool idb_str idb_ints idb_nil idb_own idb_ptr entB_ints' idb_octs entB_octs idb_intss entB_intss idb_octss entB_octss idb_nodes entB_nodes idb_leafA idb_innerA idb_nodeA idb_agg idb_tup idb_iptr idb_fn idb_undef entB_dead entB_box

theorem inner3 (l : List Int) : (∃ i ∈ l, i < 0 ∨ i > 63) = ∃ j, ∃ h : j < l.length, l[j] < 0 ∨ l[j] > 63 := by
  apply propext
  constructor
  · rintro ⟨i, hi, h⟩
    obtain ⟨j, hj, rfl⟩ := List.getElem_of_mem hi
    exact ⟨j, hj, h⟩
  · rintro ⟨j, hj, h⟩
    exact ⟨_, List.getElem_mem hj, h⟩
theorem inner8 (l : List Int) : (rise l ≠ l) = ∃ j, ∃ h : j + 1 < l.length, l[j] ≥ l[j + 1] := by
  apply propext
  rw [ne_eq, rise_eq_iff, rises_iff_step]
  simp only [Classical.not_forall, Int.not_lt, ge_iff_le]

theorem innerCheck5 (l : Inner) (h : l.enc.length = 0) : innerCheck l = 5 := by rw [innerCheck, if_pos h]
theorem innerCheck4 (l : Inner) (h : ¬ l.enc.length = 0) (h1 : l.enc.length > 200 ∨ l.hash.length > 200 ∨ l.unmerged.length > 64) : innerCheck l = 4 := by rw [innerCheck, if_neg h, if_pos h1]
theorem innerCheck3 (l : Inner) (h : ¬ l.enc.length = 0) (h1 : ¬ (l.enc.length > 200 ∨ l.hash.length > 200 ∨ l.unmerged.length > 64)) (k : Nat) (hk : k < l.unmerged.length) (h2 : l.unmerged[k] < 0 ∨ l.unmerged[k] > 63) : innerCheck l = 3 := by
  rw [innerCheck, if_neg h, if_neg h1, if_pos]
  exact ⟨_, List.getElem_mem hk, h2⟩
theorem innerCheck8 (l : Inner) (h : ¬ l.enc.length = 0) (h1 : ¬ (l.enc.length > 200 ∨ l.hash.length > 200 ∨ l.unmerged.length > 64)) (h2 : ∀ j (h : j < l.unmerged.length), ¬ (l.unmerged[j] < 0 ∨ l.unmerged[j] > 63)) (k : Nat) (hk : k + 1 < l.unmerged.length) (h3 : l.unmerged[k] ≥ l.unmerged[k + 1]) : innerCheck l = 8 := by
  rw [innerCheck, if_neg h, if_neg h1, if_neg, if_pos]
  · rw [inner8]; exact ⟨k, hk, h3⟩
  · rw [inner3]; rintro ⟨j, hj, hh⟩; exact h2 j hj hh
theorem innerCheck0 (l : Inner) (h : ¬ l.enc.length = 0) (h1 : ¬ (l.enc.length > 200 ∨ l.hash.length > 200 ∨ l.unmerged.length > 64)) (h2 : ∀ j (h : j < l.unmerged.length), ¬ (l.unmerged[j] < 0 ∨ l.unmerged[j] > 63)) (h3 : ∀ j (h : j + 1 < l.unmerged.length), l.unmerged[j] < l.unmerged[j + 1]) : innerCheck l = 0 := by
  rw [innerCheck, if_neg h, if_neg h1, if_neg, if_neg]
  · rw [inner8]; rintro ⟨j, hj, hh⟩; have := h3 j hj; omega
  · rw [inner3]; rintro ⟨j, hj, hh⟩; exact h2 j hj hh

theorem refInnerCheck_spec (l : Inner) (hl : l.Ok) : Fun seat 165 [innerA l] (.int .i64 (innerCheck l)) := by
  have hu := hl.unmerged.len
  have c5 := innerCheck5 l
  have c4 := innerCheck4 l
  have c3 := innerCheck3 l
  have c8 := innerCheck8 l
  have c0 := innerCheck0 l
  generalize innerCheck l = r at *
  refine Fun.of0R [] told165 (by simp [il165]) (by simp [idb_patchA]) (by simp [idb_patchA]) 4 ?_
  simp only [il165, List.zipIdx_cons, List.zipIdx_nil, leafA, innerA, nodeA, patchA, Leaf.cells, Inner.cells, Node.cells, go_sem, Nat.reduceEqDiff, reduceIte, Nat.reduceAdd, Nat.reduceLeDiff, Nat.reduceLT, Nat.reduceSub]
  iterate 12 ((all_goals intros); (all_goals try refine And.intro ?_ ?_))
  all_goals first | (show WP _ _ _ _ _ _ _) | grind
  have h0 : ¬ l.enc.length = 0 := by omega
  have h1 : ¬ (l.enc.length > 200 ∨ l.hash.length > 200 ∨ l.unmerged.length > 64) := by omega
  replace c3 := c3 h0 h1
  replace c8 := c8 h0 h1
  replace c0 := c0 h0 h1
  refine WP.loopG (fun k => k ≤ l.unmerged.length ∧ ∀ j (h : j < l.unmerged.length), j < k → ¬ (l.unmerged[j] < 0 ∨ l.unmerged[j] > 63)) (fun k => [(1, .ptr 0 0), (3, .int .i64 k)]) (fun k => [.box [octs l.enc, octs l.hash, ints l.unmerged]]) (fun k => l.unmerged.length - k) 0 ⟨Nat.zero_le _, fun j _ h => absurd h (Nat.not_lt_zero j)⟩ (fun k _ => by simp [idb_patchA]) (by simp ) ?_
  rintro k ⟨hk, hno⟩
  refine wpc_soundR [] ?_
  simp only [leafA, innerA, nodeA, patchA, Leaf.cells, Inner.cells, Node.cells, go_sem, Nat.reduceEqDiff, reduceIte, Nat.reduceAdd, Nat.reduceLeDiff, Nat.reduceLT, Nat.reduceSub]
  refine ⟨fun hlt => ?_, fun hge => ?_⟩
  · have hk' : k < l.unmerged.length := by omega
    simp only [leafA, innerA, nodeA, patchA, Leaf.cells, Inner.cells, Node.cells, fun H => index_ints H l.unmerged k hk', go_sem, Nat.reduceEqDiff, reduceIte, Nat.reduceAdd, Nat.reduceLeDiff, Nat.reduceLT, Nat.reduceSub]
    replace c3 := c3 k hk'
    clear c8 c0
    iterate 12 ((all_goals intros); (all_goals try refine And.intro ?_ ?_))
    all_goals first | (show WP _ _ _ _ _ _ _) | exact ⟨k + 1, ⟨hk', scanS hno fun _ => by grind⟩, by omega, by simp [wrapS (show k < 9223372036854775807 by omega)]⟩ | grind
  · have hno1 := scanE hno hge
    clear hno hge hk c3
    replace c8 := c8 hno1
    replace c0 := c0 hno1
    refine WP.loopG (fun k => k ≤ l.unmerged.length ∧ ∀ j (h : j < l.unmerged.length - 1), j < k → l.unmerged[j] < l.unmerged[j + 1]) (fun k => [(1, .ptr 0 0), (4, .int .i64 (k + 1 : Nat))]) (fun _ => [.box [octs l.enc, octs l.hash, ints l.unmerged]]) (fun k => l.unmerged.length - k) 0 ⟨Nat.zero_le _, fun j _ h => by omega⟩
      (fun k _ => by simp ) (by simp ) ?_
    rintro k ⟨hk, hno⟩
    refine wpc_soundR [] ?_
    simp only [leafA, innerA, nodeA, patchA, Leaf.cells, Inner.cells, Node.cells, go_sem, Nat.reduceEqDiff, reduceIte, Nat.reduceAdd, Nat.reduceLeDiff, Nat.reduceLT, Nat.reduceSub]
    refine ⟨fun hlt => ?_, fun hge => ?_⟩
    · have hk' : k + 1 < l.unmerged.length := by omega
      refine WP.drawR [] mixed (by decide) ?_
      simp only [leafA, innerA, nodeA, patchA, Leaf.cells, Inner.cells, Node.cells, fun H => index_ints H l.unmerged k (by omega), fun H => index_ints H l.unmerged (k + 1) hk', show IntKind.i64.wrap (((k + 1 : Nat) : Int) - 1) = (k : Int) by rw [wrap64 _ (by omega) (by omega)]; omega, go_sem, Nat.reduceEqDiff, reduceIte, Nat.reduceAdd, Nat.reduceLeDiff, Nat.reduceLT, Nat.reduceSub]
      replace c8 := c8 k hk'
      clear c0
      iterate 12 ((all_goals intros); (all_goals try refine And.intro ?_ ?_))
      all_goals first | exact ⟨k + 1, ⟨by omega, scanS hno fun _ => by omega⟩, by omega, by simp [wrap64s ((k : Int) + 1 + 1) (by omega)]⟩ | grind
    · exact (c0 fun j hj => hno j (by omega) (by omega)).symm
noncomputable def r165 : Reg seat := .of told165 (ask1 (fun a0' => isIn a0' ∧ (dIn a0').Ok) fun a0' => .fn (.int .i64 (innerCheck (dIn a0')))) (ask1_ok fun a0' h => SaidOk.fn (Fun.weak (.cons (isIn.weak h.1) .nil) (refInnerCheck_spec _ h.2)))
theorem r165_c : r165.c = 165 := rfl
open Classical in
theorem r165_ask (a0' : AV) : r165.ask [a0'] = if isIn a0' ∧ (dIn a0').Ok then some (Said.fn (.int .i64 (innerCheck (dIn a0')))) else none := by unfold r165 Reg.of ask1; exact ite_cl
end Go.Proofs.YtihhinbjhiankaaGreatDoor.Al
