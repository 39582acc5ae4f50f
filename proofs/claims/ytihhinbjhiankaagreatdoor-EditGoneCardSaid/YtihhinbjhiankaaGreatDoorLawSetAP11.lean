/-
  JOINED: S14, IlsF, S45, Q12, IlsG, S41, IlsJ, S44
-/
import Derived.Test.YtihhinbjhiankaaGreatDoorLawSetAP10
import Derived.Test.YtihhinbjhiankaaGreatDoorLawSetAP3
import Derived.Test.YtihhinbjhiankaaGreatDoorLawSetAP4
import Derived.Test.YtihhinbjhiankaaGreatDoorLawSetAP9
import Derived.Test.YtihhinbjhiankaaGreatDoorLawSetAP7
import Derived.Test.YtihhinbjhiankaaGreatDoorLawSetAP8
set_option linter.unusedSimpArgs false
set_option linter.unusedVariables false
namespace Go.Proofs.YtihhinbjhiankaaGreatDoor.Al
open Go
attribute [local go_sem] W_mv W_pick W_alloc W_box W_build W_bslice W_load W_store W_bin W_isnil W_un W_convI W_convS W_mkfunc W_mkslice W_slice W_faddr W_field W_iaddr W_extract W_len W_min W_append W_appendZ W_copy W_invoke thenQ_normal thenQ_exit thenQ_goto thenQ_ret blockQ_normal blockQ_ret blockQ_goto blockQ_exit wpc_skip wpc_region wpc_draw wpc_seq wpc_cond wpc_block wpc_exit wpc_goto wpc_label wpc_ret wpc_loop wpc_range wpc_scope condW_true condW_false condW_dec condW_any W_nil W_call resW_some evalOp Opd.ev updo_envL updo_none setL_cons setL_nil envL_cons Option.map_some Option.bind_some evBin evInt List.map_cons List.map_nil Option.pure_def Option.bind_eq_bind W_grd' grdW_tt grdW_ff grdW_tf grdW_ft grdW_tup grdW_dt grdW_df lgrdW_tup L_mv L_load L_bin L_un L_faddr L_iaddr L_nil L_call lresW_some upd_envL evUn beq_dec bne_dec leaves_ret1 leaves_ret0 leaves_end0 rowLen_ints load_iptr0 not_dec heap_get0 heap_get1 heap_set0 heap_set1 heap_len1 heap_app bslice1_int seen_ints seen_one0 Nat.sub_zero Bool.not_true Bool.not_false List.length_nil List.length_cons List.nil_append List.cons_append Nat.zero_add load_iptrA canon_ptrI canon_bool canon_tup canon_agg canon_ints' canon_ints0 rowLen_octs seen_octs canon_octs' seen_intss seen_octss rowLen_nodes seen_nodes canon_nodes' rowLen_nodes0 rowLen_nodes1 seen_list cells_int oneIn_int cells_bool oneIn_bool cells_str oneIn_str cells_list oneIn_list cells_func oneIn_func cells_nilfunc oneIn_nilfunc cells_iptr oneIn_iptr cells_iface oneIn_iface cells_nilIface oneIn_nilIface cells_own cells_ptr cells_anybool oneIn_anybool cells_agg oneIn_own0 oneIn_own1 oneIn_own3 oneIn_own4 oneIn_own5 cells_ints oneIn_ints cells_octs oneIn_octs cells_intss oneIn_intss cells_octss oneIn_octss cells_nodes oneIn_nodes ldB0 ldA0 adB0 stB0 ldB1 ldA1 adB1 stB1 ldB2 ldA2 adB2 stB2 ldB3 ldA3 adB3 stB3 ldB4 ldA4 adB4 stB4 ldB5 ldA5 adB5 stB5 List.getElem?_cons_zero List.getElem?_cons_succ beq_self_eq_true splice List.take_zero List.take_succ_cons List.drop_zero List.drop_succ_cons List.append_nil List.set_cons_zero List.set_cons_succ List.all_cons List.all_nil Bool.and_self and_self and_true true_and Nat.lt_irrefl Nat.zero_lt_one Nat.le_refl fillA evNil notA Bool.false_eq_true evMin_int evMax_int Option.map_none freezeP_all_nil freezeP_all_cons frzE_box frzE_arr frzE_dead foldA List.foldlM_cons List.foldlM_nil callW_f lcallW_f ansW_fn ansW_own lansW_fn lansW_own ansW_none lansW_none tab_cons tab_nil dI_int dB_bool dO_octs dO_ints dO_nil dOs_nil dN_nodeA dLf_agg dIn_agg dN_agg dNs_nodes dNs_nil isI_int isO_octs isO_nil isS_ints isS_nil isNs_nodes isNs_nil isLf_agg isIn_agg isN_agg leaf_eta inner_eta node_eta leaf_zero inner_zero node_zero dP_agg isP_agg patch_eta decide_eq_true_eq decide_eq_false_iff_not eq_self forall_const true_implies false_implies Bool.not_eq_true' Bool.not_eq_false' Bool.true_eq_false implies_true ne_eq ldI ldIA adI AV.tup.injEq AV.agg.injEq List.cons.injEq AV.int.injEq AV.bool.injEq nodes_inj octs_inj ints_inj nil_nodes nil_octs nil_ints canon_nilL decide_eq_decide two_ne lendA_fn lendA_own lendA_none llendA_fn llendA_none plain_bool plain_int isNs_own isS_own false_and and_false Q_nil Q_l Q_g Q_h qgrdW_b qgrdW_tup lightD_some heavyD_some readD_some fnD_some fnD_own fnD_none callL_f ownH_some callH_f litD_some litE_some Q_call Q_bslice H_call pendOk_nil pendOk_cons pastOk_nil pastOk_cons Q_mv Q_pick Q_bin Q_un Q_convI Q_mkfunc Q_extract Q_min Q_max Q_lenS Q_lenA Q_field Q_idxA Q_mkiface Q_tassert Q_alloc Q_box Q_store Q_mkslice Q_append Q_appendZ Q_copy Q_clear Q_build Q_load Q_nilck Q_isnil Q_convS Q_slice Q_faddr Q_iaddr Q_iaddrA Q_len H_alloc H_box H_bslice H_store H_mkslice H_append H_appendZ H_copy H_clear free_mv free_pick free_bin free_un free_convI free_mkfunc free_extract free_min free_max free_lenS free_lenA free_field free_idxA free_mkiface free_tassert free_build free_load free_nilck free_isnil free_convS free_slice free_faddr free_iaddr free_iaddrA free_len callW_y List.length_map List.length_set leaves_r evR_some evRess1 evRess2 evRess3 evRes_t evRes_c nz_kind nz_enc nz_cred nz_source nz_parent nz_ienc nz_hash nz_un true_or or_true bsl_node idbs_node idbs_int appN appI ixo_nodes canon_row canon_rowI canon_rowO not_false_eq_true not_true_eq_false ldE_a ldE_c adE_b stE_b onE_a onP_b bsl_zero idbs_zero appN_zero
attribute [local go_sem low] condW_b grdW_b lgrdW_b ldP adP stP onO onPt
attribute [local simp] envL_cons envL_nil idb_int idb_bool idb_ints idb_nil idb_own idb_ptr idb_octs idb_nodes idb_leafA idb_innerA idb_nodeA idb_agg idb_tup idb_iptr idb_fn entB_dead entB_box
def tA : List Node := [leaf7]
def tB : List Node := [leaf7, .zero, leaf7]
theorem tA_ok : Tree.Ok tA := ⟨by simp [Small, tA], by simp [tA, leaf7_ok]⟩
theorem tB_ok : Tree.Ok tB := ⟨by simp [Small, tB], by simp [tB, Node.Ok.zero, leaf7_ok]⟩
theorem awake20_facts : makeT tA tB = ⟨3, [2], [leaf7]⟩ ∧ placesT tA tB = [2] ∧ applyT tA ⟨3, [2], [leaf7]⟩ = (tB, 0) ∧ makeT tB tA = ⟨1, [], []⟩ ∧ makeT tA tA = ⟨1, [], []⟩ ∧ joinT ⟨3, [2], [leaf7]⟩ ⟨1, [], []⟩ = (⟨1, [], []⟩, 0) := by
  refine ⟨?_, ?_, ?_, ?_, ?_, ?_⟩ <;> decide +kernel
theorem bsl_tB (H : List Entry) : evBslice H 8 3 (.agg [.int .i64 0, .list true [], .list true [], .int .i64 0, .list true [], .list true [], .list true [], .list true []]) [(0, .agg [.int .i64 leaf7.kind, octs leaf7.leaf.enc, octs leaf7.leaf.cred, .int .i64 leaf7.leaf.source, octs leaf7.leaf.parent, octs leaf7.inner.enc, octs leaf7.inner.hash, ints leaf7.inner.unmerged]), (1, .agg [.int .i64 0, .list true [], .list true [], .int .i64 0, .list true [], .list true [], .list true [], .list true []]), (2, .agg [.int .i64 leaf7.kind, octs leaf7.leaf.enc, octs leaf7.leaf.cred, .int .i64 leaf7.leaf.source, octs leaf7.leaf.parent, octs leaf7.inner.enc, octs leaf7.inner.hash, ints leaf7.inner.unmerged])] = some (.own H.length 0 0 3, H ++ [.arr 8 0 [.agg [.int .i64 leaf7.kind, octs leaf7.leaf.enc, octs leaf7.leaf.cred, .int .i64 leaf7.leaf.source, octs leaf7.leaf.parent, octs leaf7.inner.enc, octs leaf7.inner.hash, ints leaf7.inner.unmerged], .agg [.int .i64 0, .list true [], .list true [], .int .i64 0, .list true [], .list true [], .list true [], .list true []], .agg [.int .i64 leaf7.kind, octs leaf7.leaf.enc, octs leaf7.leaf.cred, .int .i64 leaf7.leaf.source, octs leaf7.leaf.parent, octs leaf7.inner.enc, octs leaf7.inner.hash, ints leaf7.inner.unmerged]]]) := (rfl)
theorem frzE_frz' (a b : Nat) (c : List AV) : (Entry.frz a b c).frzE = .frz a b c := (rfl)
theorem awake20_spec : Fun seat 110 [] (.bool true) := by
  obtain ⟨f1, f2, f3, f4, f5, f6⟩ := awake20_facts
  refine Fun.of0W told110 (by simp [il110]) (by simp) (by simp ) 4 ?_
  simp only [il110, List.zipIdx_nil, List.map_nil]
  refine WP.seqR [] fun K hK => ?_
  simp only [go_sem, Nat.reduceEqDiff, reduceIte, Nat.reduceAdd, Nat.reduceLeDiff, Nat.reduceLT, Nat.reduceSub]
  refine hK _ (WP.seqR [] ?_)
  clear hK K; intro K hK
  simp only [leafA, innerA, nodeA, patchA, Leaf.cells, Inner.cells, Node.cells, go_sem, Nat.reduceEqDiff, reduceIte, Nat.reduceAdd, Nat.reduceLeDiff, Nat.reduceLT, Nat.reduceSub]
  refine hK _ (WP.freeze all (WP.derefB 1 2 rfl ?_))
  clear hK K
  refine WP.weakL [(1, .ptr 1 0)] ?_ ?_
  · simp only [envL_cons, Nat.reduceEqDiff, reduceIte, List.mem_cons, List.not_mem_nil, or_false, forall_eq_or_imp, forall_eq, weak_refl, and_self]
  have e : ((freezeP all [Entry.arr 1 0 [AV.int .u8 7], .box [.int .i64 1, .own 0 0 0 1, .list true [], .int .i64 1, .list true [], .list true [], .list true [], .list true []]]).set 1
    (.box ([AV.int .i64 1, .own 0 0 0 1, .list true [], .int .i64 1, .list true [], .list true [], .list true [], .list true []].map (derefN (freezeP all [Entry.arr 1 0 [AV.int .u8 7], .box [.int .i64 1, .own 0 0 0 1, .list true [], .int .i64 1, .list true [], .list true [], .list true [], .list true []]]) 2)))) =
    [.frz 1 0 [AV.int .u8 7], .box [.int .i64 leaf7.kind, octs leaf7.leaf.enc, octs leaf7.leaf.cred, .int .i64 leaf7.leaf.source, octs leaf7.leaf.parent, octs leaf7.inner.enc, octs leaf7.inner.hash, ints leaf7.inner.unmerged]] := rfl
  rw [e]
  refine WP.seqR [] fun K hK => ?_
  simp only [leafA, innerA, nodeA, patchA, Leaf.cells, Inner.cells, Node.cells, go_sem, Nat.reduceEqDiff, reduceIte, Nat.reduceAdd, Nat.reduceLeDiff, Nat.reduceLT, Nat.reduceSub]
  refine hK _ (WP.freeze all (WP.deref 2 1 ?_))
  clear hK K e
  have rA := frz_rowN (H := [.frz 1 0 [AV.int .u8 7], .box [.int .i64 leaf7.kind, octs leaf7.leaf.enc, octs leaf7.leaf.cred, .int .i64 leaf7.leaf.source, octs leaf7.leaf.parent, octs leaf7.inner.enc, octs leaf7.inner.hash, ints leaf7.inner.unmerged], .frz 8 0 [.agg [.int .i64 leaf7.kind, octs leaf7.leaf.enc, octs leaf7.leaf.cred, .int .i64 leaf7.leaf.source, octs leaf7.leaf.parent, octs leaf7.inner.enc, octs leaf7.inner.hash, ints leaf7.inner.unmerged]]]) (id := 2) (ver := 0) (k := 0) (l := tA) rfl
  rw [show tA.length = 1 from rfl] at rA
  refine WP.weakL [(1, .ptr 1 0), (2, nodes tA)] ?_ ?_
  · simp only [upd_envL, freezeP_all_cons, freezeP_all_nil, frzE_frz', frzE_box, frzE_arr, envL_cons, Nat.reduceEqDiff, reduceIte, rA, List.mem_cons, List.not_mem_nil, or_false, forall_eq_or_imp, forall_eq, weak_refl, and_self]
  simp only [freezeP_all_cons, freezeP_all_nil, frzE_frz', frzE_box, frzE_arr]
  refine WP.seqR [] fun K hK => ?_
  simp only [leafA, innerA, nodeA, patchA, Leaf.cells, Inner.cells, Node.cells, bsl_tB, go_sem, Nat.reduceEqDiff, reduceIte, Nat.reduceAdd, Nat.reduceLeDiff, Nat.reduceLT, Nat.reduceSub]
  refine hK _ (WP.freeze all (WP.deref 3 3 ?_))
  clear hK K rA
  have rB : derefN [.frz 1 0 [AV.int .u8 7], .box [.int .i64 leaf7.kind, octs leaf7.leaf.enc, octs leaf7.leaf.cred, .int .i64 leaf7.leaf.source, octs leaf7.leaf.parent, octs leaf7.inner.enc, octs leaf7.inner.hash, ints leaf7.inner.unmerged], .frz 8 0 [.agg [.int .i64 leaf7.kind, octs leaf7.leaf.enc, octs leaf7.leaf.cred, .int .i64 leaf7.leaf.source, octs leaf7.leaf.parent, octs leaf7.inner.enc, octs leaf7.inner.hash, ints leaf7.inner.unmerged]], .frz 8 0 [.agg [.int .i64 leaf7.kind, octs leaf7.leaf.enc, octs leaf7.leaf.cred, .int .i64 leaf7.leaf.source, octs leaf7.leaf.parent, octs leaf7.inner.enc, octs leaf7.inner.hash, ints leaf7.inner.unmerged], .agg [.int .i64 0, .list true [], .list true [], .int .i64 0, .list true [], .list true [], .list true [], .list true []], .agg [.int .i64 leaf7.kind, octs leaf7.leaf.enc, octs leaf7.leaf.cred, .int .i64 leaf7.leaf.source, octs leaf7.leaf.parent, octs leaf7.inner.enc, octs leaf7.inner.hash, ints leaf7.inner.unmerged]]] 3 (.own 3 0 0 3) = nodes tB := rfl
  refine WP.weakL [(2, nodes tA), (3, nodes tB)] ?_ ?_
  · simp only [upd_envL, freezeP_all_cons, freezeP_all_nil, frzE_frz', frzE_box, frzE_arr, envL_cons, Nat.reduceEqDiff, reduceIte, rB, List.mem_cons, List.not_mem_nil, or_false, forall_eq_or_imp, forall_eq, weak_refl, and_self]
  simp only [freezeP_all_cons, freezeP_all_nil, frzE_frz', frzE_box, frzE_arr]
  clear rB
  have oA := tA_ok
  have oB := tB_ok
  refine WP.seqR [r119] fun K hK => ?_
  simp only [leafA, innerA, nodeA, patchA, Leaf.cells, Inner.cells, Node.cells, r119_c, r119_ask, oA, oB, f1, go_sem, Nat.reduceEqDiff, reduceIte, Nat.reduceAdd, Nat.reduceLeDiff, Nat.reduceLT, Nat.reduceSub]
  refine hK _ (WP.seqR [r112] ?_)
  clear hK K; intro K hK
  have oP : Patch.Ok ⟨3, [2], [leaf7]⟩ := by rw [← f1]; exact makeT_ok oB
  simp only [leafA, innerA, nodeA, patchA, Leaf.cells, Inner.cells, Node.cells, r112_c, r112_ask, oA, oP, f3, go_sem, Nat.reduceEqDiff, reduceIte, Nat.reduceAdd, Nat.reduceLeDiff, Nat.reduceLT, Nat.reduceSub]
  refine hK _ (WP.seqR [] ?_)
  clear hK K; intro K hK
  refine WP.drawQ [r119, r114] [.g 0 1, .l, .l, .l, .l, .l, .l, .l, .h 0, .h 1, .l] mixed (by decide) ?_
  have oQ : Patch.Ok ⟨1, [], []⟩ := by rw [← f5]; exact makeT_ok oA
  simp only [leafA, innerA, nodeA, patchA, Leaf.cells, Inner.cells, Node.cells, r119_c, r119_ask, r114_c, r114_ask, oA, oB, oP, oQ, f4, f6, go_sem, Nat.reduceEqDiff, reduceIte, Nat.reduceAdd, Nat.reduceLeDiff, Nat.reduceLT, Nat.reduceSub]
  refine hK _ (wpc_soundR [r119, r35, r116, r106] ?_)
  clear hK K
  have n2 : Nums [2] := by rw [← f2]; exact nums_up _ _ (known_len tB)
  have c6 : ∀ (e0 e1 e2 e3 e4 e5 : Entry) (n : Int), canon [e0, e1, e2, e3, e4, e5, .arr 1 0 [AV.int .i64 n]] 2 (.own 6 0 0 1) = ints [n] := fun e0 e1 e2 e3 e4 e5 n => canon_rowI (H := [e0, e1, e2, e3, e4, e5, .arr 1 0 [AV.int .i64 n]]) (l := [n]) rfl
  have c7 : ∀ (e0 e1 e2 e3 e4 e5 e6 : Entry) (n : Int), canon [e0, e1, e2, e3, e4, e5, e6, .arr 1 0 [AV.int .i64 n]] 2 (.own 7 0 0 1) = ints [n] := fun e0 e1 e2 e3 e4 e5 e6 n => canon_rowI (H := [e0, e1, e2, e3, e4, e5, e6, .arr 1 0 [AV.int .i64 n]]) (l := [n]) rfl
  simp -implicitDefEqProofs only [leafA, innerA, nodeA, patchA, Leaf.cells, Inner.cells, Node.cells, r119_c, r119_ask, r35_c, r35_ask, r116_c, r116_ask, r106_c, r106_ask, oA, oB, f5, f2, n2, List.length_nil, Int.natCast_zero, c6, c7, go_sem, Nat.reduceEqDiff, reduceIte, Nat.reduceAdd, Nat.reduceLeDiff, Nat.reduceLT, Nat.reduceSub]
noncomputable def r110 : Reg seat := .of told110 (ask0 (.fn (.bool true))) (ask0_ok (SaidOk.fn (awake20_spec)))
theorem r110_c : r110.c = 110 := rfl
theorem r110_ask : r110.ask [] = some (.fn (.bool true)) := rfl
end Go.Proofs.YtihhinbjhiankaaGreatDoor.Al

namespace Go.Proofs.YtihhinbjhiankaaGreatDoor.Al
open Go

def il313 : IFn := ⟨86, [(.t 6)], (.seq (.region [⟨(some 5), (.box (.t 2)), none, []⟩, ⟨(some 6), (.mv (.c (.bool false))), none, []⟩] false) (.seq (.region [⟨(some 15), (.call (.f 110) []), none, []⟩, ⟨(some 7), (.mv (.t 15)), none, [0, 0, 0]⟩] false) (.seq (.seq (.region [⟨(some 16), (.mv (.t 0)), none, []⟩, ⟨(some 17), (.call (.f 100) [(.t 16)]), none, [0]⟩, ⟨(some 18), (.un .not (.t 17)), none, [1]⟩, ⟨(some 19), (.mv (.t 18)), none, [2, 1]⟩, ⟨(some 20), (.mv (.t 0)), (some (19, false)), [3]⟩, ⟨(some 21), (.call (.f 101) [(.t 20)]), (some (19, false)), [4, 3, 3]⟩, ⟨(some 22), (.un .not (.t 21)), (some (19, false)), [5, 3]⟩, ⟨(some 23), (.pick (.t 19) (.c (.bool true)) (.t 22)), none, [3, 6]⟩] false) (.cond (.t 23) (.seq (.region [⟨(some 24), (.mv (.t 7)), none, []⟩, ⟨(some 6), (.mv (.t 24)), none, [0, 0]⟩] false) .ret) .skip)) (.seq (.region [⟨(some 26), (.mv (.t 0)), none, []⟩, ⟨(some 27), (.load true 4 (.t 5)), none, []⟩, ⟨(some 28), (.call (.f 322) [(.t 26), (.t 27)]), none, [0, 1]⟩, ⟨(some 25), (.mv (.t 28)), none, [2]⟩, ⟨(some 29), (.extract (.t 25) 0), none, [3]⟩, ⟨(some 30), (.extract (.t 25) 1), none, [3]⟩, ⟨(some 31), (.extract (.t 25) 2), none, [3]⟩, ⟨(some 8), (.mv (.t 29)), none, [4, 2, 0, 1, 2, 3, 4]⟩, ⟨(some 9), (.mv (.t 30)), none, [5, 7, 0, 1, 2, 3, 4, 5, 7]⟩, ⟨(some 10), (.mv (.t 31)), none, [6, 8, 0, 1, 2, 3, 4, 5, 6, 7, 8]⟩] false) (.seq (.region [⟨(some 33), (.mv (.t 0)), none, []⟩, ⟨(some 34), (.mv (.t 1)), none, []⟩, ⟨(some 35), (.call (.f 323) [(.t 33), (.t 34)]), none, [0, 1]⟩, ⟨(some 32), (.mv (.t 35)), none, [2]⟩, ⟨(some 36), (.extract (.t 32) 0), none, [3]⟩, ⟨(some 37), (.extract (.t 32) 1), none, [3]⟩, ⟨(some 11), (.mv (.t 36)), none, [4, 2, 0, 1, 2, 3, 4]⟩, ⟨(some 12), (.mv (.t 37)), none, [5, 6, 0, 1, 2, 3, 4, 5, 6]⟩] false) (.seq (.region [⟨(some 39), (.mv (.t 0)), none, []⟩, ⟨(some 40), (.mv (.t 1)), none, []⟩, ⟨(some 41), (.load true 4 (.t 5)), none, []⟩, ⟨(some 42), (.call (.f 324) [(.t 39), (.t 40), (.t 41)]), none, [0, 1, 2]⟩, ⟨(some 38), (.mv (.t 42)), none, [3]⟩, ⟨(some 43), (.extract (.t 38) 0), none, [4]⟩, ⟨(some 44), (.extract (.t 38) 1), none, [4]⟩, ⟨(some 13), (.mv (.t 43)), none, [5, 3, 0, 1, 2, 3, 4, 5]⟩, ⟨(some 14), (.mv (.t 44)), none, [6, 7, 0, 1, 2, 3, 4, 5, 6, 7]⟩] false) (.seq (.seq (.region [⟨(some 45), (.mv (.t 10)), none, []⟩, ⟨(some 46), (.bin false .eql (.t 45) (.c (.int .i64 0))), none, [0]⟩, ⟨(some 47), (.mv (.t 46)), none, [1]⟩, ⟨(some 48), (.mv (.t 0)), (some (47, true)), [2]⟩, ⟨(some 49), (.mv (.t 8)), (some (47, true)), [2]⟩, ⟨(some 50), (.call (.f 116) [(.t 48), (.t 49)]), (some (47, true)), [3, 4, 2, 2]⟩, ⟨(some 51), (.mv (.t 9)), (some (47, true)), [2]⟩, ⟨(some 52), (.mv (.t 8)), (some (47, true)), [2]⟩, ⟨(some 53), (.len (.t 52)), (some (47, true)), [7, 2]⟩, ⟨(some 54), (.call (.f 325) [(.t 50), (.t 51), (.t 53)]), (some (47, true)), [5, 6, 8, 5, 2]⟩, ⟨(some 55), (.un .not (.t 54)), (some (47, true)), [9, 2]⟩, ⟨(some 56), (.pick (.t 47) (.t 55) (.c (.bool false))), none, [2, 10]⟩, ⟨(some 57), (.mv (.t 56)), none, [11, 9]⟩, ⟨(some 58), (.mv (.t 12)), (some (57, false)), [12]⟩, ⟨(some 59), (.bin false .eql (.t 58) (.c (.int .i64 0))), (some (57, false)), [13, 12]⟩, ⟨(some 60), (.mv (.t 59)), (some (57, false)), [14, 12, 12]⟩, ⟨(some 61), (.mv (.t 0)), (some (60, true)), [15]⟩, ⟨(some 62), (.mv (.t 11)), (some (60, true)), [15]⟩, ⟨(some 63), (.call (.f 116) [(.t 61), (.t 62)]), (some (60, true)), [16, 17, 15, 15]⟩, ⟨(some 64), (.mv (.t 1)), (some (60, true)), [15]⟩, ⟨(some 65), (.mv (.t 0)), (some (60, true)), [15]⟩, ⟨(some 66), (.len (.t 65)), (some (60, true)), [20, 15]⟩, ⟨(some 67), (.call (.f 325) [(.t 63), (.t 64), (.t 66)]), (some (60, true)), [18, 19, 21, 18, 15]⟩, ⟨(some 68), (.un .not (.t 67)), (some (60, true)), [22, 15]⟩, ⟨(some 69), (.pick (.t 60) (.t 68) (.c (.bool false))), (some (57, false)), [15, 23, 12]⟩, ⟨(some 70), (.pick (.t 57) (.c (.bool true)) (.t 69)), none, [12, 24]⟩, ⟨(some 71), (.mv (.t 70)), none, [25, 22]⟩, ⟨(some 72), (.mv (.t 14)), (some (71, false)), [26]⟩, ⟨(some 73), (.bin false .eql (.t 72) (.c (.int .i64 0))), (some (71, false)), [27, 26]⟩, ⟨(some 74), (.mv (.t 73)), (some (71, false)), [28, 26, 26]⟩, ⟨(some 75), (.mv (.t 0)), (some (74, true)), [29]⟩, ⟨(some 76), (.mv (.t 13)), (some (74, true)), [29]⟩, ⟨(some 77), (.call (.f 116) [(.t 75), (.t 76)]), (some (74, true)), [30, 31, 29, 29]⟩, ⟨(some 78), (.mv (.t 1)), (some (74, true)), [29]⟩, ⟨(some 79), (.mv (.t 0)), (some (74, true)), [29]⟩, ⟨(some 80), (.len (.t 79)), (some (74, true)), [34, 29]⟩, ⟨(some 81), (.call (.f 325) [(.t 77), (.t 78), (.t 80)]), (some (74, true)), [32, 33, 35, 32, 29]⟩, ⟨(some 82), (.un .not (.t 81)), (some (74, true)), [36, 29]⟩, ⟨(some 83), (.pick (.t 74) (.t 82) (.c (.bool false))), (some (71, false)), [29, 37, 26]⟩, ⟨(some 84), (.pick (.t 71) (.c (.bool true)) (.t 83)), none, [26, 38]⟩] false) (.cond (.t 84) (.seq (.region [⟨(some 6), (.mv (.c (.bool false))), none, []⟩] false) .ret) .skip)) (.seq (.region [⟨(some 85), (.mv (.t 7)), none, []⟩, ⟨(some 6), (.mv (.t 85)), none, [0, 0]⟩] false) .ret))))))))⟩
theorem told313 : trFn seat 313 = some il313 := by kernel_rfl

def il325 : IFn := ⟨23, [(.t 6)], (.seq (.region [⟨(some 6), (.mv (.c (.bool false))), none, []⟩] false) (.seq (.seq (.region [⟨(some 7), (.mv (.c (.int .i64 0))), none, []⟩] false) (.block 0 (.loop (.seq (.seq (.region [⟨(some 8), (.mv (.t 7)), none, []⟩, ⟨(some 9), (.mv (.t 0)), none, []⟩, ⟨(some 10), (.len (.t 9)), none, [1]⟩, ⟨(some 11), (.bin false .lss (.t 8) (.t 10)), none, [0, 2]⟩] false) (.cond (.t 11) .skip (.exit 0))) (.seq (.block 1 (.seq (.region [⟨(some 14), (.mv (.t 1)), none, []⟩, ⟨(some 15), (.bin false .mul (.c (.int .i64 2)) (.t 14)), none, [0]⟩, ⟨(some 16), (.mv (.t 0)), none, []⟩, ⟨(some 17), (.mv (.t 7)), none, []⟩, ⟨(some 18), (.iaddr 1 (.t 16) (.t 17)), none, [2, 3]⟩, ⟨(some 19), (.load false 1 (.t 18)), none, [4]⟩, ⟨(some 20), (.mv (.t 2)), none, []⟩, ⟨(some 21), (.call (.f 255) [(.t 15), (.t 19), (.t 20)]), none, [1, 5, 6]⟩, ⟨(some 22), (.un .not (.t 21)), none, [7]⟩] false) (.cond (.t 22) (.seq (.region [⟨(some 6), (.mv (.c (.bool false))), none, []⟩] false) .ret) .skip))) (.region [⟨(some 12), (.mv (.t 7)), none, []⟩, ⟨(some 13), (.bin false .add (.t 12) (.c (.int .i64 1))), none, [0]⟩, ⟨(some 7), (.mv (.t 13)), none, [1, 0, 1]⟩] false)))))) (.seq (.region [⟨(some 6), (.mv (.c (.bool true))), none, []⟩] false) .ret)))⟩
theorem told325 : trFn seat 325 = some il325 := by kernel_rfl

end Go.Proofs.YtihhinbjhiankaaGreatDoor.Al

set_option linter.unusedSimpArgs false
set_option linter.unusedVariables false
namespace Go.Proofs.YtihhinbjhiankaaGreatDoor.Al
open Go
attribute [local go_sem] W_mv W_pick W_alloc W_box W_build W_bslice W_load W_store W_bin W_isnil W_un W_convI W_convS W_mkfunc W_mkslice W_slice W_faddr W_field W_iaddr W_extract W_len W_min W_append W_appendZ W_copy W_invoke thenQ_normal thenQ_exit thenQ_goto thenQ_ret blockQ_normal blockQ_ret blockQ_goto blockQ_exit wpc_skip wpc_region wpc_draw wpc_seq wpc_cond wpc_block wpc_exit wpc_goto wpc_label wpc_ret wpc_loop wpc_range wpc_scope condW_true condW_false condW_dec condW_any W_nil W_call resW_some evalOp Opd.ev updo_envL updo_none setL_cons setL_nil envL_cons Option.map_some Option.bind_some evBin evInt List.map_cons List.map_nil Option.pure_def Option.bind_eq_bind W_grd' grdW_tt grdW_ff grdW_tf grdW_ft grdW_tup grdW_dt grdW_df lgrdW_tup L_mv L_load L_bin L_un L_faddr L_iaddr L_nil L_call lresW_some upd_envL evUn beq_dec bne_dec leaves_ret1 leaves_ret0 leaves_end0 rowLen_ints load_iptr0 not_dec heap_get0 heap_get1 heap_set0 heap_set1 heap_len1 heap_app bslice1_int seen_ints seen_one0 Nat.sub_zero Bool.not_true Bool.not_false List.length_nil List.length_cons List.nil_append List.cons_append Nat.zero_add load_iptrA canon_ptrI canon_bool canon_tup canon_agg canon_ints' canon_ints0 rowLen_octs seen_octs canon_octs' seen_intss seen_octss rowLen_nodes seen_nodes canon_nodes' rowLen_nodes0 rowLen_nodes1 seen_list cells_int oneIn_int cells_bool oneIn_bool cells_str oneIn_str cells_list oneIn_list cells_func oneIn_func cells_nilfunc oneIn_nilfunc cells_iptr oneIn_iptr cells_iface oneIn_iface cells_nilIface oneIn_nilIface cells_own cells_ptr cells_anybool oneIn_anybool cells_agg oneIn_own0 oneIn_own1 oneIn_own3 oneIn_own4 oneIn_own5 cells_ints oneIn_ints cells_octs oneIn_octs cells_intss oneIn_intss cells_octss oneIn_octss cells_nodes oneIn_nodes ldB0 ldA0 adB0 stB0 ldB1 ldA1 adB1 stB1 ldB2 ldA2 adB2 stB2 ldB3 ldA3 adB3 stB3 ldB4 ldA4 adB4 stB4 ldB5 ldA5 adB5 stB5 List.getElem?_cons_zero List.getElem?_cons_succ beq_self_eq_true splice List.take_zero List.take_succ_cons List.drop_zero List.drop_succ_cons List.append_nil List.set_cons_zero List.set_cons_succ List.all_cons List.all_nil Bool.and_self and_self and_true true_and Nat.lt_irrefl Nat.zero_lt_one Nat.le_refl fillA evNil notA Bool.false_eq_true evMin_int evMax_int Option.map_none freezeP_all_nil freezeP_all_cons frzE_box frzE_arr frzE_dead foldA List.foldlM_cons List.foldlM_nil callW_f lcallW_f ansW_fn ansW_own lansW_fn lansW_own ansW_none lansW_none tab_cons tab_nil dI_int dB_bool dO_octs dO_ints dO_nil dOs_nil dN_nodeA dLf_agg dIn_agg dN_agg dNs_nodes dNs_nil isI_int isO_octs isO_nil isS_ints isS_nil isNs_nodes isNs_nil isLf_agg isIn_agg isN_agg leaf_eta inner_eta node_eta leaf_zero inner_zero node_zero dP_agg isP_agg patch_eta decide_eq_true_eq decide_eq_false_iff_not eq_self forall_const true_implies false_implies Bool.not_eq_true' Bool.not_eq_false' Bool.true_eq_false implies_true ne_eq ldI ldIA adI AV.tup.injEq AV.agg.injEq List.cons.injEq AV.int.injEq AV.bool.injEq nodes_inj octs_inj ints_inj nil_nodes nil_octs nil_ints canon_nilL decide_eq_decide two_ne lendA_fn lendA_own lendA_none llendA_fn llendA_none plain_bool plain_int isNs_own isS_own false_and and_false Q_nil Q_l Q_g Q_h qgrdW_b qgrdW_tup lightD_some heavyD_some readD_some fnD_some fnD_own fnD_none callL_f ownH_some callH_f litD_some litE_some Q_call Q_bslice H_call pendOk_nil pendOk_cons pastOk_nil pastOk_cons Q_mv Q_pick Q_bin Q_un Q_convI Q_mkfunc Q_extract Q_min Q_max Q_lenS Q_lenA Q_field Q_idxA Q_mkiface Q_tassert Q_alloc Q_box Q_store Q_mkslice Q_append Q_appendZ Q_copy Q_clear Q_build Q_load Q_nilck Q_isnil Q_convS Q_slice Q_faddr Q_iaddr Q_iaddrA Q_len H_alloc H_box H_bslice H_store H_mkslice H_append H_appendZ H_copy H_clear free_mv free_pick free_bin free_un free_convI free_mkfunc free_extract free_min free_max free_lenS free_lenA free_field free_idxA free_mkiface free_tassert free_build free_load free_nilck free_isnil free_convS free_slice free_faddr free_iaddr free_iaddrA free_len callW_y List.length_map List.length_set leaves_r evR_some evRess1 evRess2 evRess3 evRes_t evRes_c nz_kind nz_enc nz_cred nz_source nz_parent nz_ienc nz_hash nz_un true_or or_true bsl_node idbs_node idbs_int appN appI ixo_nodes canon_row canon_rowI canon_rowO not_false_eq_true not_true_eq_false ldE_a ldE_c adE_b stE_b onE_a onP_b bsl_zero idbs_zero appN_zero
attribute [local go_sem low] condW_b grdW_b lgrdW_b ldP adP stP onO onPt
attribute [local simp] envL_cons envL_nil idb_int idb_bool idb_ints idb_nil idb_own idb_ptr idb_octs idb_nodes idb_leafA idb_innerA idb_nodeA idb_agg idb_tup idb_iptr idb_fn entB_dead entB_box
def OnW (l : List Int) (i w : Int) : Prop := (0 ≤ i ∧ i ≤ 4294967295) ∧ Small l ∧ ∀ x ∈ l, x ∈ ups (2 * i) w
theorem onWay_spec (l : List Int) (i w : Int) (h : OnW l i w) : Fun seat 325 [ints l, .int .i64 i, .int .i64 w] (.bool true) := by
  obtain ⟨hi, hl, hu⟩ := h
  simp only [Small] at hl
  have w1 : IntKind.i64.wrap (2 * i) = 2 * i := wrap64 _ (by omega) (by omega)
  refine Fun.of0R [] told325 (by simp [il325]) (by simp [idb_patchA]) (by simp [idb_patchA]) 4 ?_
  simp -implicitDefEqProofs only [il325, List.zipIdx_cons, List.zipIdx_nil, leafA, innerA, nodeA, patchA, Leaf.cells, Inner.cells, Node.cells, decide_true, decide_false, go_sem, Nat.reduceEqDiff, reduceIte, Nat.reduceAdd, Nat.reduceLeDiff, Nat.reduceLT, Nat.reduceSub]
  refine WP.loop0 (fun k => k ≤ l.length) (fun k => [(0, ints l), (1, .int .i64 i), (2, .int .i64 w), (7, .int .i64 (k : Nat))]) (fun k => l.length - k) 0 (Nat.zero_le _) (fun k _ => by simp ) (by simp ) ?_
  intro k hk
  refine wpc_soundR [r255] ?_
  by_cases hlt : (k : Int) < (l.length : Nat)
  · have hk' : k < l.length := by omega
    have hm := hu _ (List.getElem_mem hk')
    simp -implicitDefEqProofs only [leafA, innerA, nodeA, patchA, Leaf.cells, Inner.cells, Node.cells, r255_c, r255_ask, decide_true, decide_false, hlt, fun H => index_ints H l k hk', w1, hm, not_true_eq_false, go_sem, Nat.reduceEqDiff, reduceIte, Nat.reduceAdd, Nat.reduceLeDiff, Nat.reduceLT, Nat.reduceSub]
    exact ⟨k + 1, by omega, by omega, by simp [wrapS (show k < 9223372036854775807 by omega)]⟩
  · simp -implicitDefEqProofs only [leafA, innerA, nodeA, patchA, Leaf.cells, Inner.cells, Node.cells, r255_c, r255_ask, decide_true, decide_false, hlt, go_sem, Nat.reduceEqDiff, reduceIte, Nat.reduceAdd, Nat.reduceLeDiff, Nat.reduceLT, Nat.reduceSub]
noncomputable def r325 : Reg seat := .of told325 (ask3 (fun a0' a1' a2' => isS a0' ∧ isI a1' ∧ isI a2' ∧ OnW (dO a0') (dI a1') (dI a2')) fun a0' a1' a2' => .fn (.bool true)) (ask3_ok fun a0' a1' a2' h => SaidOk.fn (Fun.weak (.cons (isS.weak h.1) (.cons (isI.weak h.2.1) (.cons (isI.weak h.2.2.1) .nil))) (onWay_spec _ _ _ h.2.2.2)))
theorem r325_c : r325.c = 325 := rfl
open Classical in
theorem r325_ask (a0' a1' a2' : AV) : r325.ask [a0', a1', a2'] = if isS a0' ∧ isI a1' ∧ isI a2' ∧ OnW (dO a0') (dI a1') (dI a2') then some (Said.fn (.bool true)) else none := by unfold r325 Reg.of ask3; exact ite_cl
theorem places_small (a b : List Node) : Small (placesT a b) := (nums_up _ _ (known_len b)).1
set_option maxRecDepth 100000 in
set_option maxHeartbeats 4000000 in
theorem diffSmall_spec (t : List Node) (i : Int) (l : Leaf) (ht : Tree.Ok t) (hl : l.Ok) : Fun seat 313 [nodes t, .int .i64 i, leafA l] (.bool true) := by
  by_cases hf : Few t
  rotate_left
  · refine Fun.of0R [r110, r100] told313 (by simp [il313]) (by simp [idb_patchA]) (by simp [idb_patchA]) 4 ?_
    simp -implicitDefEqProofs only [il313, List.zipIdx_cons, List.zipIdx_nil, leafA, innerA, nodeA, patchA, Leaf.cells, Inner.cells, Node.cells, r110_c, r110_ask, r100_c, r100_ask, decide_true, decide_false, ht, hf, go_sem, Nat.reduceEqDiff, reduceIte, Nat.reduceAdd, Nat.reduceLeDiff, Nat.reduceLT, Nat.reduceSub]
  by_cases hs : Sane t
  rotate_left
  · refine Fun.of0R [r110, r100, r101] told313 (by simp [il313]) (by simp [idb_patchA]) (by simp [idb_patchA]) 4 ?_
    simp -implicitDefEqProofs only [il313, List.zipIdx_cons, List.zipIdx_nil, leafA, innerA, nodeA, patchA, Leaf.cells, Inner.cells, Node.cells, r110_c, r110_ask, r100_c, r100_ask, r101_c, r101_ask, decide_true, decide_false, ht, hf, hs, go_sem, Nat.reduceEqDiff, reduceIte, Nat.reduceAdd, Nat.reduceLeDiff, Nat.reduceLT, Nat.reduceSub]
  have oa := addT_ok ht hl
  have ob := remT_ok ht i
  have oc := chgT_ok ht i hl
  have tl := hs.len
  have sa := fun (a : List Node) (n : Int) (h : addT t l = (a, n, 0)) => small_add hs h
  have na := fun (a : List Node) (n : Int) (h : addT t l = (a, n, 0)) => addT_in hs h
  have sb := fun (a : List Node) (h : remT t i = (a, 0)) => small_rem hs h
  have nb := fun (a : List Node) (h : remT t i = (a, 0)) => remT_in hs h
  have sc := fun (a : List Node) (h : chgT t i l = (a, 0)) => small_chg hs h
  have nc := fun (a : List Node) (h : chgT t i l = (a, 0)) => chgT_in hs h
  rcases ha : addT t l with ⟨a, n, e⟩
  rcases hb : remT t i with ⟨b, f⟩
  rcases hc : chgT t i l with ⟨c, g⟩
  rw [ha] at oa sa na
  rw [hb] at ob sb nb
  rw [hc] at oc sc nc
  simp only at oa ob oc
  have A : e = 0 → OnW (placesT t a) n a.length := by
    rintro rfl
    obtain ⟨k, rfl, h1, _, h2, _⟩ := na a n rfl
    have := h2.len
    exact ⟨by omega, places_small _ _, sa a _ rfl⟩
  have B : f = 0 → OnW (placesT t b) i t.length := by
    rintro rfl
    obtain ⟨k, rfl, h1, _⟩ := nb b rfl
    exact ⟨by omega, places_small _ _, sb b rfl⟩
  have C : g = 0 → OnW (placesT t c) i t.length := by
    rintro rfl
    obtain ⟨k, rfl, h1, _⟩ := nc c rfl
    exact ⟨by omega, places_small _ _, sc c rfl⟩
  clear sa na sb nb sc nc
  refine Fun.of0W told313 (by simp [il313]) (by simp [leafA, Leaf.cells]) (by simp ) 4 ?_
  simp only [il313, List.zipIdx_cons, List.zipIdx_nil]
  refine WP.seqR [] fun K hK => ?_
  simp -implicitDefEqProofs only [leafA, innerA, nodeA, patchA, Leaf.cells, Inner.cells, Node.cells, decide_true, decide_false, go_sem, Nat.reduceEqDiff, reduceIte, Nat.reduceAdd, Nat.reduceLeDiff, Nat.reduceLT, Nat.reduceSub]
  refine hK _ ?_
  clear hK K
  refine WP.seqR [r110] fun K hK => ?_
  simp -implicitDefEqProofs only [leafA, innerA, nodeA, patchA, Leaf.cells, Inner.cells, Node.cells, r110_c, r110_ask, decide_true, decide_false, go_sem, Nat.reduceEqDiff, reduceIte, Nat.reduceAdd, Nat.reduceLeDiff, Nat.reduceLT, Nat.reduceSub]
  refine hK _ ?_
  clear hK K
  refine WP.seqR [r100, r101] fun K hK => ?_
  simp -implicitDefEqProofs only [leafA, innerA, nodeA, patchA, Leaf.cells, Inner.cells, Node.cells, r100_c, r100_ask, r101_c, r101_ask, decide_true, decide_false, ht, hf, hs, go_sem, Nat.reduceEqDiff, reduceIte, Nat.reduceAdd, Nat.reduceLeDiff, Nat.reduceLT, Nat.reduceSub]
  refine hK _ ?_
  clear hK K
  refine WP.seqR [r322] fun K hK => ?_
  simp -implicitDefEqProofs only [leafA, innerA, nodeA, patchA, Leaf.cells, Inner.cells, Node.cells, r322_c, r322_ask, decide_true, decide_false, ht, hl, ha, go_sem, Nat.reduceEqDiff, reduceIte, Nat.reduceAdd, Nat.reduceLeDiff, Nat.reduceLT, Nat.reduceSub]
  refine hK _ ?_
  clear hK K
  refine WP.seqR [r323] fun K hK => ?_
  simp -implicitDefEqProofs only [leafA, innerA, nodeA, patchA, Leaf.cells, Inner.cells, Node.cells, r323_c, r323_ask, decide_true, decide_false, ht, hb, go_sem, Nat.reduceEqDiff, reduceIte, Nat.reduceAdd, Nat.reduceLeDiff, Nat.reduceLT, Nat.reduceSub]
  refine hK _ ?_
  clear hK K
  refine WP.seqR [r324] fun K hK => ?_
  simp -implicitDefEqProofs only [leafA, innerA, nodeA, patchA, Leaf.cells, Inner.cells, Node.cells, r324_c, r324_ask, decide_true, decide_false, ht, hl, hc, go_sem, Nat.reduceEqDiff, reduceIte, Nat.reduceAdd, Nat.reduceLeDiff, Nat.reduceLT, Nat.reduceSub]
  refine hK _ ?_
  clear hK K
  by_cases he : e = 0 <;> by_cases hfe : f = 0 <;> by_cases hg : g = 0
  · refine wpc_soundR [r116, r325] ?_
    have A := A he
    have B := B hfe
    have C := C hg
    simp -implicitDefEqProofs only [leafA, innerA, nodeA, patchA, Leaf.cells, Inner.cells, Node.cells, r116_c, r116_ask, r325_c, r325_ask, decide_true, decide_false, ht, oa, ob, oc, he, hfe, hg, A, B, C, not_true_eq_false, go_sem, Nat.reduceEqDiff, reduceIte, Nat.reduceAdd, Nat.reduceLeDiff, Nat.reduceLT, Nat.reduceSub]
  · refine wpc_soundR [r116, r325] ?_
    have A := A he
    have B := B hfe
    simp -implicitDefEqProofs only [leafA, innerA, nodeA, patchA, Leaf.cells, Inner.cells, Node.cells, r116_c, r116_ask, r325_c, r325_ask, decide_true, decide_false, ht, oa, ob, oc, he, hfe, hg, A, B, not_true_eq_false, go_sem, Nat.reduceEqDiff, reduceIte, Nat.reduceAdd, Nat.reduceLeDiff, Nat.reduceLT, Nat.reduceSub]
  · refine wpc_soundR [r116, r325] ?_
    have A := A he
    have C := C hg
    simp -implicitDefEqProofs only [leafA, innerA, nodeA, patchA, Leaf.cells, Inner.cells, Node.cells, r116_c, r116_ask, r325_c, r325_ask, decide_true, decide_false, ht, oa, ob, oc, he, hfe, hg, A, C, not_true_eq_false, go_sem, Nat.reduceEqDiff, reduceIte, Nat.reduceAdd, Nat.reduceLeDiff, Nat.reduceLT, Nat.reduceSub]
  · refine wpc_soundR [r116, r325] ?_
    have A := A he
    simp -implicitDefEqProofs only [leafA, innerA, nodeA, patchA, Leaf.cells, Inner.cells, Node.cells, r116_c, r116_ask, r325_c, r325_ask, decide_true, decide_false, ht, oa, ob, oc, he, hfe, hg, A, not_true_eq_false, go_sem, Nat.reduceEqDiff, reduceIte, Nat.reduceAdd, Nat.reduceLeDiff, Nat.reduceLT, Nat.reduceSub]
  · refine wpc_soundR [r116, r325] ?_
    have B := B hfe
    have C := C hg
    simp -implicitDefEqProofs only [leafA, innerA, nodeA, patchA, Leaf.cells, Inner.cells, Node.cells, r116_c, r116_ask, r325_c, r325_ask, decide_true, decide_false, ht, oa, ob, oc, he, hfe, hg, B, C, not_true_eq_false, go_sem, Nat.reduceEqDiff, reduceIte, Nat.reduceAdd, Nat.reduceLeDiff, Nat.reduceLT, Nat.reduceSub]
  · refine wpc_soundR [r116, r325] ?_
    have B := B hfe
    simp -implicitDefEqProofs only [leafA, innerA, nodeA, patchA, Leaf.cells, Inner.cells, Node.cells, r116_c, r116_ask, r325_c, r325_ask, decide_true, decide_false, ht, oa, ob, oc, he, hfe, hg, B, not_true_eq_false, go_sem, Nat.reduceEqDiff, reduceIte, Nat.reduceAdd, Nat.reduceLeDiff, Nat.reduceLT, Nat.reduceSub]
  · refine wpc_soundR [r116, r325] ?_
    have C := C hg
    simp -implicitDefEqProofs only [leafA, innerA, nodeA, patchA, Leaf.cells, Inner.cells, Node.cells, r116_c, r116_ask, r325_c, r325_ask, decide_true, decide_false, ht, oa, ob, oc, he, hfe, hg, C, not_true_eq_false, go_sem, Nat.reduceEqDiff, reduceIte, Nat.reduceAdd, Nat.reduceLeDiff, Nat.reduceLT, Nat.reduceSub]
  · refine wpc_soundR [r116, r325] ?_
    simp -implicitDefEqProofs only [leafA, innerA, nodeA, patchA, Leaf.cells, Inner.cells, Node.cells, r116_c, r116_ask, r325_c, r325_ask, decide_true, decide_false, ht, oa, ob, oc, he, hfe, hg, not_true_eq_false, go_sem, Nat.reduceEqDiff, reduceIte, Nat.reduceAdd, Nat.reduceLeDiff, Nat.reduceLT, Nat.reduceSub]
end Go.Proofs.YtihhinbjhiankaaGreatDoor.Al

set_option linter.unusedSimpArgs false
set_option linter.unusedVariables false
namespace Go.Proofs.YtihhinbjhiankaaGreatDoor.Al
open Go

theorem litD_own {op : IOp} {env : Env} {i j u n : Nat} {H' H : List Entry} {K : AV → Prop} : litD op env (some (.own i j u n, H')) H K = litE op env (H'[H.length]?) K := rfl
theorem isNs1 (n : Node) : isNs (.list false [.agg [.int .i64 n.kind, octs n.leaf.enc, octs n.leaf.cred, .int .i64 n.leaf.source, octs n.leaf.parent, octs n.inner.enc, octs n.inner.hash, ints n.inner.unmerged]]) = True := isNs_nodes [n]
theorem dNs1 (n : Node) : dNs (.list false [.agg [.int .i64 n.kind, octs n.leaf.enc, octs n.leaf.cred, .int .i64 n.leaf.source, octs n.leaf.parent, octs n.inner.enc, octs n.inner.hash, ints n.inner.unmerged]]) = [n] := dNs_nodes [n]
theorem isNsZ : isNs (.list false [.agg [.int .i64 0, octs [], octs [], .int .i64 0, octs [], octs [], octs [], ints []]]) = True := isNs_nodes [.zero]
theorem dNsZ : dNs (.list false [.agg [.int .i64 0, octs [], octs [], .int .i64 0, octs [], octs [], octs [], ints []]]) = [.zero] := dNs_nodes [.zero]

end Go.Proofs.YtihhinbjhiankaaGreatDoor.Al

namespace Go.Proofs.YtihhinbjhiankaaGreatDoor.Al
open Go

def il318 : IFn := ⟨92, [(.t 4)], (.seq (.region [⟨(some 3), (.box (.t 1)), none, []⟩, ⟨(some 4), (.mv (.c (.bool false))), none, []⟩] false) (.seq (.region [⟨(some 13), (.call (.f 334) []), none, []⟩, ⟨(some 5), (.mv (.t 13)), none, [0, 0, 0]⟩] false) (.seq (.seq (.region [⟨(some 14), (.mv (.t 0)), none, []⟩, ⟨(some 15), (.call (.f 100) [(.t 14)]), none, [0]⟩, ⟨(some 16), (.un .not (.t 15)), none, [1]⟩, ⟨(some 17), (.mv (.t 16)), none, [2, 1]⟩, ⟨(some 18), (.mv (.t 0)), (some (17, false)), [3]⟩, ⟨(some 19), (.call (.f 101) [(.t 18)]), (some (17, false)), [4, 3, 3]⟩, ⟨(some 20), (.un .not (.t 19)), (some (17, false)), [5, 3]⟩, ⟨(some 21), (.pick (.t 17) (.c (.bool true)) (.t 20)), none, [3, 6]⟩] false) (.cond (.t 21) (.seq (.region [⟨(some 22), (.mv (.t 5)), none, []⟩, ⟨(some 4), (.mv (.t 22)), none, [0, 0]⟩] false) .ret) .skip)) (.seq (.region [⟨(some 24), (.mv (.t 0)), none, []⟩, ⟨(some 25), (.load true 4 (.t 3)), none, []⟩, ⟨(some 26), (.call (.f 322) [(.t 24), (.t 25)]), none, [0, 1]⟩, ⟨(some 23), (.mv (.t 26)), none, [2]⟩, ⟨(some 27), (.extract (.t 23) 0), none, [3]⟩, ⟨(some 28), (.extract (.t 23) 1), none, [3]⟩, ⟨(some 29), (.extract (.t 23) 2), none, [3]⟩, ⟨(some 6), (.mv (.t 27)), none, [4, 2, 0, 1, 2, 3, 4]⟩, ⟨(some 7), (.mv (.t 28)), none, [5, 7, 0, 1, 2, 3, 4, 5, 7]⟩, ⟨(some 8), (.mv (.t 29)), none, [6, 8, 0, 1, 2, 3, 4, 5, 6, 7, 8]⟩] false) (.seq (.seq (.region [⟨(some 30), (.mv (.t 8)), none, []⟩, ⟨(some 31), (.bin false .neq (.t 30) (.c (.int .i64 0))), none, [0]⟩] false) (.cond (.t 31) (.seq (.region [⟨(some 32), (.mv (.t 5)), none, []⟩, ⟨(some 4), (.mv (.t 32)), none, [0, 0]⟩] false) .ret) .skip)) (.seq (.region [⟨(some 34), (.mv (.t 6)), none, []⟩, ⟨(some 35), (.mv (.t 7)), none, []⟩, ⟨(some 36), (.call (.f 323) [(.t 34), (.t 35)]), none, [0, 1]⟩, ⟨(some 33), (.mv (.t 36)), none, [2]⟩, ⟨(some 37), (.extract (.t 33) 0), none, [3]⟩, ⟨(some 38), (.extract (.t 33) 1), none, [3]⟩, ⟨(some 9), (.mv (.t 37)), none, [4, 2, 0, 1, 2, 3, 4]⟩, ⟨(some 10), (.mv (.t 38)), none, [5, 6, 0, 1, 2, 3, 4, 5, 6]⟩] false) (.seq (.seq (.region [⟨(some 39), (.mv (.t 10)), none, []⟩, ⟨(some 40), (.bin false .neq (.t 39) (.c (.int .i64 0))), none, [0]⟩, ⟨(some 41), (.mv (.t 40)), none, [1]⟩, ⟨(some 42), (.mv (.t 9)), (some (41, false)), [2]⟩, ⟨(some 43), (.len (.t 42)), (some (41, false)), [3, 2]⟩, ⟨(some 44), (.mv (.t 6)), (some (41, false)), [2]⟩, ⟨(some 45), (.len (.t 44)), (some (41, false)), [5, 2]⟩, ⟨(some 46), (.bin false .gtr (.t 43) (.t 45)), (some (41, false)), [4, 6, 2]⟩, ⟨(some 47), (.pick (.t 41) (.c (.bool true)) (.t 46)), none, [2, 7]⟩, ⟨(some 48), (.mv (.t 47)), none, [8, 2]⟩, ⟨(some 49), (.mv (.t 7)), (some (48, false)), [9]⟩, ⟨(some 50), (.bin false .lss (.t 49) (.c (.int .i64 0))), (some (48, false)), [10, 9]⟩, ⟨(some 51), (.pick (.t 48) (.c (.bool true)) (.t 50)), none, [9, 11]⟩] false) (.cond (.t 51) (.seq (.region [⟨(some 4), (.mv (.c (.bool false))), none, []⟩] false) .ret) .skip)) (.seq (.seq (.region [⟨(some 11), (.mv (.c (.int .i64 0))), none, []⟩] false) (.block 0 (.loop (.seq (.seq (.region [⟨(some 52), (.mv (.t 11)), none, []⟩, ⟨(some 53), (.mv (.t 9)), none, []⟩, ⟨(some 54), (.len (.t 53)), none, [1]⟩, ⟨(some 55), (.bin false .lss (.t 52) (.t 54)), none, [0, 2]⟩] false) (.cond (.t 55) .skip (.exit 0))) (.seq (.block 1 (.seq (.region [⟨(some 58), (.build [(.int .i64 0), (.list true []), (.list true []), (.int .i64 0), (.list true []), (.list true []), (.list true []), (.list true [])] []), none, []⟩, ⟨(some 12), (.alloc [(.int .i64 0), (.list true []), (.list true []), (.int .i64 0), (.list true []), (.list true []), (.list true []), (.list true [])]), none, []⟩, ⟨none, (.store 8 (.t 12) (.t 58)), none, [1, 0, 0, 1]⟩] false) (.seq (.seq (.region [⟨(some 59), (.mv (.t 11)), none, []⟩, ⟨(some 60), (.mv (.t 0)), none, []⟩, ⟨(some 61), (.len (.t 60)), none, [1]⟩, ⟨(some 62), (.bin false .lss (.t 59) (.t 61)), none, [0, 2]⟩, ⟨(some 63), (.mv (.t 62)), none, [3]⟩, ⟨(some 64), (.mv (.t 7)), (some (63, true)), [4]⟩, ⟨(some 65), (.bin false .mul (.c (.int .i64 2)) (.t 64)), (some (63, true)), [5, 4]⟩, ⟨(some 66), (.mv (.t 11)), (some (63, true)), [4]⟩, ⟨(some 67), (.mv (.t 6)), (some (63, true)), [4]⟩, ⟨(some 68), (.len (.t 67)), (some (63, true)), [8, 4]⟩, ⟨(some 69), (.call (.f 255) [(.t 65), (.t 66), (.t 68)]), (some (63, true)), [6, 7, 9, 4, 4]⟩, ⟨(some 70), (.un .not (.t 69)), (some (63, true)), [10, 4]⟩, ⟨(some 71), (.pick (.t 63) (.t 70) (.c (.bool false))), none, [4, 11]⟩] false) (.cond (.t 71) (.region [⟨(some 72), (.mv (.t 0)), none, []⟩, ⟨(some 73), (.mv (.t 11)), none, []⟩, ⟨(some 74), (.iaddr 8 (.t 72) (.t 73)), none, [0, 1]⟩, ⟨(some 75), (.load true 8 (.t 74)), none, [2]⟩, ⟨none, (.store 8 (.t 12) (.t 75)), none, [3, 0, 1, 2, 3]⟩] false) .skip)) (.seq (.region [⟨(some 76), (.mv (.t 9)), none, []⟩, ⟨(some 77), (.mv (.t 11)), none, []⟩, ⟨(some 78), (.mv (.t 11)), none, []⟩, ⟨(some 79), (.bin false .add (.t 78) (.c (.int .i64 1))), none, [2]⟩, ⟨(some 80), (.slice 8 (.t 76) (some (.t 77)) (some (.t 79)) none), none, [0, 1, 3]⟩, ⟨(some 81), (.load true 8 (.t 12)), none, []⟩, ⟨(some 82), (.bslice 8 1 (.agg [(.int .i64 0), (.list true []), (.list true []), (.int .i64 0), (.list true []), (.list true []), (.list true []), (.list true [])]) [(0, (.t 81))]), none, [5]⟩, ⟨(some 83), (.call (.f 106) [(.t 80), (.t 82)]), none, [4, 6]⟩, ⟨(some 84), (.un .not (.t 83)), none, [7]⟩] true) (.cond (.t 84) (.seq (.region [⟨(some 4), (.mv (.c (.bool false))), none, []⟩] false) .ret) .skip))))) (.region [⟨(some 56), (.mv (.t 11)), none, []⟩, ⟨(some 57), (.bin false .add (.t 56) (.c (.int .i64 1))), none, [0]⟩, ⟨(some 11), (.mv (.t 57)), none, [1, 0, 1]⟩] false)))))) (.seq (.region [⟨(some 85), (.mv (.t 5)), none, []⟩, ⟨(some 86), (.mv (.t 85)), none, [0]⟩, ⟨(some 87), (.mv (.t 9)), (some (86, true)), [1]⟩, ⟨(some 88), (.call (.f 108) [(.t 87)]), (some (86, true)), [2, 1, 1]⟩, ⟨(some 89), (.mv (.t 9)), (some (86, true)), [1]⟩, ⟨(some 90), (.call (.f 106) [(.t 88), (.t 89)]), (some (86, true)), [3, 4, 3, 1]⟩, ⟨(some 91), (.pick (.t 86) (.t 90) (.c (.bool false))), none, [1, 5]⟩, ⟨(some 4), (.mv (.t 91)), none, [6, 5, 0, 1, 2, 3, 4, 5, 6]⟩] false) .ret)))))))))⟩
theorem told318 : trFn seat 318 = some il318 := by kernel_rfl

end Go.Proofs.YtihhinbjhiankaaGreatDoor.Al

set_option linter.unusedSimpArgs false
set_option linter.unusedVariables false
namespace Go.Proofs.YtihhinbjhiankaaGreatDoor.Al
open Go
attribute [local go_sem] W_mv W_pick W_alloc W_box W_build W_bslice W_load W_store W_bin W_isnil W_un W_convI W_convS W_mkfunc W_mkslice W_slice W_faddr W_field W_iaddr W_extract W_len W_min W_append W_appendZ W_copy W_invoke thenQ_normal thenQ_exit thenQ_goto thenQ_ret blockQ_normal blockQ_ret blockQ_goto blockQ_exit wpc_skip wpc_region wpc_draw wpc_seq wpc_cond wpc_block wpc_exit wpc_goto wpc_label wpc_ret wpc_loop wpc_range wpc_scope condW_true condW_false condW_dec condW_any W_nil W_call resW_some evalOp Opd.ev updo_envL updo_none setL_cons setL_nil envL_cons Option.map_some Option.bind_some evBin evInt List.map_cons List.map_nil Option.pure_def Option.bind_eq_bind W_grd' grdW_tt grdW_ff grdW_tf grdW_ft grdW_tup grdW_dt grdW_df lgrdW_tup L_mv L_load L_bin L_un L_faddr L_iaddr L_nil L_call lresW_some upd_envL evUn beq_dec bne_dec leaves_ret1 leaves_ret0 leaves_end0 rowLen_ints load_iptr0 not_dec heap_get0 heap_get1 heap_set0 heap_set1 heap_len1 heap_app bslice1_int seen_ints seen_one0 Nat.sub_zero Bool.not_true Bool.not_false List.length_nil List.length_cons List.nil_append List.cons_append Nat.zero_add load_iptrA canon_ptrI canon_bool canon_tup canon_agg canon_ints' canon_ints0 rowLen_octs seen_octs canon_octs' seen_intss seen_octss rowLen_nodes seen_nodes canon_nodes' rowLen_nodes0 rowLen_nodes1 seen_list cells_int oneIn_int cells_bool oneIn_bool cells_str oneIn_str cells_list oneIn_list cells_func oneIn_func cells_nilfunc oneIn_nilfunc cells_iptr oneIn_iptr cells_iface oneIn_iface cells_nilIface oneIn_nilIface cells_own cells_ptr cells_anybool oneIn_anybool cells_agg oneIn_own0 oneIn_own1 oneIn_own3 oneIn_own4 oneIn_own5 cells_ints oneIn_ints cells_octs oneIn_octs cells_intss oneIn_intss cells_octss oneIn_octss cells_nodes oneIn_nodes ldB0 ldA0 adB0 stB0 ldB1 ldA1 adB1 stB1 ldB2 ldA2 adB2 stB2 ldB3 ldA3 adB3 stB3 ldB4 ldA4 adB4 stB4 ldB5 ldA5 adB5 stB5 List.getElem?_cons_zero List.getElem?_cons_succ beq_self_eq_true splice List.take_zero List.take_succ_cons List.drop_zero List.drop_succ_cons List.append_nil List.set_cons_zero List.set_cons_succ List.all_cons List.all_nil Bool.and_self and_self and_true true_and Nat.lt_irrefl Nat.zero_lt_one Nat.le_refl fillA evNil notA Bool.false_eq_true evMin_int evMax_int Option.map_none freezeP_all_nil freezeP_all_cons frzE_box frzE_arr frzE_dead foldA List.foldlM_cons List.foldlM_nil callW_f lcallW_f ansW_fn ansW_own lansW_fn lansW_own ansW_none lansW_none tab_cons tab_nil dI_int dB_bool dO_octs dO_ints dO_nil dOs_nil dN_nodeA dLf_agg dIn_agg dN_agg dNs_nodes dNs_nil isI_int isO_octs isO_nil isS_ints isS_nil isNs_nodes isNs_nil isLf_agg isIn_agg isN_agg leaf_eta inner_eta node_eta leaf_zero inner_zero node_zero dP_agg isP_agg patch_eta decide_eq_true_eq decide_eq_false_iff_not eq_self forall_const true_implies false_implies Bool.not_eq_true' Bool.not_eq_false' Bool.true_eq_false implies_true ne_eq ldI ldIA adI AV.tup.injEq AV.agg.injEq List.cons.injEq AV.int.injEq AV.bool.injEq nodes_inj octs_inj ints_inj nil_nodes nil_octs nil_ints canon_nilL decide_eq_decide two_ne lendA_fn lendA_own lendA_none llendA_fn llendA_none plain_bool plain_int isNs_own isS_own false_and and_false Q_nil Q_l Q_g Q_h qgrdW_b qgrdW_tup lightD_some heavyD_some readD_some fnD_some fnD_own fnD_none callL_f ownH_some callH_f litD_some litE_some Q_call Q_bslice H_call pendOk_nil pendOk_cons pastOk_nil pastOk_cons Q_mv Q_pick Q_bin Q_un Q_convI Q_mkfunc Q_extract Q_min Q_max Q_lenS Q_lenA Q_field Q_idxA Q_mkiface Q_tassert Q_alloc Q_box Q_store Q_mkslice Q_append Q_appendZ Q_copy Q_clear Q_build Q_load Q_nilck Q_isnil Q_convS Q_slice Q_faddr Q_iaddr Q_iaddrA Q_len H_alloc H_box H_bslice H_store H_mkslice H_append H_appendZ H_copy H_clear free_mv free_pick free_bin free_un free_convI free_mkfunc free_extract free_min free_max free_lenS free_lenA free_field free_idxA free_mkiface free_tassert free_build free_load free_nilck free_isnil free_convS free_slice free_faddr free_iaddr free_iaddrA free_len callW_y List.length_map List.length_set leaves_r evR_some evRess1 evRess2 evRess3 evRes_t evRes_c nz_kind nz_enc nz_cred nz_source nz_parent nz_ienc nz_hash nz_un true_or or_true bsl_node idbs_node idbs_int appN appI ixo_nodes canon_row canon_rowI canon_rowO not_false_eq_true not_true_eq_false ldE_a ldE_c adE_b stE_b onE_a onP_b bsl_zero idbs_zero appN_zero
attribute [local go_sem low] condW_b grdW_b lgrdW_b ldP adP stP onO onPt
attribute [local simp] envL_cons envL_nil idb_int idb_bool idb_ints idb_nil idb_own idb_ptr idb_octs idb_nodes idb_leafA idb_innerA idb_nodeA idb_agg idb_tup idb_iptr idb_fn entB_dead entB_box
set_option maxRecDepth 100000 in
set_option maxHeartbeats 4000000 in
theorem editBack_spec (t : List Node) (l : Leaf) (ht : Tree.Ok t) (hl : l.Ok) : Fun seat 318 [nodes t, leafA l] (.bool true) := by
  by_cases hf : Few t
  rotate_left
  · refine Fun.of0R [r334, r100] told318 (by simp [il318]) (by simp [idb_patchA]) (by simp [idb_patchA]) 4 ?_
    simp -implicitDefEqProofs only [il318, List.zipIdx_cons, List.zipIdx_nil, leafA, innerA, nodeA, patchA, Leaf.cells, Inner.cells, Node.cells, r334_c, r334_ask, r100_c, r100_ask, decide_true, decide_false, ht, hf, go_sem, Nat.reduceEqDiff, reduceIte, Nat.reduceAdd, Nat.reduceLeDiff, Nat.reduceLT, Nat.reduceSub]
  by_cases hs : Sane t
  rotate_left
  · refine Fun.of0R [r334, r100, r101] told318 (by simp [il318]) (by simp [idb_patchA]) (by simp [idb_patchA]) 4 ?_
    simp -implicitDefEqProofs only [il318, List.zipIdx_cons, List.zipIdx_nil, leafA, innerA, nodeA, patchA, Leaf.cells, Inner.cells, Node.cells, r334_c, r334_ask, r100_c, r100_ask, r101_c, r101_ask, decide_true, decide_false, ht, hf, hs, go_sem, Nat.reduceEqDiff, reduceIte, Nat.reduceAdd, Nat.reduceLeDiff, Nat.reduceLT, Nat.reduceSub]
  have oa := addT_ok ht hl
  rcases ha : addT t l with ⟨a, n, e⟩
  rw [ha] at oa
  simp only at oa
  by_cases he : e = 0
  rotate_left
  · refine Fun.of0R [r334, r100, r101, r322] told318 (by simp [il318]) (by simp [idb_patchA]) (by simp [idb_patchA]) 4 ?_
    simp -implicitDefEqProofs only [il318, List.zipIdx_cons, List.zipIdx_nil, leafA, innerA, nodeA, patchA, Leaf.cells, Inner.cells, Node.cells, r334_c, r334_ask, r100_c, r100_ask, r101_c, r101_ask, r322_c, r322_ask, decide_true, decide_false, ht, hf, hs, hl, ha, he, ne_eq, not_false_eq_true, go_sem, Nat.reduceEqDiff, reduceIte, Nat.reduceAdd, Nat.reduceLeDiff, Nat.reduceLT, Nat.reduceSub]
  subst he
  obtain ⟨b, hb, hbl, hn, htb, hat⟩ := edit_back hs ha
  obtain ⟨k0, hk0, hk1, _, sa, _⟩ := addT_in hs ha
  have sal := sa.len
  have tl := hs.len
  have ob := remT_ok oa n
  rw [hb] at ob
  simp only at ob
  have g1 : ¬ (b.length : Int) > (a.length : Nat) := by omega
  have g2 : ¬ n < 0 := by omega
  have w1 : IntKind.i64.wrap (2 * n) = 2 * n := wrap64 _ (by omega) (by omega)
  refine Fun.of0W told318 (by simp [il318]) (by simp [leafA, Leaf.cells]) (by simp ) 4 ?_
  simp only [il318, List.zipIdx_cons, List.zipIdx_nil]
  refine WP.seqR [] fun K hK => ?_
  simp -implicitDefEqProofs only [leafA, innerA, nodeA, patchA, Leaf.cells, Inner.cells, Node.cells, decide_true, decide_false, go_sem, Nat.reduceEqDiff, reduceIte, Nat.reduceAdd, Nat.reduceLeDiff, Nat.reduceLT, Nat.reduceSub]
  refine hK _ ?_
  clear hK K
  refine WP.seqR [r334] fun K hK => ?_
  simp -implicitDefEqProofs only [leafA, innerA, nodeA, patchA, Leaf.cells, Inner.cells, Node.cells, r334_c, r334_ask, decide_true, decide_false, go_sem, Nat.reduceEqDiff, reduceIte, Nat.reduceAdd, Nat.reduceLeDiff, Nat.reduceLT, Nat.reduceSub]
  refine hK _ ?_
  clear hK K
  refine WP.seqR [r100, r101] fun K hK => ?_
  simp -implicitDefEqProofs only [leafA, innerA, nodeA, patchA, Leaf.cells, Inner.cells, Node.cells, r100_c, r100_ask, r101_c, r101_ask, decide_true, decide_false, ht, hf, hs, go_sem, Nat.reduceEqDiff, reduceIte, Nat.reduceAdd, Nat.reduceLeDiff, Nat.reduceLT, Nat.reduceSub]
  refine hK _ ?_
  clear hK K
  refine WP.seqR [r322] fun K hK => ?_
  simp -implicitDefEqProofs only [leafA, innerA, nodeA, patchA, Leaf.cells, Inner.cells, Node.cells, r322_c, r322_ask, decide_true, decide_false, ht, hl, ha, go_sem, Nat.reduceEqDiff, reduceIte, Nat.reduceAdd, Nat.reduceLeDiff, Nat.reduceLT, Nat.reduceSub]
  refine hK _ ?_
  clear hK K
  refine WP.seqR [] fun K hK => ?_
  simp -implicitDefEqProofs only [leafA, innerA, nodeA, patchA, Leaf.cells, Inner.cells, Node.cells, decide_true, decide_false, ne_eq, not_true_eq_false, go_sem, Nat.reduceEqDiff, reduceIte, Nat.reduceAdd, Nat.reduceLeDiff, Nat.reduceLT, Nat.reduceSub]
  refine hK _ ?_
  clear hK K
  refine WP.seqR [r323] fun K hK => ?_
  simp -implicitDefEqProofs only [leafA, innerA, nodeA, patchA, Leaf.cells, Inner.cells, Node.cells, r323_c, r323_ask, decide_true, decide_false, oa, hb, go_sem, Nat.reduceEqDiff, reduceIte, Nat.reduceAdd, Nat.reduceLeDiff, Nat.reduceLT, Nat.reduceSub]
  refine hK _ ?_
  clear hK K
  refine WP.seqR [] fun K hK => ?_
  simp -implicitDefEqProofs only [leafA, innerA, nodeA, patchA, Leaf.cells, Inner.cells, Node.cells, decide_true, decide_false, g1, g2, ne_eq, not_true_eq_false, go_sem, Nat.reduceEqDiff, reduceIte, Nat.reduceAdd, Nat.reduceLeDiff, Nat.reduceLT, Nat.reduceSub]
  refine hK _ ?_
  clear hK K
  refine WP.weakL [(0, nodes t), (3, .ptr 0 0), (5, .bool true), (6, nodes a), (7, .int .i64 n), (9, nodes b)] ?_ ?_
  · simp only [envL_cons, Nat.reduceEqDiff, reduceIte, List.mem_cons, List.not_mem_nil, or_false, forall_eq_or_imp, forall_eq, weak_refl, and_self]
  refine WP.seqR [] fun K hK => ?_
  simp -implicitDefEqProofs only [leafA, innerA, nodeA, patchA, Leaf.cells, Inner.cells, Node.cells, decide_true, decide_false, go_sem, Nat.reduceEqDiff, reduceIte, Nat.reduceAdd, Nat.reduceLeDiff, Nat.reduceLT, Nat.reduceSub]
  refine WP.loopG (fun k => k ≤ b.length) (fun k => [(0, nodes t), (5, .bool true), (6, nodes a), (7, .int .i64 n), (9, nodes b), (11, .int .i64 (k : Nat))]) (fun _ => [.box [octs l.enc, octs l.cred, .int .i64 l.source, octs l.parent]]) (fun k => b.length - k) 0 (Nat.zero_le _)
    (fun k _ => ⟨by simp, by simp [idb_patchA], fun e he => by (simp only [List.mem_cons, List.not_mem_nil, or_false] at he); (rcases he with rfl | rfl | rfl | rfl | rfl | rfl) <;> first | exact encNode.entB _ _ _ _ | exact encI64.entB _ _ _ _ | exact encU8.entB _ _ _ _ | simp ⟩) (by simp ) ?_
  intro k hk
  refine wpc_soundR [r255, r106] ?_
  by_cases hlt : (k : Int) < (b.length : Nat)
  · have hk' : k < b.length := by omega
    have oA := ob.at hk'
    have w2 : IntKind.i64.wrap ((k : Int) + 1) = ((k + 1 : Nat) : Int) := wrapS (by omega)
    have hsl : ∀ H, evSlice H 8 (nodes b) (some (.int .i64 (k : Int))) (some (.int .i64 ((k + 1 : Nat) : Int))) none = some (nodes [b[k]]) := fun H => by
      have := encNode.sliceFT H b (k : Int) ((k + 1 : Nat) : Int) (by omega) (by omega) (by omega)
      rw [show (b.take ((k + 1 : Nat) : Int).toNat).drop ((k : Int)).toNat = [b[k]] by
        rw [Int.toNat_natCast, Int.toNat_natCast, List.take_succ_eq_append_getElem hk', List.drop_left' (by rw [List.length_take]; omega)]] at this
      exact this
    have ok1 : Tree.Ok [b[k]] := ⟨by simp [Small], fun n hn => by rw [List.mem_singleton] at hn; rw [hn]; exact oA⟩
    have at' := hat k hk'
    rw [nodeAt_lt hk'] at at'
    by_cases hkt : k < t.length
    · have n2 : (k : Int) < (t.length : Nat) := by omega
      by_cases hu : (k : Int) ∈ ups (2 * n) a.length
      · rw [if_neg fun h => h.2 hu] at at'
        rw [at'] at hsl ok1
        simp -implicitDefEqProofs only [leafA, innerA, nodeA, patchA, Leaf.cells, Inner.cells, Node.cells, r255_c, r255_ask, r106_c, r106_ask, decide_true, decide_false, hlt, n2, w1, hu, not_true_eq_false, go_sem, Nat.reduceEqDiff, reduceIte, Nat.reduceAdd, Nat.reduceLeDiff, Nat.reduceLT, Nat.reduceSub]
        refine WP.weakB 1 zcells rfl zweak ?_
        unfold zcells
        simp only [List.set_cons_succ, List.set_cons_zero]
        refine WP.drawQ [r106] [.l, .l, .l, .l, .g 0 0, .g 0 0, .l, .l, .l] mixed (by decide) ?_
        simp -implicitDefEqProofs only [leafA, innerA, nodeA, patchA, Leaf.cells, Inner.cells, Node.cells, r255_c, r255_ask, r106_c, r106_ask, decide_true, decide_false, w2, hsl, ok1, isNs1, dNs1, isNsZ, dNsZ, litD_own, litE_some, not_true_eq_false, go_sem, Nat.reduceEqDiff, reduceIte, Nat.reduceAdd, Nat.reduceLeDiff, Nat.reduceLT, Nat.reduceSub]
        exact ⟨k + 1, by omega, by omega, by simp [w2]⟩
      · rw [if_pos ⟨hkt, hu⟩, nodeAt_lt hkt] at at'
        rw [at'] at hsl ok1
        simp -implicitDefEqProofs only [leafA, innerA, nodeA, patchA, Leaf.cells, Inner.cells, Node.cells, r255_c, r255_ask, r106_c, r106_ask, decide_true, decide_false, hlt, n2, w1, hu, not_false_eq_true, fun H => ix_nodes H t k hkt, go_sem, Nat.reduceEqDiff, reduceIte, Nat.reduceAdd, Nat.reduceLeDiff, Nat.reduceLT, Nat.reduceSub]
        refine WP.drawQ [r106] [.l, .l, .l, .l, .g 0 0, .g 0 0, .l, .l, .l] mixed (by decide) ?_
        simp -implicitDefEqProofs only [leafA, innerA, nodeA, patchA, Leaf.cells, Inner.cells, Node.cells, r255_c, r255_ask, r106_c, r106_ask, decide_true, decide_false, w2, hsl, ok1, isNs1, dNs1, isNsZ, dNsZ, litD_own, litE_some, not_true_eq_false, go_sem, Nat.reduceEqDiff, reduceIte, Nat.reduceAdd, Nat.reduceLeDiff, Nat.reduceLT, Nat.reduceSub]
        exact ⟨k + 1, by omega, by omega, by simp [w2]⟩
    · have n2 : ¬ (k : Int) < (t.length : Nat) := by omega
      rw [if_neg fun h => hkt h.1] at at'
      rw [at'] at hsl ok1
      simp -implicitDefEqProofs only [leafA, innerA, nodeA, patchA, Leaf.cells, Inner.cells, Node.cells, r255_c, r255_ask, r106_c, r106_ask, decide_true, decide_false, hlt, n2, go_sem, Nat.reduceEqDiff, reduceIte, Nat.reduceAdd, Nat.reduceLeDiff, Nat.reduceLT, Nat.reduceSub]
      refine WP.weakB 1 zcells rfl zweak ?_
      unfold zcells
      simp only [List.set_cons_succ, List.set_cons_zero]
      refine WP.drawQ [r106] [.l, .l, .l, .l, .g 0 0, .g 0 0, .l, .l, .l] mixed (by decide) ?_
      simp -implicitDefEqProofs only [leafA, innerA, nodeA, patchA, Leaf.cells, Inner.cells, Node.cells, r255_c, r255_ask, r106_c, r106_ask, decide_true, decide_false, w2, hsl, ok1, isNs1, dNs1, isNsZ, dNsZ, litD_own, litE_some, not_true_eq_false, go_sem, Nat.reduceEqDiff, reduceIte, Nat.reduceAdd, Nat.reduceLeDiff, Nat.reduceLT, Nat.reduceSub]
      exact ⟨k + 1, by omega, by omega, by simp [w2]⟩
  · simp -implicitDefEqProofs only [leafA, innerA, nodeA, patchA, Leaf.cells, Inner.cells, Node.cells, r255_c, r255_ask, r106_c, r106_ask, decide_true, decide_false, hlt, go_sem, Nat.reduceEqDiff, reduceIte, Nat.reduceAdd, Nat.reduceLeDiff, Nat.reduceLT, Nat.reduceSub]
    refine hK _ (wpc_soundR [r108, r106] ?_)
    simp -implicitDefEqProofs only [leafA, innerA, nodeA, patchA, Leaf.cells, Inner.cells, Node.cells, r108_c, r108_ask, r106_c, r106_ask, decide_true, decide_false, ob, htb, go_sem, Nat.reduceEqDiff, reduceIte, Nat.reduceAdd, Nat.reduceLeDiff, Nat.reduceLT, Nat.reduceSub]
end Go.Proofs.YtihhinbjhiankaaGreatDoor.Al

namespace Go.Proofs.YtihhinbjhiankaaGreatDoor.Al
open Go

def il321 : IFn := ⟨113, [(.t 6)], (.seq (.region [⟨(some 5), (.box (.t 2)), none, []⟩, ⟨(some 6), (.mv (.c (.bool false))), none, []⟩] false) (.seq (.region [⟨(some 20), (.call (.f 334) []), none, []⟩, ⟨(some 7), (.mv (.t 20)), none, [0, 0, 0]⟩] false) (.seq (.seq (.region [⟨(some 21), (.mv (.t 0)), none, []⟩, ⟨(some 22), (.call (.f 100) [(.t 21)]), none, [0]⟩, ⟨(some 23), (.un .not (.t 22)), none, [1]⟩, ⟨(some 24), (.mv (.t 23)), none, [2, 1]⟩, ⟨(some 25), (.mv (.t 0)), (some (24, false)), [3]⟩, ⟨(some 26), (.call (.f 101) [(.t 25)]), (some (24, false)), [4, 3, 3]⟩, ⟨(some 27), (.un .not (.t 26)), (some (24, false)), [5, 3]⟩, ⟨(some 28), (.pick (.t 24) (.c (.bool true)) (.t 27)), none, [3, 6]⟩] false) (.cond (.t 28) (.seq (.region [⟨(some 29), (.mv (.t 7)), none, []⟩, ⟨(some 6), (.mv (.t 29)), none, [0, 0]⟩] false) .ret) .skip)) (.seq (.region [⟨(some 31), (.mv (.t 0)), none, []⟩, ⟨(some 32), (.mv (.t 1)), none, []⟩, ⟨(some 33), (.call (.f 323) [(.t 31), (.t 32)]), none, [0, 1]⟩, ⟨(some 30), (.mv (.t 33)), none, [2]⟩, ⟨(some 34), (.extract (.t 30) 0), none, [3]⟩, ⟨(some 35), (.extract (.t 30) 1), none, [3]⟩, ⟨(some 8), (.mv (.t 34)), none, [4, 2, 0, 1, 2, 3, 4]⟩, ⟨(some 9), (.mv (.t 35)), none, [5, 6, 0, 1, 2, 3, 4, 5, 6]⟩] false) (.seq (.seq (.region [⟨(some 36), (.mv (.t 9)), none, []⟩, ⟨(some 37), (.bin false .neq (.t 36) (.c (.int .i64 0))), none, [0]⟩] false) (.cond (.t 37) (.seq (.region [⟨(some 38), (.mv (.t 7)), none, []⟩, ⟨(some 39), (.mv (.t 38)), none, [0]⟩, ⟨(some 40), (.mv (.t 9)), (some (39, true)), [1]⟩, ⟨(some 41), (.bin false .eql (.t 40) (.c (.int .i64 3))), (some (39, true)), [2, 1]⟩, ⟨(some 42), (.mv (.t 41)), (some (39, true)), [3, 1, 1]⟩, ⟨(some 43), (.mv (.t 9)), (some (42, false)), [4]⟩, ⟨(some 44), (.bin false .eql (.t 43) (.c (.int .i64 9))), (some (42, false)), [5, 4]⟩, ⟨(some 45), (.pick (.t 42) (.c (.bool true)) (.t 44)), (some (39, true)), [4, 6, 1]⟩, ⟨(some 46), (.pick (.t 39) (.t 45) (.c (.bool false))), none, [1, 7]⟩, ⟨(some 47), (.mv (.t 46)), none, [8, 4]⟩, ⟨(some 48), (.mv (.t 8)), (some (47, true)), [9]⟩, ⟨(some 49), (.len (.t 48)), (some (47, true)), [10, 9]⟩, ⟨(some 50), (.bin false .eql (.t 49) (.c (.int .i64 0))), (some (47, true)), [11, 9]⟩, ⟨(some 51), (.pick (.t 47) (.t 50) (.c (.bool false))), none, [9, 12]⟩, ⟨(some 6), (.mv (.t 51)), none, [13, 9, 0, 1, 2, 3, 4, 5, 6, 7, 8, 9, 10, 11, 12, 13]⟩] false) .ret) .skip)) (.seq (.region [⟨(some 53), (.mv (.t 8)), none, []⟩, ⟨(some 54), (.mv (.t 1)), none, []⟩, ⟨(some 55), (.call (.f 323) [(.t 53), (.t 54)]), none, [0, 1]⟩, ⟨(some 52), (.mv (.t 55)), none, [2]⟩, ⟨(some 56), (.extract (.t 52) 0), none, [3]⟩, ⟨(some 57), (.extract (.t 52) 1), none, [3]⟩, ⟨(some 10), (.mv (.t 56)), none, [4, 2, 0, 1, 2, 3, 4]⟩, ⟨(some 11), (.mv (.t 57)), none, [5, 6, 0, 1, 2, 3, 4, 5, 6]⟩] false) (.seq (.region [⟨(some 59), (.mv (.t 8)), none, []⟩, ⟨(some 60), (.mv (.t 1)), none, []⟩, ⟨(some 61), (.load true 4 (.t 5)), none, []⟩, ⟨(some 62), (.call (.f 324) [(.t 59), (.t 60), (.t 61)]), none, [0, 1, 2]⟩, ⟨(some 58), (.mv (.t 62)), none, [3]⟩, ⟨(some 63), (.extract (.t 58) 0), none, [4]⟩, ⟨(some 64), (.extract (.t 58) 1), none, [4]⟩, ⟨(some 12), (.mv (.t 63)), none, [5, 3, 0, 1, 2, 3, 4, 5]⟩, ⟨(some 13), (.mv (.t 64)), none, [6, 7, 0, 1, 2, 3, 4, 5, 6, 7]⟩] false) (.seq (.region [⟨(some 66), (.mv (.t 8)), none, []⟩, ⟨(some 67), (.mv (.t 1)), none, []⟩, ⟨(some 68), (.load true 4 (.t 5)), none, []⟩, ⟨(some 69), (.call (.f 336) [(.t 66), (.t 67), (.t 68), (.c (.list true []))]), none, [0, 1, 2]⟩, ⟨(some 65), (.mv (.t 69)), none, [3]⟩, ⟨(some 70), (.extract (.t 65) 0), none, [4]⟩, ⟨(some 71), (.extract (.t 65) 1), none, [4]⟩, ⟨(some 14), (.mv (.t 70)), none, [5, 3, 0, 1, 2, 3, 4, 5]⟩, ⟨(some 15), (.mv (.t 71)), none, [6, 7, 0, 1, 2, 3, 4, 5, 6, 7]⟩] false) (.seq (.region [⟨(some 73), (.mv (.t 8)), none, []⟩, ⟨(some 74), (.load true 4 (.t 5)), none, []⟩, ⟨(some 75), (.call (.f 322) [(.t 73), (.t 74)]), none, [0, 1]⟩, ⟨(some 72), (.mv (.t 75)), none, [2]⟩, ⟨(some 76), (.extract (.t 72) 0), none, [3]⟩, ⟨(some 77), (.extract (.t 72) 1), none, [3]⟩, ⟨(some 78), (.extract (.t 72) 2), none, [3]⟩, ⟨(some 16), (.mv (.t 76)), none, [4, 2, 0, 1, 2, 3, 4]⟩, ⟨(some 17), (.mv (.t 77)), none, [5, 7, 0, 1, 2, 3, 4, 5, 7]⟩, ⟨(some 18), (.mv (.t 78)), none, [6, 8, 0, 1, 2, 3, 4, 5, 6, 7, 8]⟩] false) (.seq (.region [⟨(some 79), (.mv (.t 8)), none, []⟩, ⟨(some 80), (.call (.f 102) [(.t 79)]), none, [0]⟩, ⟨(some 19), (.mv (.t 80)), none, [1, 1, 0, 1]⟩] false) (.seq (.seq (.region [⟨(some 81), (.mv (.t 19)), none, []⟩, ⟨(some 82), (.bin false .lss (.t 81) (.c (.int .i64 0))), none, [0]⟩] false) (.cond (.t 82) (.region [⟨(some 83), (.mv (.t 8)), none, []⟩, ⟨(some 84), (.call (.f 103) [(.t 83)]), none, [0]⟩, ⟨(some 19), (.mv (.t 84)), none, [1, 1, 0, 1]⟩] false) .skip)) (.seq (.region [⟨(some 85), (.mv (.t 7)), none, []⟩, ⟨(some 86), (.mv (.t 85)), none, [0]⟩, ⟨(some 87), (.mv (.t 11)), (some (86, true)), [1]⟩, ⟨(some 88), (.bin false .eql (.t 87) (.c (.int .i64 3))), (some (86, true)), [2, 1]⟩, ⟨(some 89), (.mv (.t 88)), (some (86, true)), [3, 1, 1]⟩, ⟨(some 90), (.mv (.t 11)), (some (89, false)), [4]⟩, ⟨(some 91), (.bin false .eql (.t 90) (.c (.int .i64 9))), (some (89, false)), [5, 4]⟩, ⟨(some 92), (.pick (.t 89) (.c (.bool true)) (.t 91)), (some (86, true)), [4, 6, 1]⟩, ⟨(some 93), (.pick (.t 86) (.t 92) (.c (.bool false))), none, [1, 7]⟩, ⟨(some 94), (.mv (.t 93)), none, [8, 4]⟩, ⟨(some 95), (.mv (.t 13)), (some (94, true)), [9]⟩, ⟨(some 96), (.mv (.t 11)), (some (94, true)), [9]⟩, ⟨(some 97), (.bin false .eql (.t 95) (.t 96)), (some (94, true)), [10, 11, 9]⟩, ⟨(some 98), (.pick (.t 94) (.t 97) (.c (.bool false))), none, [9, 12]⟩, ⟨(some 99), (.mv (.t 98)), none, [13, 9]⟩, ⟨(some 100), (.mv (.t 15)), (some (99, true)), [14]⟩, ⟨(some 101), (.mv (.t 11)), (some (99, true)), [14]⟩, ⟨(some 102), (.bin false .eql (.t 100) (.t 101)), (some (99, true)), [15, 16, 14]⟩, ⟨(some 103), (.pick (.t 99) (.t 102) (.c (.bool false))), none, [14, 17]⟩, ⟨(some 104), (.mv (.t 103)), none, [18, 14]⟩, ⟨(some 105), (.mv (.t 18)), (some (104, true)), [19]⟩, ⟨(some 106), (.bin false .neq (.t 105) (.c (.int .i64 0))), (some (104, true)), [20, 19]⟩, ⟨(some 107), (.mv (.t 106)), (some (104, true)), [21, 19, 19]⟩, ⟨(some 108), (.mv (.t 17)), (some (107, false)), [22]⟩, ⟨(some 109), (.mv (.t 19)), (some (107, false)), [22]⟩, ⟨(some 110), (.bin false .eql (.t 108) (.t 109)), (some (107, false)), [23, 24, 22]⟩, ⟨(some 111), (.pick (.t 107) (.c (.bool true)) (.t 110)), (some (104, true)), [22, 25, 19]⟩, ⟨(some 112), (.pick (.t 104) (.t 111) (.c (.bool false))), none, [19, 26]⟩, ⟨(some 6), (.mv (.t 112)), none, [27, 22, 0, 1, 2, 3, 4, 5, 6, 7, 8, 9, 10, 11, 12, 13, 14, 15, 16, 17, 18, 19, 20, 21, 22, 23, 24, 25, 26, 27]⟩] false) .ret))))))))))))⟩
theorem told321 : trFn seat 321 = some il321 := by kernel_rfl

def il336 : IFn := ⟨20, [(.t 8), (.t 9)], (.seq (.region [⟨(some 5), (.box (.t 1)), none, []⟩, ⟨(some 6), (.box (.t 2)), none, []⟩, ⟨(some 7), (.box (.t 3)), none, []⟩, ⟨(some 8), (.mv (.c (.list true []))), none, []⟩, ⟨(some 9), (.mv (.c (.int .i64 0))), none, [3]⟩] false) (.seq (.region [⟨(some 11), (.mkfunc 350 [] [(.t 5), (.t 7), (.t 6)]), none, []⟩, ⟨(some 12), (.build [(.int .i64 0), .nilfunc] [(0, (1, (.c (.int .i64 3)))), (1, (1, (.t 11)))]), none, [0]⟩, ⟨(some 10), (.alloc [(.int .i64 0), .nilfunc]), none, []⟩, ⟨none, (.store 2 (.t 10) (.t 12)), none, [2, 1, 0, 1, 2]⟩] false) (.seq (.region [⟨(some 13), (.load true 2 (.t 10)), none, []⟩, ⟨(some 14), (.mv (.t 0)), none, []⟩, ⟨(some 15), (.load false 1 (.t 5)), none, []⟩, ⟨(some 16), (.load true 4 (.t 6)), none, []⟩, ⟨(some 17), (.call (.f 341) [(.t 13), (.t 14), (.t 15), (.t 16)]), none, [0, 1, 2, 3]⟩, ⟨(some 18), (.extract (.t 17) 0), none, [4]⟩, ⟨(some 19), (.extract (.t 17) 1), none, [4]⟩, ⟨(some 8), (.mv (.t 18)), none, [5, 4, 0, 1, 2, 3, 4, 5, 6]⟩, ⟨(some 9), (.mv (.t 19)), none, [6, 7, 0, 1, 2, 3, 4, 5, 6, 7]⟩] false) .ret)))⟩
theorem told336 : trFn seat 336 = some il336 := by kernel_rfl

def il350 : IFn := ⟨29, [(.t 5), (.t 6)], (.seq (.region [⟨(some 5), (.mv (.c (.list true []))), none, []⟩, ⟨(some 6), (.mv (.c (.int .i64 0))), none, [0]⟩] false) (.seq (.region [⟨(some 11), (.mv (.t 0)), none, []⟩, ⟨(some 12), (.load false 1 (.t 1)), none, []⟩, ⟨(some 13), (.load false 1 (.t 2)), none, []⟩, ⟨(some 14), (.call (.f 351) [(.t 11), (.t 12), (.t 13)]), none, [0, 1, 2]⟩, ⟨(some 10), (.mv (.t 14)), none, [3]⟩, ⟨(some 15), (.extract (.t 10) 0), none, [4]⟩, ⟨(some 16), (.extract (.t 10) 1), none, [4]⟩, ⟨(some 17), (.extract (.t 10) 2), none, [4]⟩, ⟨(some 7), (.mv (.t 15)), none, [5, 3, 0, 1, 2, 3, 4, 5]⟩, ⟨(some 8), (.mv (.t 16)), none, [6, 8, 0, 1, 2, 3, 4, 5, 6, 8]⟩, ⟨(some 9), (.mv (.t 17)), none, [7, 9, 0, 1, 2, 3, 4, 5, 6, 7, 8, 9]⟩] false) (.seq (.seq (.region [⟨(some 18), (.mv (.t 9)), none, []⟩, ⟨(some 19), (.bin false .eql (.t 18) (.c (.int .i64 0))), none, [0]⟩, ⟨(some 20), (.mv (.t 19)), none, [1]⟩, ⟨(some 21), (.mv (.t 8)), (some (20, true)), [2]⟩, ⟨(some 22), (.faddr 3 (.t 3)), (some (20, true)), [2]⟩, ⟨(some 23), (.load false 1 (.t 22)), (some (20, true)), [4, 2]⟩, ⟨(some 24), (.call (.f 156) [(.t 21), (.t 23)]), (some (20, true)), [3, 5, 2, 2]⟩, ⟨(some 25), (.un .not (.t 24)), (some (20, true)), [6, 2]⟩, ⟨(some 26), (.pick (.t 20) (.t 25) (.c (.bool false))), none, [2, 7]⟩] false) (.cond (.t 26) (.seq (.region [⟨(some 5), (.mv (.c (.list true []))), none, []⟩, ⟨(some 6), (.mv (.c (.int .i64 12))), none, [0, 0]⟩] false) .ret) .skip)) (.seq (.region [⟨(some 27), (.mv (.t 7)), none, []⟩, ⟨(some 28), (.mv (.t 9)), none, []⟩, ⟨(some 5), (.mv (.t 27)), none, [0, 0]⟩, ⟨(some 6), (.mv (.t 28)), none, [1, 2, 0, 1, 2]⟩] false) .ret))))⟩
theorem told350 : trFn seat 350 = some il350 := by kernel_rfl

end Go.Proofs.YtihhinbjhiankaaGreatDoor.Al

set_option linter.unusedSimpArgs false
set_option linter.unusedVariables false
namespace Go.Proofs.YtihhinbjhiankaaGreatDoor.Al
open Go
attribute [local go_sem] W_mv W_pick W_alloc W_box W_build W_bslice W_load W_store W_bin W_isnil W_un W_convI W_convS W_mkfunc W_mkslice W_slice W_faddr W_field W_iaddr W_extract W_len W_min W_append W_appendZ W_copy W_invoke thenQ_normal thenQ_exit thenQ_goto thenQ_ret blockQ_normal blockQ_ret blockQ_goto blockQ_exit wpc_skip wpc_region wpc_draw wpc_seq wpc_cond wpc_block wpc_exit wpc_goto wpc_label wpc_ret wpc_loop wpc_range wpc_scope condW_true condW_false condW_dec condW_any W_nil W_call resW_some evalOp Opd.ev updo_envL updo_none setL_cons setL_nil envL_cons Option.map_some Option.bind_some evBin evInt List.map_cons List.map_nil Option.pure_def Option.bind_eq_bind W_grd' grdW_tt grdW_ff grdW_tf grdW_ft grdW_tup grdW_dt grdW_df lgrdW_tup L_mv L_load L_bin L_un L_faddr L_iaddr L_nil L_call lresW_some upd_envL evUn beq_dec bne_dec leaves_ret1 leaves_ret0 leaves_end0 rowLen_ints load_iptr0 not_dec heap_get0 heap_get1 heap_set0 heap_set1 heap_len1 heap_app bslice1_int seen_ints seen_one0 Nat.sub_zero Bool.not_true Bool.not_false List.length_nil List.length_cons List.nil_append List.cons_append Nat.zero_add load_iptrA canon_ptrI canon_bool canon_tup canon_agg canon_ints' canon_ints0 rowLen_octs seen_octs canon_octs' seen_intss seen_octss rowLen_nodes seen_nodes canon_nodes' rowLen_nodes0 rowLen_nodes1 seen_list cells_int oneIn_int cells_bool oneIn_bool cells_str oneIn_str cells_list oneIn_list cells_func oneIn_func cells_nilfunc oneIn_nilfunc cells_iptr oneIn_iptr cells_iface oneIn_iface cells_nilIface oneIn_nilIface cells_own cells_ptr cells_anybool oneIn_anybool cells_agg oneIn_own0 oneIn_own1 oneIn_own3 oneIn_own4 oneIn_own5 cells_ints oneIn_ints cells_octs oneIn_octs cells_intss oneIn_intss cells_octss oneIn_octss cells_nodes oneIn_nodes ldB0 ldA0 adB0 stB0 ldB1 ldA1 adB1 stB1 ldB2 ldA2 adB2 stB2 ldB3 ldA3 adB3 stB3 ldB4 ldA4 adB4 stB4 ldB5 ldA5 adB5 stB5 List.getElem?_cons_zero List.getElem?_cons_succ beq_self_eq_true splice List.take_zero List.take_succ_cons List.drop_zero List.drop_succ_cons List.append_nil List.set_cons_zero List.set_cons_succ List.all_cons List.all_nil Bool.and_self and_self and_true true_and Nat.lt_irrefl Nat.zero_lt_one Nat.le_refl fillA evNil notA Bool.false_eq_true evMin_int evMax_int Option.map_none freezeP_all_nil freezeP_all_cons frzE_box frzE_arr frzE_dead foldA List.foldlM_cons List.foldlM_nil callW_f lcallW_f ansW_fn ansW_own lansW_fn lansW_own ansW_none lansW_none tab_cons tab_nil dI_int dB_bool dO_octs dO_ints dO_nil dOs_nil dN_nodeA dLf_agg dIn_agg dN_agg dNs_nodes dNs_nil isI_int isO_octs isO_nil isS_ints isS_nil isNs_nodes isNs_nil isLf_agg isIn_agg isN_agg leaf_eta inner_eta node_eta leaf_zero inner_zero node_zero dP_agg isP_agg patch_eta decide_eq_true_eq decide_eq_false_iff_not eq_self forall_const true_implies false_implies Bool.not_eq_true' Bool.not_eq_false' Bool.true_eq_false implies_true ne_eq ldI ldIA adI AV.tup.injEq AV.agg.injEq List.cons.injEq AV.int.injEq AV.bool.injEq nodes_inj octs_inj ints_inj nil_nodes nil_octs nil_ints canon_nilL decide_eq_decide two_ne lendA_fn lendA_own lendA_none llendA_fn llendA_none plain_bool plain_int isNs_own isS_own false_and and_false Q_nil Q_l Q_g Q_h qgrdW_b qgrdW_tup lightD_some heavyD_some readD_some fnD_some fnD_own fnD_none callL_f ownH_some callH_f litD_some litE_some Q_call Q_bslice H_call pendOk_nil pendOk_cons pastOk_nil pastOk_cons Q_mv Q_pick Q_bin Q_un Q_convI Q_mkfunc Q_extract Q_min Q_max Q_lenS Q_lenA Q_field Q_idxA Q_mkiface Q_tassert Q_alloc Q_box Q_store Q_mkslice Q_append Q_appendZ Q_copy Q_clear Q_build Q_load Q_nilck Q_isnil Q_convS Q_slice Q_faddr Q_iaddr Q_iaddrA Q_len H_alloc H_box H_bslice H_store H_mkslice H_append H_appendZ H_copy H_clear free_mv free_pick free_bin free_un free_convI free_mkfunc free_extract free_min free_max free_lenS free_lenA free_field free_idxA free_mkiface free_tassert free_build free_load free_nilck free_isnil free_convS free_slice free_faddr free_iaddr free_iaddrA free_len callW_y List.length_map List.length_set leaves_r evR_some evRess1 evRess2 evRess3 evRes_t evRes_c nz_kind nz_enc nz_cred nz_source nz_parent nz_ienc nz_hash nz_un true_or or_true bsl_node idbs_node idbs_int appN appI ixo_nodes canon_row canon_rowI canon_rowO not_false_eq_true not_true_eq_false ldE_a ldE_c adE_b stE_b onE_a onP_b bsl_zero idbs_zero appN_zero
attribute [local go_sem low] condW_b grdW_b lgrdW_b ldP adP stP onO onPt
attribute [local simp] envL_cons envL_nil idb_int idb_bool idb_ints idb_nil idb_own idb_ptr idb_octs idb_nodes idb_leafA idb_innerA idb_nodeA idb_agg idb_tup idb_iptr idb_fn entB_dead entB_box
/-- A leaf that is not there cannot be committed. -/
theorem comNo_spec (t : List Node) (i : Int) (l : Leaf) (ht : Tree.Ok t) (hl : l.Ok) (h : haveT t i ≠ 0) : Fun seat 336 [nodes t, .int .i64 i, leafA l, .list true []] (.tup [nodes [], .int .i64 (haveT t i)]) := by
  have h' := on_spec told350 [.iptr [.int .i64 i] 0, .iptr [.list true []] 0, .iptr (leafA l).cells 0] (by simp [leafA, Leaf.cells, AV.cells]) (fun a => ([], 0)) 3 t i l ht hl (fun h0 => absurd h0 h) (fun h0 => absurd h0 h)
  have e : onT 3 (fun a => ([], 0)) t i l = ([], haveT t i) := if_pos h
  rw [e] at h'
  refine Fun.of0W told336 (by simp [il336]) (by simp [leafA, Leaf.cells]) (by simp ) 4 ?_
  simp only [il336, List.zipIdx_cons, List.zipIdx_nil]
  refine WP.seqR [] fun K hK => ?_
  simp -implicitDefEqProofs only [leafA, innerA, nodeA, patchA, Leaf.cells, Inner.cells, Node.cells, decide_true, decide_false, go_sem, Nat.reduceEqDiff, reduceIte, Nat.reduceAdd, Nat.reduceLeDiff, Nat.reduceLT, Nat.reduceSub]
  refine hK _ ?_
  clear hK K
  refine WP.sealB 5 0 rfl rfl (WP.sealB 7 2 rfl rfl (WP.sealB 6 1 rfl rfl ?_))
  refine wpc_soundR [] ?_
  simp -implicitDefEqProofs only [leafA, innerA, nodeA, patchA, Leaf.cells, Inner.cells, Node.cells, decide_true, decide_false, go_sem, Nat.reduceEqDiff, reduceIte, Nat.reduceAdd, Nat.reduceLeDiff, Nat.reduceLT, Nat.reduceSub]
  refine Callee.f told341 h' ?_
  simp -implicitDefEqProofs only [leafA, innerA, nodeA, patchA, Leaf.cells, Inner.cells, Node.cells, decide_true, decide_false, go_sem, Nat.reduceEqDiff, reduceIte, Nat.reduceAdd, Nat.reduceLeDiff, Nat.reduceLT, Nat.reduceSub]
  try exact ⟨rfl, rfl⟩
noncomputable def r336 : Reg seat := .of told336 (ask4 (fun a0' a1' a2' a3' => isNs a0' ∧ isI a1' ∧ isLf a2' ∧ a3' = .list true [] ∧ Tree.Ok (dNs a0') ∧ (dLf a2').Ok ∧ haveT (dNs a0') (dI a1') ≠ 0) fun a0' a1' a2' a3' => .fn (.tup [nodes [], .int .i64 (haveT (dNs a0') (dI a1'))])) (ask4_ok fun a0' a1' a2' a3' h => SaidOk.fn (Fun.weak (.cons (isNs.weak h.1) (.cons (isI.weak h.2.1) (.cons (isLf.weak h.2.2.1) (.cons (Weak.of_eq h.2.2.2.1) .nil)))) (comNo_spec _ _ _ h.2.2.2.2.1 h.2.2.2.2.2.1 h.2.2.2.2.2.2)))
theorem r336_c : r336.c = 336 := rfl
open Classical in
theorem r336_ask (a0' a1' a2' a3' : AV) : r336.ask [a0', a1', a2', a3'] = if isNs a0' ∧ isI a1' ∧ isLf a2' ∧ a3' = .list true [] ∧ Tree.Ok (dNs a0') ∧ (dLf a2').Ok ∧ haveT (dNs a0') (dI a1') ≠ 0 then some (Said.fn (.tup [nodes [], .int .i64 (haveT (dNs a0') (dI a1'))])) else none := by unfold r336 Reg.of ask4; exact ite_cl
set_option maxRecDepth 100000 in
set_option maxHeartbeats 4000000 in
theorem editGone_spec (t : List Node) (i : Int) (l : Leaf) (ht : Tree.Ok t) (hi : In64 i) (hl : l.Ok) : Fun seat 321 [nodes t, .int .i64 i, leafA l] (.bool true) := by
  by_cases hf : Few t
  rotate_left
  · refine Fun.of0R [r334, r100] told321 (by simp [il321]) (by simp [idb_patchA]) (by simp [idb_patchA]) 4 ?_
    simp -implicitDefEqProofs only [il321, List.zipIdx_cons, List.zipIdx_nil, leafA, innerA, nodeA, patchA, Leaf.cells, Inner.cells, Node.cells, r334_c, r334_ask, r100_c, r100_ask, decide_true, decide_false, ht, hf, go_sem, Nat.reduceEqDiff, reduceIte, Nat.reduceAdd, Nat.reduceLeDiff, Nat.reduceLT, Nat.reduceSub]
  by_cases hs : Sane t
  rotate_left
  · refine Fun.of0R [r334, r100, r101] told321 (by simp [il321]) (by simp [idb_patchA]) (by simp [idb_patchA]) 4 ?_
    simp -implicitDefEqProofs only [il321, List.zipIdx_cons, List.zipIdx_nil, leafA, innerA, nodeA, patchA, Leaf.cells, Inner.cells, Node.cells, r334_c, r334_ask, r100_c, r100_ask, r101_c, r101_ask, decide_true, decide_false, ht, hf, hs, go_sem, Nat.reduceEqDiff, reduceIte, Nat.reduceAdd, Nat.reduceLeDiff, Nat.reduceLT, Nat.reduceSub]
  have ob := remT_ok ht i
  rcases hb : remT t i with ⟨b, e⟩
  rw [hb] at ob
  simp only at ob
  have n30 : ((3 : Int) = 0) = False := eq_false (by decide)
  have n90 : ((9 : Int) = 0) = False := eq_false (by decide)
  have n93 : ((9 : Int) = 3) = False := eq_false (by decide)
  by_cases he : e = 0
  rotate_left
  · have h0 : haveT t i ≠ 0 := by
      intro h0
      unfold remT at hb
      rw [if_neg (not_not_intro h0)] at hb
      exact he (congrArg Prod.snd hb).symm
    rw [remT_no h0] at hb
    cases hb
    rcases haveT_is t i with h | h | h
    · exact absurd h h0
    · have hr : remT t i = ([], 3) := by rw [remT_no h0, h]
      refine Fun.of0R [r334, r100, r101, r323] told321 (by simp [il321]) (by simp [idb_patchA]) (by simp [idb_patchA]) 4 ?_
      simp -implicitDefEqProofs only [il321, List.zipIdx_cons, List.zipIdx_nil, leafA, innerA, nodeA, patchA, Leaf.cells, Inner.cells, Node.cells, r334_c, r334_ask, r100_c, r100_ask, r101_c, r101_ask, r323_c, r323_ask, decide_true, decide_false, ht, hf, hs, hr, ne_eq, not_false_eq_true, List.length_nil, z00, n30, n90, n93, go_sem, Nat.reduceEqDiff, reduceIte, Nat.reduceAdd, Nat.reduceLeDiff, Nat.reduceLT, Nat.reduceSub]
    · have hr : remT t i = ([], 9) := by rw [remT_no h0, h]
      refine Fun.of0R [r334, r100, r101, r323] told321 (by simp [il321]) (by simp [idb_patchA]) (by simp [idb_patchA]) 4 ?_
      simp -implicitDefEqProofs only [il321, List.zipIdx_cons, List.zipIdx_nil, leafA, innerA, nodeA, patchA, Leaf.cells, Inner.cells, Node.cells, r334_c, r334_ask, r100_c, r100_ask, r101_c, r101_ask, r323_c, r323_ask, decide_true, decide_false, ht, hf, hs, hr, ne_eq, not_false_eq_true, List.length_nil, z00, n30, n90, n93, go_sem, Nat.reduceEqDiff, reduceIte, Nat.reduceAdd, Nat.reduceLeDiff, Nat.reduceLT, Nat.reduceSub]
  subst he
  obtain ⟨sb, hv⟩ := edit_gone hs hb
  have r1 := remT_no hv
  have r2 := chgT_no l hv
  rcases ha : addT b l with ⟨a, n, k⟩
  have hw : k = 0 → n = if freeT b < 0 then leaves_ b else freeT b := fun hk => by subst hk; exact addT_want sb ha
  have hv3 := haveT_is b i
  obtain ⟨v, hve⟩ : ∃ v, haveT b i = v := ⟨_, rfl⟩
  rw [hve] at r1 r2 hv3
  have hne : haveT b i ≠ 0 := hv
  have v0 : ¬ v = 0 := by rw [← hve]; exact hv
  refine Fun.of0W told321 (by simp [il321]) (by simp [leafA, Leaf.cells]) (by simp ) 4 ?_
  simp only [il321, List.zipIdx_cons, List.zipIdx_nil]
  refine WP.seqR [] fun K hK => ?_
  simp -implicitDefEqProofs only [leafA, innerA, nodeA, patchA, Leaf.cells, Inner.cells, Node.cells, decide_true, decide_false, go_sem, Nat.reduceEqDiff, reduceIte, Nat.reduceAdd, Nat.reduceLeDiff, Nat.reduceLT, Nat.reduceSub]
  refine hK _ ?_
  clear hK K
  refine WP.seqR [r334] fun K hK => ?_
  simp -implicitDefEqProofs only [leafA, innerA, nodeA, patchA, Leaf.cells, Inner.cells, Node.cells, r334_c, r334_ask, decide_true, decide_false, go_sem, Nat.reduceEqDiff, reduceIte, Nat.reduceAdd, Nat.reduceLeDiff, Nat.reduceLT, Nat.reduceSub]
  refine hK _ ?_
  clear hK K
  refine WP.seqR [r100, r101] fun K hK => ?_
  simp -implicitDefEqProofs only [leafA, innerA, nodeA, patchA, Leaf.cells, Inner.cells, Node.cells, r100_c, r100_ask, r101_c, r101_ask, decide_true, decide_false, ht, hf, hs, go_sem, Nat.reduceEqDiff, reduceIte, Nat.reduceAdd, Nat.reduceLeDiff, Nat.reduceLT, Nat.reduceSub]
  refine hK _ ?_
  clear hK K
  refine WP.seqR [r323] fun K hK => ?_
  simp -implicitDefEqProofs only [leafA, innerA, nodeA, patchA, Leaf.cells, Inner.cells, Node.cells, r323_c, r323_ask, decide_true, decide_false, ht, hb, go_sem, Nat.reduceEqDiff, reduceIte, Nat.reduceAdd, Nat.reduceLeDiff, Nat.reduceLT, Nat.reduceSub]
  refine hK _ ?_
  clear hK K
  refine WP.seqR [] fun K hK => ?_
  simp -implicitDefEqProofs only [leafA, innerA, nodeA, patchA, Leaf.cells, Inner.cells, Node.cells, decide_true, decide_false, ne_eq, not_true_eq_false, go_sem, Nat.reduceEqDiff, reduceIte, Nat.reduceAdd, Nat.reduceLeDiff, Nat.reduceLT, Nat.reduceSub]
  refine hK _ ?_
  clear hK K
  refine WP.seqR [r323] fun K hK => ?_
  simp -implicitDefEqProofs only [leafA, innerA, nodeA, patchA, Leaf.cells, Inner.cells, Node.cells, r323_c, r323_ask, decide_true, decide_false, ob, r1, go_sem, Nat.reduceEqDiff, reduceIte, Nat.reduceAdd, Nat.reduceLeDiff, Nat.reduceLT, Nat.reduceSub]
  refine hK _ ?_
  clear hK K
  refine WP.seqR [r324] fun K hK => ?_
  simp -implicitDefEqProofs only [leafA, innerA, nodeA, patchA, Leaf.cells, Inner.cells, Node.cells, r324_c, r324_ask, decide_true, decide_false, ob, hl, r2, go_sem, Nat.reduceEqDiff, reduceIte, Nat.reduceAdd, Nat.reduceLeDiff, Nat.reduceLT, Nat.reduceSub]
  refine hK _ ?_
  clear hK K
  refine WP.seqR [r336] fun K hK => ?_
  simp -implicitDefEqProofs only [leafA, innerA, nodeA, patchA, Leaf.cells, Inner.cells, Node.cells, r336_c, r336_ask, decide_true, decide_false, ob, hl, hve, v0, ne_eq, not_false_eq_true, go_sem, Nat.reduceEqDiff, reduceIte, Nat.reduceAdd, Nat.reduceLeDiff, Nat.reduceLT, Nat.reduceSub]
  refine hK _ ?_
  clear hK K
  refine WP.seqR [r322] fun K hK => ?_
  simp -implicitDefEqProofs only [leafA, innerA, nodeA, patchA, Leaf.cells, Inner.cells, Node.cells, r322_c, r322_ask, decide_true, decide_false, ob, hl, ha, go_sem, Nat.reduceEqDiff, reduceIte, Nat.reduceAdd, Nat.reduceLeDiff, Nat.reduceLT, Nat.reduceSub]
  refine hK _ ?_
  clear hK K
  refine WP.weakL [(5, .ptr 0 0), (7, .bool true), (8, nodes b), (11, .int .i64 v), (13, .int .i64 v), (15, .int .i64 v), (17, .int .i64 n), (18, .int .i64 k)] ?_ ?_
  · simp only [envL_cons, Nat.reduceEqDiff, reduceIte, List.mem_cons, List.not_mem_nil, or_false, forall_eq_or_imp, forall_eq, weak_refl, and_self]
  have e33 : ((3 : Int) = 3) = True := eq_true rfl
  have e99 : ((9 : Int) = 9) = True := eq_true rfl
  by_cases hfr : freeT b < 0
  · rw [if_pos hfr] at hw
    refine WP.seqR [r102] fun K hK => ?_
    simp -implicitDefEqProofs only [leafA, innerA, nodeA, patchA, Leaf.cells, Inner.cells, Node.cells, r102_c, r102_ask, decide_true, decide_false, ob, go_sem, Nat.reduceEqDiff, reduceIte, Nat.reduceAdd, Nat.reduceLeDiff, Nat.reduceLT, Nat.reduceSub]
    refine hK _ ?_
    clear hK K
    refine WP.seqR [r103] fun K hK => ?_
    simp -implicitDefEqProofs only [leafA, innerA, nodeA, patchA, Leaf.cells, Inner.cells, Node.cells, r103_c, r103_ask, decide_true, decide_false, ob, hfr, go_sem, Nat.reduceEqDiff, reduceIte, Nat.reduceAdd, Nat.reduceLeDiff, Nat.reduceLT, Nat.reduceSub]
    refine hK _ (wpc_soundR [] ?_)
    clear hK K
    by_cases hk : k = 0
    · have hn : (n = leaves_ b) = True := eq_true (hw hk)
      rcases hv3 with rfl | rfl | rfl
      · exact absurd rfl v0
      · simp -implicitDefEqProofs only [leafA, innerA, nodeA, patchA, Leaf.cells, Inner.cells, Node.cells, decide_true, decide_false, eq_true hk, hn, ne_eq, not_true_eq_false, n93, e33, go_sem, Nat.reduceEqDiff, reduceIte, Nat.reduceAdd, Nat.reduceLeDiff, Nat.reduceLT, Nat.reduceSub]
      · simp -implicitDefEqProofs only [leafA, innerA, nodeA, patchA, Leaf.cells, Inner.cells, Node.cells, decide_true, decide_false, eq_true hk, hn, ne_eq, not_true_eq_false, n93, e99, go_sem, Nat.reduceEqDiff, reduceIte, Nat.reduceAdd, Nat.reduceLeDiff, Nat.reduceLT, Nat.reduceSub]
    · rcases hv3 with rfl | rfl | rfl
      · exact absurd rfl v0
      · simp -implicitDefEqProofs only [leafA, innerA, nodeA, patchA, Leaf.cells, Inner.cells, Node.cells, decide_true, decide_false, hk, ne_eq, not_false_eq_true, n93, e33, go_sem, Nat.reduceEqDiff, reduceIte, Nat.reduceAdd, Nat.reduceLeDiff, Nat.reduceLT, Nat.reduceSub]
      · simp -implicitDefEqProofs only [leafA, innerA, nodeA, patchA, Leaf.cells, Inner.cells, Node.cells, decide_true, decide_false, hk, ne_eq, not_false_eq_true, n93, e99, go_sem, Nat.reduceEqDiff, reduceIte, Nat.reduceAdd, Nat.reduceLeDiff, Nat.reduceLT, Nat.reduceSub]
  · rw [if_neg hfr] at hw
    refine WP.seqR [r102] fun K hK => ?_
    simp -implicitDefEqProofs only [leafA, innerA, nodeA, patchA, Leaf.cells, Inner.cells, Node.cells, r102_c, r102_ask, decide_true, decide_false, ob, go_sem, Nat.reduceEqDiff, reduceIte, Nat.reduceAdd, Nat.reduceLeDiff, Nat.reduceLT, Nat.reduceSub]
    refine hK _ ?_
    clear hK K
    refine WP.seqR [r103] fun K hK => ?_
    simp -implicitDefEqProofs only [leafA, innerA, nodeA, patchA, Leaf.cells, Inner.cells, Node.cells, r103_c, r103_ask, decide_true, decide_false, ob, hfr, go_sem, Nat.reduceEqDiff, reduceIte, Nat.reduceAdd, Nat.reduceLeDiff, Nat.reduceLT, Nat.reduceSub]
    refine hK _ (wpc_soundR [] ?_)
    clear hK K
    by_cases hk : k = 0
    · have hn : (n = freeT b) = True := eq_true (hw hk)
      rcases hv3 with rfl | rfl | rfl
      · exact absurd rfl v0
      · simp -implicitDefEqProofs only [leafA, innerA, nodeA, patchA, Leaf.cells, Inner.cells, Node.cells, decide_true, decide_false, eq_true hk, hn, ne_eq, not_true_eq_false, n93, e33, go_sem, Nat.reduceEqDiff, reduceIte, Nat.reduceAdd, Nat.reduceLeDiff, Nat.reduceLT, Nat.reduceSub]
      · simp -implicitDefEqProofs only [leafA, innerA, nodeA, patchA, Leaf.cells, Inner.cells, Node.cells, decide_true, decide_false, eq_true hk, hn, ne_eq, not_true_eq_false, n93, e99, go_sem, Nat.reduceEqDiff, reduceIte, Nat.reduceAdd, Nat.reduceLeDiff, Nat.reduceLT, Nat.reduceSub]
    · rcases hv3 with rfl | rfl | rfl
      · exact absurd rfl v0
      · simp -implicitDefEqProofs only [leafA, innerA, nodeA, patchA, Leaf.cells, Inner.cells, Node.cells, decide_true, decide_false, hk, ne_eq, not_false_eq_true, n93, e33, go_sem, Nat.reduceEqDiff, reduceIte, Nat.reduceAdd, Nat.reduceLeDiff, Nat.reduceLT, Nat.reduceSub]
      · simp -implicitDefEqProofs only [leafA, innerA, nodeA, patchA, Leaf.cells, Inner.cells, Node.cells, decide_true, decide_false, hk, ne_eq, not_false_eq_true, n93, e99, go_sem, Nat.reduceEqDiff, reduceIte, Nat.reduceAdd, Nat.reduceLeDiff, Nat.reduceLT, Nat.reduceSub]
end Go.Proofs.YtihhinbjhiankaaGreatDoor.Al
