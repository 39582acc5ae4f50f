/-
  SPECS: a leaf is got.
-/
import Derived.Test.YtlehcigcaihoaaaGreatAlM17
set_option linter.unusedSimpArgs false
set_option linter.unusedVariables false
namespace Go.Proofs.YtlehcigcaihoaaaGreat.Al
open Go
attribute [local go_sem] W_mv W_pick W_alloc W_box W_build W_bslice W_load W_store W_nilck W_bin W_isnil W_un W_convI W_convS W_mkiface W_mkfunc W_mkslice W_slice W_faddr W_field W_iaddr W_iaddrA W_idxA W_extract W_len W_lenS W_lenA W_min W_max W_append W_appendZ W_copy W_clear W_tassert W_invoke thenQ_normal thenQ_exit thenQ_goto thenQ_ret blockQ_normal blockQ_ret blockQ_goto blockQ_exit wpc_skip wpc_region wpc_draw wpc_seq wpc_cond wpc_block wpc_exit wpc_goto wpc_label wpc_ret wpc_loop wpc_range wpc_scope condW_true condW_false condW_dec condW_any W_nil W_call resW_some evalOp Opd.ev updo_envL updo_none setL_cons setL_nil envL_cons Option.map_some Option.bind_some evBin evInt List.map_cons List.map_nil Option.pure_def Option.bind_eq_bind W_grd' grdW_tt grdW_ff grdW_tf grdW_ft grdW_tup grdW_dt grdW_df lgrdW_tt lgrdW_ff lgrdW_tf lgrdW_ft lgrdW_tup lgrdW_dt lgrdW_df L_mv L_pick L_alloc L_box L_build L_bslice L_load L_store L_nilck L_bin L_isnil L_un L_convI L_convS L_mkiface L_mkfunc L_mkslice L_slice L_faddr L_field L_iaddr L_iaddrA L_idxA L_extract L_len L_lenS L_lenA L_min L_max L_append L_appendZ L_copy L_clear L_tassert L_nil L_call L_grd lresW_some upd_envL evUn beq_dec bne_dec leaves_ret1 leaves_end1 leaves_ret0 leaves_end0 leaves_ret2 leaves_ret3 rowLen_ints load_iptr0 not_dec heap_get0 heap_get1 heap_set0 heap_set1 heap_len1 heap_len2 heap_app heap_app2 bslice1_int seen_ints seen_one0 seen_one1 seen_one2 rowLen_own0 bslice0_int rowLen_own1 Nat.sub_zero Bool.not_true Bool.not_false List.length_nil List.length_cons List.nil_append List.cons_append Nat.zero_add load_iptrA canon_ptrI canon_bool canon_tup canon_agg canon_leafA canon_innerA canon_nodeA canon_ints' rowLen_ints0 seen_ints0 canon_ints0 rowLen_ints1 seen_ints1 canon_ints1 rowLen_ints2 seen_ints2 canon_ints2 rowLen_ints3 seen_ints3 canon_ints3 rowLen_octs seen_octs canon_octs' szOk_octs rowLen_octs0 seen_octs0 canon_octs0 rowLen_octs1 seen_octs1 canon_octs1 rowLen_octs2 seen_octs2 canon_octs2 rowLen_octs3 seen_octs3 canon_octs3 rowLen_intss seen_intss canon_intss' szOk_intss rowLen_intss0 seen_intss0 canon_intss0 rowLen_intss1 seen_intss1 canon_intss1 rowLen_intss2 seen_intss2 canon_intss2 rowLen_intss3 seen_intss3 canon_intss3 rowLen_octss seen_octss canon_octss' szOk_octss rowLen_octss0 seen_octss0 canon_octss0 rowLen_octss1 seen_octss1 canon_octss1 rowLen_octss2 seen_octss2 canon_octss2 rowLen_octss3 seen_octss3 canon_octss3 rowLen_nodes seen_nodes canon_nodes' szOk_nodes rowLen_nodes0 seen_nodes0 canon_nodes0 rowLen_nodes1 seen_nodes1 canon_nodes1 rowLen_nodes2 seen_nodes2 canon_nodes2 rowLen_nodes3 seen_nodes3 canon_nodes3 seen_list cells_int oneIn_int cells_bool oneIn_bool cells_str oneIn_str cells_list oneIn_list cells_func oneIn_func cells_nilfunc oneIn_nilfunc cells_iptr oneIn_iptr cells_iface oneIn_iface cells_nilIface oneIn_nilIface cells_own cells_ptr cells_anybool oneIn_anybool cells_agg oneIn_own0 oneIn_ptr0 seenL0 seenM0 oneIn_own1 oneIn_ptr1 seenL1 seenM1 oneIn_own2 oneIn_ptr2 seenL2 seenM2 oneIn_own3 oneIn_ptr3 seenL3 seenM3 oneIn_own4 oneIn_ptr4 seenL4 seenM4 oneIn_own5 oneIn_ptr5 seenL5 seenM5 cells_ints oneIn_ints cells_octs oneIn_octs cells_intss oneIn_intss cells_octss oneIn_octss cells_nodes oneIn_nodes ldB0 ldA0 adB0 stB0 ldB1 ldA1 adB1 stB1 ldB2 ldA2 adB2 stB2 ldB3 ldA3 adB3 stB3 ldB4 ldA4 adB4 stB4 ldB5 ldA5 adB5 stB5 List.getElem?_cons_zero List.getElem?_cons_succ beq_self_eq_true splice List.take_zero List.take_succ_cons List.drop_zero List.drop_succ_cons List.append_nil List.set_cons_zero List.set_cons_succ List.all_cons List.all_nil Bool.and_self and_self and_true true_and Nat.lt_irrefl Nat.zero_lt_one Nat.le_refl fillA evNil notA Bool.false_eq_true evMin_int evMax_int Option.map_none freezeP_all_nil freezeP_all_cons frzE_box frzE_arr frzE_dead foldA List.foldlM_cons List.foldlM_nil callW_f lcallW_f ansW_fn ansW_own lansW_fn lansW_own ansW_none lansW_none tab_cons tab_nil dI_int dB_bool dO_octs dO_ints dO_list dO_nil dOs_octss dOs_intss dOs_nil dLf_leafA dIn_innerA dN_nodeA dLf_agg dIn_agg dN_agg dNs_nodes dNs_list dNs_nil isI_int isU_int isB_bool isO_octs isO_nil isO_list isS_ints isS_nil isS_list isOs_octss isSs_intss isOs_nil isSs_nil isNs_nodes isNs_list isNs_nil isLf_leafA isIn_innerA isN_nodeA isLf_agg isIn_agg isN_agg leaf_eta inner_eta node_eta leaf_zero inner_zero node_zero dP_patchA dP_agg isP_patchA isP_agg patch_eta decide_eq_true_eq decide_eq_false_iff_not eq_self forall_const true_implies false_implies Bool.not_eq_true' Bool.not_eq_false' Bool.true_eq_false implies_true ne_eq ldI ldIA adI AV.tup.injEq AV.agg.injEq List.cons.injEq AV.int.injEq AV.bool.injEq nodes_inj octs_inj ints_inj nil_nodes nil_octs nil_ints canon_nilL decide_eq_decide two_ne four_ne b256_ne lendA_fn lendA_own lendA_none llendA_fn llendA_none plain_bool plain_int plain_tup2 isNs_own isO_own isS_own isOs_own false_and and_false Q_nil Q_l Q_g Q_h Q_grd qgrdW_b qgrdW_tup lightD_some heavyD_some readD_some fnD_some fnD_own fnD_none callL_f ownH_some callH_f litD_some litE_some Q_call Q_bslice H_call pendOk_nil pendOk_cons pastOk_nil pastOk_cons Q_mv Q_pick Q_bin Q_un Q_convI Q_mkfunc Q_extract Q_min Q_max Q_lenS Q_lenA Q_field Q_idxA Q_mkiface Q_tassert Q_alloc Q_box Q_store Q_mkslice Q_append Q_appendZ Q_copy Q_clear Q_build Q_load Q_nilck Q_isnil Q_convS Q_slice Q_faddr Q_iaddr Q_iaddrA Q_len H_alloc H_box H_bslice H_store H_mkslice H_append H_appendZ H_copy H_clear free_mv free_pick free_bin free_un free_convI free_mkfunc free_extract free_min free_max free_lenS free_lenA free_field free_idxA free_mkiface free_tassert free_build free_load free_nilck free_isnil free_convS free_slice free_faddr free_iaddr free_iaddrA free_len callW_y List.length_map List.length_set leaves_r evR_some evRess1 evRess2 evRess3 evRes_t evRes_c nz_kind nz_enc nz_cred nz_source nz_parent nz_ienc nz_hash nz_un true_or or_true bsl_node idbs_node idbs_int appN appI appO ixo_nodes canon_row canon_rowI canon_rowO not_false_eq_true not_true_eq_false ldE_a ldE_c adE_b stE_b onE_a onP_b bsl_zero idbs_zero appN_zero
attribute [local go_sem low] condW_b grdW_b lgrdW_b ldP adP stP onO onPt
attribute [local simp] envL_cons envL_nil idb_int idb_bool idb_str idb_ints idb_nil idb_own idb_ptr entB_ints' idb_octs entB_octs idb_intss entB_intss idb_octss entB_octss idb_nodes entB_nodes idb_leafA idb_innerA idb_nodeA idb_agg idb_tup idb_iptr idb_fn idb_undef entB_dead entB_box
attribute [local go_sem high] qgrdW_tt qgrdW_ff qgrdW_tf qgrdW_ft

theorem DR.heavyC {S : Seat} {Hs : Nat → List Entry} {K : Nat} {d : Option Nat} {f : Opd} {xs : List Opd} {g : Option (Nat × Bool)} {aft : List Nat} {l : List IOper} {labs : List Lab} {env E : Env} {k c : Nat} {v : AV} {first captured : List AV} (hg : gdec env g = some true)
    (hf : f.ev env = .func (.f c) first captured) (hcb : Callable S c) (h : ACall S c (first ++ xs.map (Opd.ev env) ++ captured) (Hs k) fun v' H'' => v' = v ∧ H'' = Hs (k + 1)) (rest : DR S Hs K l labs (updo env d v) (k + 1) E) :
    DR S Hs K (⟨d, .call f xs, g, aft⟩ :: l) (.h k :: labs) env k E :=
  let ⟨_, r⟩ := rest; ⟨_, .heavy (o := ⟨d, .call f xs, g, aft⟩) hg (.call hf hcb h) r⟩

noncomputable def r160 : Reg seat := .of told160 (ask1 (fun a0' => isI a0') fun a0' => .fn (.bool (decide ((dI a0') ≥ 1 ∧ (dI a0') ≤ 3)))) (ask1_ok fun a0' h => SaidOk.fn (Fun.weak (.cons (isI.weak h) .nil) (source_spec _)))
theorem r160_c : r160.c = 160 := rfl
open Classical in
theorem r160_ask (a0' : AV) : r160.ask [a0'] = if isI a0' then some (Said.fn (.bool (decide ((dI a0') ≥ 1 ∧ (dI a0') ≤ 3)))) else none := by unfold r160 Reg.of ask1; exact ite_cl
/-- A place to read to is kept. -/
theorem octets_spec (c0 c2 : List AV) (e1 e3 : Entry) (j : Nat) (T : List Entry) : ACall seat 227 [.ptr 2 j, .ptr 0 0] (.box c0 :: e1 :: .box c2 :: e3 :: T) (fun r H' => r = .func (.f 228) [] [.ptr 0 0, .ptr (T.length + 1 + 3) 0] ∧ H' = .box c0 :: e1 :: .box c2 :: e3 :: (T ++ [.box [.ptr 2 j]])) := by
  refine ACall.of_wp told227 (by simp [il227]) (wpc_soundR [] ?_)
  rw [start_env]
  simp -implicitDefEqProofs only [leafA, innerA, nodeA, patchA, Leaf.cells, Inner.cells, Node.cells, decide_true, decide_false, il227, List.zipIdx_cons, List.zipIdx_nil, Nat.zero_add, onP_b, Bool.and_self, go_sem, Nat.reduceEqDiff, reduceIte, Nat.reduceAdd, Nat.reduceLeDiff, Nat.reduceLT, Nat.reduceSub]
theorem read228_0 (c : List Int) (e1 : Entry) (a0 a1 a2 a3 : AV) (T : List Entry) (q : Nat) (hc : Oct c) (hq : T[q]? = some (.box [.ptr 2 0])) : ACall seat 228 [.ptr 0 0, .ptr (q + 3) 0] (.box [octs c] :: e1 :: .box [a0, a1, a2, a3] :: T) (fun r H' => r = .int .i64 (gbytes c).2.2 ∧ H' = .box [octs (gbytes c).2.1] :: e1 :: .box [octs (gbytes c).1, a1, a2, a3] :: T) := by
  refine ACall.of_wp told228 (by simp [il228]) ?_
  rw [start_env]
  refine wpc_soundR [] ?_
  simp -implicitDefEqProofs only [leafA, innerA, nodeA, patchA, Leaf.cells, Inner.cells, Node.cells, decide_true, decide_false, il228, List.zipIdx_cons, List.zipIdx_nil, Nat.zero_add, go_sem, Nat.reduceEqDiff, reduceIte, Nat.reduceAdd, Nat.reduceLeDiff, Nat.reduceLT, Nat.reduceSub]
  refine WP.drawQ [r192] [.g 0 0, .g 0 0, .l, .l, .l, .l, .l, .g 0 0, .h 0, .h 1, .l] mixed (by decide) ?_
  simp -implicitDefEqProofs only [leafA, innerA, nodeA, patchA, Leaf.cells, Inner.cells, Node.cells, r192_c, r192_ask, decide_true, decide_false, hc, hq, go_sem, Nat.reduceEqDiff, reduceIte, Nat.reduceAdd, Nat.reduceLeDiff, Nat.reduceLT, Nat.reduceSub]
theorem read228_1 (c : List Int) (e1 : Entry) (a0 a1 a2 a3 : AV) (T : List Entry) (q : Nat) (hc : Oct c) (hq : T[q]? = some (.box [.ptr 2 1])) : ACall seat 228 [.ptr 0 0, .ptr (q + 3) 0] (.box [octs c] :: e1 :: .box [a0, a1, a2, a3] :: T) (fun r H' => r = .int .i64 (gbytes c).2.2 ∧ H' = .box [octs (gbytes c).2.1] :: e1 :: .box [a0, octs (gbytes c).1, a2, a3] :: T) := by
  refine ACall.of_wp told228 (by simp [il228]) ?_
  rw [start_env]
  refine wpc_soundR [] ?_
  simp -implicitDefEqProofs only [leafA, innerA, nodeA, patchA, Leaf.cells, Inner.cells, Node.cells, decide_true, decide_false, il228, List.zipIdx_cons, List.zipIdx_nil, Nat.zero_add, go_sem, Nat.reduceEqDiff, reduceIte, Nat.reduceAdd, Nat.reduceLeDiff, Nat.reduceLT, Nat.reduceSub]
  refine WP.drawQ [r192] [.g 0 0, .g 0 0, .l, .l, .l, .l, .l, .g 0 0, .h 0, .h 1, .l] mixed (by decide) ?_
  simp -implicitDefEqProofs only [leafA, innerA, nodeA, patchA, Leaf.cells, Inner.cells, Node.cells, r192_c, r192_ask, decide_true, decide_false, hc, hq, go_sem, Nat.reduceEqDiff, reduceIte, Nat.reduceAdd, Nat.reduceLeDiff, Nat.reduceLT, Nat.reduceSub]
theorem read228_3 (c : List Int) (e1 : Entry) (a0 a1 a2 a3 : AV) (T : List Entry) (q : Nat) (hc : Oct c) (hq : T[q]? = some (.box [.ptr 2 3])) : ACall seat 228 [.ptr 0 0, .ptr (q + 3) 0] (.box [octs c] :: e1 :: .box [a0, a1, a2, a3] :: T) (fun r H' => r = .int .i64 (gbytes c).2.2 ∧ H' = .box [octs (gbytes c).2.1] :: e1 :: .box [a0, a1, a2, octs (gbytes c).1] :: T) := by
  refine ACall.of_wp told228 (by simp [il228]) ?_
  rw [start_env]
  refine wpc_soundR [] ?_
  simp -implicitDefEqProofs only [leafA, innerA, nodeA, patchA, Leaf.cells, Inner.cells, Node.cells, decide_true, decide_false, il228, List.zipIdx_cons, List.zipIdx_nil, Nat.zero_add, go_sem, Nat.reduceEqDiff, reduceIte, Nat.reduceAdd, Nat.reduceLeDiff, Nat.reduceLT, Nat.reduceSub]
  refine WP.drawQ [r192] [.g 0 0, .g 0 0, .l, .l, .l, .l, .l, .g 0 0, .h 0, .h 1, .l] mixed (by decide) ?_
  simp -implicitDefEqProofs only [leafA, innerA, nodeA, patchA, Leaf.cells, Inner.cells, Node.cells, r192_c, r192_ask, decide_true, decide_false, hc, hq, go_sem, Nat.reduceEqDiff, reduceIte, Nat.reduceAdd, Nat.reduceLeDiff, Nat.reduceLT, Nat.reduceSub]
/-- From where it comes. -/
def srcE (s e : Int) : Int := if e = 0 ∧ ¬ (s ≥ 1 ∧ s ≤ 3) then 7 else e
theorem from_spec (c : List Int) (e1 : Entry) (a0 a1 a2 a3 : AV) (T : List Entry) (hc : Oct c) : ACall seat 229 [.ptr 0 0, .ptr 2 0] (.box [octs c] :: e1 :: .box [a0, a1, a2, a3] :: T) (fun r H' => r = .int .i64 (srcE (gnum 1 c).1 (gnum 1 c).2.2) ∧ H' = .box [octs (gnum 1 c).2.1] :: e1 :: .box [a0, a1, .int .i64 (gnum 1 c).1, a3] :: T) := by
  rcases hg : gnum 1 c with ⟨s, r, e⟩
  simp only
  refine ACall.of_wp told229 (by simp [il229]) ?_
  rw [start_env]
  refine wpc_soundR [r212, r160] ?_
  unfold srcE
  by_cases he : e = 0
  · by_cases hs : s ≥ 1 ∧ s ≤ 3
    · rw [if_neg (fun h => h.2 hs)]
      simp -implicitDefEqProofs only [leafA, innerA, nodeA, patchA, Leaf.cells, Inner.cells, Node.cells, r212_c, r212_ask, r160_c, r160_ask, decide_true, decide_false, il229, List.zipIdx_cons, List.zipIdx_nil, Nat.zero_add, hc, clamp1, hg, he, hs, go_sem, Nat.reduceEqDiff, reduceIte, Nat.reduceAdd, Nat.reduceLeDiff, Nat.reduceLT, Nat.reduceSub]
    · rw [if_pos ⟨he, hs⟩]
      simp -implicitDefEqProofs only [leafA, innerA, nodeA, patchA, Leaf.cells, Inner.cells, Node.cells, r212_c, r212_ask, r160_c, r160_ask, decide_true, decide_false, il229, List.zipIdx_cons, List.zipIdx_nil, Nat.zero_add, hc, clamp1, hg, he, hs, go_sem, Nat.reduceEqDiff, reduceIte, Nat.reduceAdd, Nat.reduceLeDiff, Nat.reduceLT, Nat.reduceSub]
  · rw [if_neg (fun h => he h.1)]
    simp -implicitDefEqProofs only [leafA, innerA, nodeA, patchA, Leaf.cells, Inner.cells, Node.cells, r212_c, r212_ask, r160_c, r160_ask, decide_true, decide_false, il229, List.zipIdx_cons, List.zipIdx_nil, Nat.zero_add, hc, clamp1, hg, he, go_sem, Nat.reduceEqDiff, reduceIte, Nat.reduceAdd, Nat.reduceLeDiff, Nat.reduceLT, Nat.reduceSub]
theorem check_spec (l : Leaf) (e0 e1 : Entry) (T : List Entry) (hl : l.Ok) : ACall seat 231 [.ptr 2 0] (e0 :: e1 :: .box [octs l.enc, octs l.cred, .int .i64 l.source, octs l.parent] :: T) (fun r H' => r = .int .i64 (leafCheck l) ∧ H' = e0 :: e1 :: .box [octs l.enc, octs l.cred, .int .i64 l.source, octs l.parent] :: T) := by
  refine ACall.of_wp told231 (by simp [il231]) ?_
  rw [start_env]
  refine wpc_soundR [r146] ?_
  simp -implicitDefEqProofs only [leafA, innerA, nodeA, patchA, Leaf.cells, Inner.cells, Node.cells, r146_c, r146_ask, decide_true, decide_false, il231, List.zipIdx_cons, List.zipIdx_nil, Nat.zero_add, hl, go_sem, Nat.reduceEqDiff, reduceIte, Nat.reduceAdd, Nat.reduceLeDiff, Nat.reduceLT, Nat.reduceSub]
/-- The octets of the parent, if there are. -/
def gpar (s : Int) (c : List Int) : List Int × List Int × Int := if s = 3 then gbytes c else ([], c, 0)
theorem par_spec (c : List Int) (s : Int) (e1 : Entry) (a0 a1 : AV) (T : List Entry) (hc : Oct c) : ACall seat 230 [.ptr 2 0, .ptr 3 0] (.box [octs c] :: e1 :: .box [a0, a1, .int .i64 s, octs []] :: .box [.func (.f 227) [] [.ptr 0 0]] :: T) (fun r H' => r = .int .i64 (gpar s c).2.2 ∧ ∃ X, H' = .box [octs (gpar s c).2.1] :: e1 :: .box [a0, a1, .int .i64 s, octs (gpar s c).1] :: .box [.func (.f 227) [] [.ptr 0 0]] :: (T ++ X)) := by
  unfold gpar
  refine ACall.of_wp told230 (by simp [il230]) ?_
  rw [start_env]
  refine wpc_soundR [] ?_
  by_cases hs : s = 3
  · rw [if_pos hs]
    subst hs
    simp -implicitDefEqProofs only [leafA, innerA, nodeA, patchA, Leaf.cells, Inner.cells, Node.cells, decide_true, decide_false, il230, List.zipIdx_cons, List.zipIdx_nil, Nat.zero_add, ne_eq, not_true_eq_false, go_sem, Nat.reduceEqDiff, reduceIte, Nat.reduceAdd, Nat.reduceLeDiff, Nat.reduceLT, Nat.reduceSub]
    refine Callee.fn (Callable.of told227) (octets_spec [octs c] [a0, a1, .int .i64 3, octs []] e1 (.box [.func (.f 227) [] [.ptr 0 0]]) 3 T) ?_
    rintro _ _ ⟨rfl, rfl⟩
    simp -implicitDefEqProofs only [leafA, innerA, nodeA, patchA, Leaf.cells, Inner.cells, Node.cells, decide_true, decide_false, go_sem, Nat.reduceEqDiff, reduceIte, Nat.reduceAdd, Nat.reduceLeDiff, Nat.reduceLT, Nat.reduceSub]
    refine Callee.fn (Callable.of told228) (read228_3 c e1 a0 a1 (.int .i64 3) (octs []) (.box [.func (.f 227) [] [.ptr 0 0]] :: (T ++ [Entry.box [.ptr 2 3]])) (T.length + 1) hc (by simp)) ?_
    rintro _ _ ⟨rfl, rfl⟩
    simp -implicitDefEqProofs only [leafA, innerA, nodeA, patchA, Leaf.cells, Inner.cells, Node.cells, decide_true, decide_false, go_sem, Nat.reduceEqDiff, reduceIte, Nat.reduceAdd, Nat.reduceLeDiff, Nat.reduceLT, Nat.reduceSub]
    exact ⟨[Entry.box [.ptr 2 3]], rfl⟩
  · rw [if_neg hs]
    simp -implicitDefEqProofs only [leafA, innerA, nodeA, patchA, Leaf.cells, Inner.cells, Node.cells, decide_true, decide_false, il230, List.zipIdx_cons, List.zipIdx_nil, Nat.zero_add, hs, ne_eq, not_false_eq_true, go_sem, Nat.reduceEqDiff, reduceIte, Nat.reduceAdd, Nat.reduceLeDiff, Nat.reduceLT, Nat.reduceSub]
    exact ⟨[], (List.append_nil T).symm⟩

/-- A leaf that octets begin with, and the rest. -/
def lgetS (x : List Int) (y : List Int) (s : Int) (p : List Int) (r : List Int) : Leaf × List Int × Int := if leafCheck ⟨x, y, s, p⟩ ≠ 0 then (.zero, [], leafCheck ⟨x, y, s, p⟩) else (⟨x, y, s, p⟩, r, 0)
def lget (b : List Int) : Leaf × List Int × Int :=
  if (gbytes b).2.2 ≠ 0 then (.zero, [], (gbytes b).2.2) else
  if (gbytes (gbytes b).2.1).2.2 ≠ 0 then (.zero, [], (gbytes (gbytes b).2.1).2.2) else
  if srcE (gnum 1 (gbytes (gbytes b).2.1).2.1).1 (gnum 1 (gbytes (gbytes b).2.1).2.1).2.2 ≠ 0 then (.zero, [], srcE (gnum 1 (gbytes (gbytes b).2.1).2.1).1 (gnum 1 (gbytes (gbytes b).2.1).2.1).2.2) else
  if (gpar (gnum 1 (gbytes (gbytes b).2.1).2.1).1 (gnum 1 (gbytes (gbytes b).2.1).2.1).2.1).2.2 ≠ 0 then (.zero, [], (gpar (gnum 1 (gbytes (gbytes b).2.1).2.1).1 (gnum 1 (gbytes (gbytes b).2.1).2.1).2.1).2.2) else
  lgetS (gbytes b).1 (gbytes (gbytes b).2.1).1 (gnum 1 (gbytes (gbytes b).2.1).2.1).1 (gpar (gnum 1 (gbytes (gbytes b).2.1).2.1).1 (gnum 1 (gbytes (gbytes b).2.1).2.1).2.1).1 (gpar (gnum 1 (gbytes (gbytes b).2.1).2.1).1 (gnum 1 (gbytes (gbytes b).2.1).2.1).2.1).2.1
theorem lget_eq {b x r1 y r2 r3 p r4 : List Int} {s e1 e2 e3 e4 : Int} (h1 : gbytes b = (x, r1, e1)) (h2 : gbytes r1 = (y, r2, e2)) (h3 : gnum 1 r2 = (s, r3, e3)) (h4 : gpar s r3 = (p, r4, e4)) :
    lget b = if e1 ≠ 0 then (.zero, [], e1) else if e2 ≠ 0 then (.zero, [], e2) else if srcE s e3 ≠ 0 then (.zero, [], srcE s e3) else if e4 ≠ 0 then (.zero, [], e4) else lgetS x y s p r4 := by
  unfold lget
  simp only [h1, h2, h3, h4]
def f227 : AV := .func (.f 227) [] [.ptr 0 0]
def rowF : List AV := [.func (.f 228) [] [.ptr 0 0, .ptr 4 0], .func (.f 228) [] [.ptr 0 0, .ptr 5 0], .func (.f 229) [] [.ptr 0 0, .ptr 2 0], .func (.f 230) [] [.ptr 2 0, .ptr 3 0], .func (.f 231) [] [.ptr 2 0]]
def zl : List AV := [.list true [], .list true [], .int .i64 0, .list true []]
def leafH (r : List Int) (l : Leaf) : List Entry := [.box [octs r], .box zl, .box [octs l.enc, octs l.cred, .int .i64 l.source, octs l.parent], .box [f227], .box [.ptr 2 0], .box [.ptr 2 1], .arr 1 0 rowF]
theorem leafH_len (r : List Int) (l : Leaf) : (leafH r l).length = 7 := rfl
theorem entB_rowF : EntB 7 (.arr 1 0 rowF) := by
  intro x hx y hy
  simp only [rowF, List.mem_cons, List.not_mem_nil, or_false] at hx
  rcases hx with rfl | rfl | rfl | rfl | rfl <;> (simp only [AV.cells, List.mem_singleton] at hy; subst hy; simp )
theorem weakz : Weaks zl [octs [], octs [], .int .i64 0, octs []] := .cons (.list true []) (.cons (.list true []) (.cons (.refl _) (.cons (.list true []) .nil)))
set_option maxHeartbeats 2000000 in
theorem lget_spec (b : List Int) (hb : Oct b) : Fun seat 213 [octs b] (.tup [leafA (lget b).1, octs (lget b).2.1, .int .i64 (lget b).2.2]) := by
  refine Fun.of0R [] told213 (by simp [il213]) (by simp [idb_patchA]) (by simp [idb_patchA]) 4 ?_
  simp -implicitDefEqProofs only [il213, List.zipIdx_cons, List.zipIdx_nil, leafA, innerA, nodeA, patchA, Leaf.cells, Inner.cells, Node.cells, decide_true, decide_false, go_sem, Nat.reduceEqDiff, reduceIte, Nat.reduceAdd, Nat.reduceLeDiff, Nat.reduceLT, Nat.reduceSub]
  refine WP.weakL [(1, .ptr 0 0), (2, .ptr 1 0), (5, .ptr 2 0), (6, .ptr 3 0), (7, rowF[2]), (8, rowF[3]), (9, rowF[4])] ?_ ?_
  · simp only [rowF, List.getElem_cons_zero, List.getElem_cons_succ, envL_cons, Nat.reduceEqDiff, reduceIte, List.mem_cons, List.not_mem_nil, or_false, forall_eq_or_imp, forall_eq, weak_refl, and_self]
  refine WP.weakB 2 [octs [], octs [], .int .i64 0, octs []] rfl weakz ?_
  simp only [List.set_cons_succ, List.set_cons_zero]
  refine WP.drawE mixed [.g 0 0, .g 0 0, .h 0, .g 0 1, .g 0 1, .h 1, .l, .l, .l, .h 2, .g 3 3, .l] (by decide) (fun k => if k = 0 then (leafH b .zero).take 4 else if k = 1 then (leafH b .zero).take 5 else if k = 2 then (leafH b .zero).take 6 else leafH b .zero) 3 (E := ?E) rfl ?hq ?hd
  case hd =>
    refine .fixed (v := f227) rfl (Nat.le_refl _) (Nat.le_refl _) (fun j a b => by have e : j = 0 := (by omega); subst e; rfl) ?_
    refine .fixed (v := .ptr 2 0) rfl (Nat.le_refl _) (Nat.le_refl _) (fun j a b => by have e : j = 0 := (by omega); subst e; rfl) ?_
    refine DR.heavyC (v := rowF[0]) rfl rfl (Callable.of told227) (octets_spec [octs b] [octs [], octs [], .int .i64 0, octs []] (.box zl) (.box [f227]) 0 []) ?_
    refine .fixed (v := f227) rfl (Nat.zero_le _) (Nat.le_refl _) (fun j a b => by rcases (by omega : j = 0 ∨ j = 1) with rfl | rfl <;> rfl) ?_
    refine .fixed (v := .ptr 2 1) rfl (Nat.zero_le _) (Nat.le_refl _) (fun j a b => by rcases (by omega : j = 0 ∨ j = 1) with rfl | rfl <;> rfl) ?_
    refine DR.heavyC (v := rowF[1]) rfl rfl (Callable.of told227) (octets_spec [octs b] [octs [], octs [], .int .i64 0, octs []] (.box zl) (.box [f227]) 1 [.box [.ptr 2 0]]) ?_
    refine .light (v := rowF[2]) rfl (fun j _ => rfl) ?_
    refine .light (v := rowF[3]) rfl (fun j _ => rfl) ?_
    refine .light (v := rowF[4]) rfl (fun j _ => rfl) ?_
    refine .heavy (v := .own 6 0 0 5) rfl rfl ?_
    refine .fixed (v := .int .i64 5) rfl (Nat.le_refl _) (Nat.le_refl _) (fun j a b => by have e : j = 3 := (by omega); subst e; rfl) ?_
    refine .light (v := .int .i64 0) rfl (fun j _ => rfl) ?_
    exact .nil
  simp only [updo_envL, setL_cons, setL_nil, Nat.reduceEqDiff, reduceIte]
  show thenQ _ _ .normal ⟨_, leafH b .zero⟩
  have ho := gbytes_oct hb
  rcases h1 : gbytes b with ⟨x, r1, e1⟩
  rw [h1] at ho
  have ho2 := gbytes_oct ho.2
  rcases h2 : gbytes r1 with ⟨y, r2, e2⟩
  simp only at ho
  rw [h2] at ho2
  simp only at ho2
  rcases h3 : gnum 1 r2 with ⟨s, r3, e3⟩
  have ho3 : Oct r3 := by
    have hl := ho2.2.1
    simp only [Small] at hl
    have : r3 = (gnum 1 r2).2.1 := by rw [h3]
    rw [this]
    unfold gnum
    split
    · exact .nil
    · exact ⟨by simp only [Small, List.length_drop]; omega, fun z hz => ho2.2.2 z (List.mem_of_mem_drop hz)⟩
  rcases h4 : gpar s r3 with ⟨p, r4, e4⟩
  have ho4 : Oct p := by
    have : p = (gpar s r3).1 := by rw [h4]
    rw [this]
    unfold gpar
    split
    · exact (gbytes_oct ho3).1
    · exact .nil
  have hs64 : In64 s := by
    have : s = (gnum 1 r2).1 := by rw [h3]
    rw [this]
    have e1 : IntKind.i64.min = -9223372036854775808 := rfl
    have e2 : IntKind.i64.max = 9223372036854775807 := rfl
    unfold gnum
    split
    · exact In64.zero
    · have := num_bd3 (l := r2.take 1) (bytes_take (bytes_of ho2.2) 1) (by rw [List.length_take]; omega)
      simp only [In64]; omega
  have ok : Leaf.Ok ⟨x, y, s, p⟩ := ⟨ho.1, ho2.1, ho4, hs64⟩
  rw [lget_eq h1 h2 h3 h4]
  have ld : ∀ (e0 e1 e2 e3 e4 e5 : Entry) (k : Nat) (hk : k < 5), evLoad [e0, e1, e2, e3, e4, e5, .arr 1 0 rowF] false 1 (.eptr 6 0 k 0) = rowF[k]? := fun e0 e1 e2 e3 e4 e5 k hk => by
    match k, hk with
    | 0, _ => rfl
    | 1, _ => rfl
    | 2, _ => rfl
    | 3, _ => rfl
    | 4, _ => rfl
  have ix : ∀ (e0 e1 e2 e3 e4 e5 : Entry) (k : Nat) (hk : k < 5), evIndex [e0, e1, e2, e3, e4, e5, .arr 1 0 rowF] 1 (.own 6 0 0 5) (.int .i64 (k : Int)) = some (.eptr 6 0 k 0) := fun e0 e1 e2 e3 e4 e5 k hk => by
    match k, hk with
    | 0, _ => rfl
    | 1, _ => rfl
    | 2, _ => rfl
    | 3, _ => rfl
    | 4, _ => rfl
  simp -implicitDefEqProofs only [leafA, innerA, nodeA, patchA, Leaf.cells, Inner.cells, Node.cells, decide_true, decide_false, go_sem, Nat.reduceEqDiff, reduceIte, Nat.reduceAdd, Nat.reduceLeDiff, Nat.reduceLT, Nat.reduceSub]
  refine WP.loopG (fun k => k ≤ 5 ∧ (1 ≤ k → e1 = 0) ∧ (2 ≤ k → e2 = 0) ∧ (3 ≤ k → srcE s e3 = 0) ∧ (4 ≤ k → e4 = 0) ∧ (5 ≤ k → leafCheck ⟨x, y, s, p⟩ = 0))
    (fun k => [(1, .ptr 0 0), (2, .ptr 1 0), (5, .ptr 2 0), (26, .own 6 0 0 5), (27, .int .i64 5), (28, .int .i64 (k : Nat))])
    (fun k => leafH (([b, r1, r2, r3, r4, r4][k]?).getD []) (([Leaf.zero, ⟨x, [], 0, []⟩, ⟨x, y, 0, []⟩, ⟨x, y, s, []⟩, ⟨x, y, s, p⟩, ⟨x, y, s, p⟩][k]?).getD .zero)) (fun k => 5 - k) 0 ⟨by omega, by omega, by omega, by omega, by omega, by omega⟩
    (fun k _ => ⟨by simp [leafH], by simp [leafH], fun e he => by
      rw [leafH_len]
      simp only [leafH, List.mem_cons, List.not_mem_nil, or_false] at he
      rcases he with rfl | rfl | rfl | rfl | rfl | rfl | rfl <;> first | exact entB_rowF | simp [f227, zl, entB_box]⟩) (by simp ) ?_
  rintro k ⟨hk, p1, p2, p3, p4, p5⟩
  have wk := wrapS (show k < 9223372036854775807 by omega)
  rcases (by omega : k = 0 ∨ k = 1 ∨ k = 2 ∨ k = 3 ∨ k = 4 ∨ k = 5) with hk0 | hk0 | hk0 | hk0 | hk0 | hk0
  · have hR : (([b, r1, r2, r3, r4, r4][k]?).getD []) = b := by rw [hk0]; rfl
    have hL : (([Leaf.zero, ⟨x, [], 0, []⟩, ⟨x, y, 0, []⟩, ⟨x, y, s, []⟩, ⟨x, y, s, p⟩, ⟨x, y, s, p⟩][k]?).getD .zero) = .zero := by rw [hk0]; rfl
    have ixk := fun e0 e1 e2 e3 e4 e5 => ix e0 e1 e2 e3 e4 e5 k (by omega)
    have ldk : ∀ e0 e1 e2 e3 e4 e5 : Entry, evLoad [e0, e1, e2, e3, e4, e5, .arr 1 0 rowF] false 1 (.eptr 6 0 k 0) = some (.func (.f 228) [] [.ptr 0 0, .ptr 4 0]) := fun e0 e1 e2 e3 e4 e5 => by rw [ld e0 e1 e2 e3 e4 e5 k (by omega), hk0]; rfl
    have hlt : (k : Int) < 5 := by omega
    rw [hR, hL]
    unfold leafH
    refine wpc_soundR [] ?_
    simp -implicitDefEqProofs only [leafA, innerA, nodeA, patchA, Leaf.cells, Inner.cells, Node.cells, decide_true, decide_false, hlt, ixk, ldk, go_sem, Nat.reduceEqDiff, reduceIte, Nat.reduceAdd, Nat.reduceLeDiff, Nat.reduceLT, Nat.reduceSub]
    refine Callee.fn (Callable.of told228) (read228_0 b (.box zl) (octs []) (octs []) (.int .i64 0) (octs []) [.box [f227], .box [.ptr 2 0], .box [.ptr 2 1], .arr 1 0 rowF] 1 hb rfl) ?_
    rintro _ _ ⟨rfl, rfl⟩
    by_cases he : e1 = 0
    · simp -implicitDefEqProofs only [leafA, innerA, nodeA, patchA, Leaf.cells, Inner.cells, Node.cells, decide_true, decide_false, h1, he, wk, go_sem, Nat.reduceEqDiff, reduceIte, Nat.reduceAdd, Nat.reduceLeDiff, Nat.reduceLT, Nat.reduceSub]
      exact ⟨k + 1, ⟨by omega, by omega, by omega, by omega, by omega⟩, by omega, by simp , by rw [hk0]; simp [Leaf.zero, f227]⟩
    · simp -implicitDefEqProofs only [leafA, innerA, nodeA, patchA, Leaf.cells, Inner.cells, Node.cells, decide_true, decide_false, h1, he, wk, ne_eq, not_false_eq_true, not_true_eq_false, zl, lgetS, go_sem, Nat.reduceEqDiff, reduceIte, Nat.reduceAdd, Nat.reduceLeDiff, Nat.reduceLT, Nat.reduceSub]
      exact ⟨rfl, rfl, rfl, rfl⟩
  · have hR : (([b, r1, r2, r3, r4, r4][k]?).getD []) = r1 := by rw [hk0]; rfl
    have hL : (([Leaf.zero, ⟨x, [], 0, []⟩, ⟨x, y, 0, []⟩, ⟨x, y, s, []⟩, ⟨x, y, s, p⟩, ⟨x, y, s, p⟩][k]?).getD .zero) = ⟨x, [], 0, []⟩ := by rw [hk0]; rfl
    have ixk := fun e0 e1 e2 e3 e4 e5 => ix e0 e1 e2 e3 e4 e5 k (by omega)
    have ldk : ∀ e0 e1 e2 e3 e4 e5 : Entry, evLoad [e0, e1, e2, e3, e4, e5, .arr 1 0 rowF] false 1 (.eptr 6 0 k 0) = some (.func (.f 228) [] [.ptr 0 0, .ptr 5 0]) := fun e0 e1 e2 e3 e4 e5 => by rw [ld e0 e1 e2 e3 e4 e5 k (by omega), hk0]; rfl
    have hlt : (k : Int) < 5 := by omega
    rw [hR, hL]
    unfold leafH
    refine wpc_soundR [] ?_
    simp -implicitDefEqProofs only [leafA, innerA, nodeA, patchA, Leaf.cells, Inner.cells, Node.cells, decide_true, decide_false, hlt, ixk, ldk, go_sem, Nat.reduceEqDiff, reduceIte, Nat.reduceAdd, Nat.reduceLeDiff, Nat.reduceLT, Nat.reduceSub]
    refine Callee.fn (Callable.of told228) (read228_1 r1 (.box zl) (octs x) (octs []) (.int .i64 0) (octs []) [.box [f227], .box [.ptr 2 0], .box [.ptr 2 1], .arr 1 0 rowF] 2 ho.2 rfl) ?_
    rintro _ _ ⟨rfl, rfl⟩
    by_cases he : e2 = 0
    · simp -implicitDefEqProofs only [leafA, innerA, nodeA, patchA, Leaf.cells, Inner.cells, Node.cells, decide_true, decide_false, h2, he, wk, go_sem, Nat.reduceEqDiff, reduceIte, Nat.reduceAdd, Nat.reduceLeDiff, Nat.reduceLT, Nat.reduceSub]
      exact ⟨k + 1, ⟨by omega, by omega, by omega, by omega, by omega⟩, by omega, by simp , by rw [hk0]; simp [Leaf.zero, f227]⟩
    · have q1 := p1 (by omega)
      simp -implicitDefEqProofs only [leafA, innerA, nodeA, patchA, Leaf.cells, Inner.cells, Node.cells, decide_true, decide_false, h2, he, wk, ne_eq, not_false_eq_true, not_true_eq_false, zl, lgetS, q1, go_sem, Nat.reduceEqDiff, reduceIte, Nat.reduceAdd, Nat.reduceLeDiff, Nat.reduceLT, Nat.reduceSub]
      exact ⟨rfl, rfl, rfl, rfl⟩
  · have hR : (([b, r1, r2, r3, r4, r4][k]?).getD []) = r2 := by rw [hk0]; rfl
    have hL : (([Leaf.zero, ⟨x, [], 0, []⟩, ⟨x, y, 0, []⟩, ⟨x, y, s, []⟩, ⟨x, y, s, p⟩, ⟨x, y, s, p⟩][k]?).getD .zero) = ⟨x, y, 0, []⟩ := by rw [hk0]; rfl
    have ixk := fun e0 e1 e2 e3 e4 e5 => ix e0 e1 e2 e3 e4 e5 k (by omega)
    have ldk : ∀ e0 e1 e2 e3 e4 e5 : Entry, evLoad [e0, e1, e2, e3, e4, e5, .arr 1 0 rowF] false 1 (.eptr 6 0 k 0) = some (.func (.f 229) [] [.ptr 0 0, .ptr 2 0]) := fun e0 e1 e2 e3 e4 e5 => by rw [ld e0 e1 e2 e3 e4 e5 k (by omega), hk0]; rfl
    have hlt : (k : Int) < 5 := by omega
    rw [hR, hL]
    unfold leafH
    refine wpc_soundR [] ?_
    simp -implicitDefEqProofs only [leafA, innerA, nodeA, patchA, Leaf.cells, Inner.cells, Node.cells, decide_true, decide_false, hlt, ixk, ldk, go_sem, Nat.reduceEqDiff, reduceIte, Nat.reduceAdd, Nat.reduceLeDiff, Nat.reduceLT, Nat.reduceSub]
    refine Callee.fn (Callable.of told229) (from_spec r2 (.box zl) (octs x) (octs y) (.int .i64 0) (octs []) [.box [f227], .box [.ptr 2 0], .box [.ptr 2 1], .arr 1 0 rowF] ho2.2) ?_
    rintro _ _ ⟨rfl, rfl⟩
    by_cases he : srcE s e3 = 0
    · simp -implicitDefEqProofs only [leafA, innerA, nodeA, patchA, Leaf.cells, Inner.cells, Node.cells, decide_true, decide_false, h3, he, wk, go_sem, Nat.reduceEqDiff, reduceIte, Nat.reduceAdd, Nat.reduceLeDiff, Nat.reduceLT, Nat.reduceSub]
      exact ⟨k + 1, ⟨by omega, by omega, by omega, by omega, by omega⟩, by omega, by simp , by rw [hk0]; simp [Leaf.zero, f227]⟩
    · have q1 := p1 (by omega)
      have q2 := p2 (by omega)
      simp -implicitDefEqProofs only [leafA, innerA, nodeA, patchA, Leaf.cells, Inner.cells, Node.cells, decide_true, decide_false, h3, he, wk, ne_eq, not_false_eq_true, not_true_eq_false, zl, lgetS, q1, q2, go_sem, Nat.reduceEqDiff, reduceIte, Nat.reduceAdd, Nat.reduceLeDiff, Nat.reduceLT, Nat.reduceSub]
      exact ⟨rfl, rfl, rfl, rfl⟩
  · have hR : (([b, r1, r2, r3, r4, r4][k]?).getD []) = r3 := by rw [hk0]; rfl
    have hL : (([Leaf.zero, ⟨x, [], 0, []⟩, ⟨x, y, 0, []⟩, ⟨x, y, s, []⟩, ⟨x, y, s, p⟩, ⟨x, y, s, p⟩][k]?).getD .zero) = ⟨x, y, s, []⟩ := by rw [hk0]; rfl
    have ixk := fun e0 e1 e2 e3 e4 e5 => ix e0 e1 e2 e3 e4 e5 k (by omega)
    have ldk : ∀ e0 e1 e2 e3 e4 e5 : Entry, evLoad [e0, e1, e2, e3, e4, e5, .arr 1 0 rowF] false 1 (.eptr 6 0 k 0) = some (.func (.f 230) [] [.ptr 2 0, .ptr 3 0]) := fun e0 e1 e2 e3 e4 e5 => by rw [ld e0 e1 e2 e3 e4 e5 k (by omega), hk0]; rfl
    have hlt : (k : Int) < 5 := by omega
    rw [hR, hL]
    unfold leafH
    refine wpc_soundR [] ?_
    simp -implicitDefEqProofs only [leafA, innerA, nodeA, patchA, Leaf.cells, Inner.cells, Node.cells, decide_true, decide_false, hlt, ixk, ldk, go_sem, Nat.reduceEqDiff, reduceIte, Nat.reduceAdd, Nat.reduceLeDiff, Nat.reduceLT, Nat.reduceSub]
    refine Callee.fn (Callable.of told230) (par_spec r3 s (.box zl) (octs x) (octs y) [.box [.ptr 2 0], .box [.ptr 2 1], .arr 1 0 rowF] ho3) ?_
    rintro _ _ ⟨rfl, X, rfl⟩
    by_cases he : e4 = 0
    · simp -implicitDefEqProofs only [leafA, innerA, nodeA, patchA, Leaf.cells, Inner.cells, Node.cells, decide_true, decide_false, h4, he, wk, go_sem, Nat.reduceEqDiff, reduceIte, Nat.reduceAdd, Nat.reduceLeDiff, Nat.reduceLT, Nat.reduceSub]
      exact ⟨k + 1, ⟨by omega, by omega, by omega, by omega, by omega⟩, by omega, by simp , by rw [hk0]; simp [Leaf.zero, f227]⟩
    · have q1 := p1 (by omega)
      have q2 := p2 (by omega)
      have q3 := p3 (by omega)
      simp -implicitDefEqProofs only [leafA, innerA, nodeA, patchA, Leaf.cells, Inner.cells, Node.cells, decide_true, decide_false, h4, he, wk, ne_eq, not_false_eq_true, not_true_eq_false, zl, lgetS, q1, q2, q3, go_sem, Nat.reduceEqDiff, reduceIte, Nat.reduceAdd, Nat.reduceLeDiff, Nat.reduceLT, Nat.reduceSub]
      exact ⟨rfl, rfl, rfl, rfl⟩
  · have hR : (([b, r1, r2, r3, r4, r4][k]?).getD []) = r4 := by rw [hk0]; rfl
    have hL : (([Leaf.zero, ⟨x, [], 0, []⟩, ⟨x, y, 0, []⟩, ⟨x, y, s, []⟩, ⟨x, y, s, p⟩, ⟨x, y, s, p⟩][k]?).getD .zero) = ⟨x, y, s, p⟩ := by rw [hk0]; rfl
    have ixk := fun e0 e1 e2 e3 e4 e5 => ix e0 e1 e2 e3 e4 e5 k (by omega)
    have ldk : ∀ e0 e1 e2 e3 e4 e5 : Entry, evLoad [e0, e1, e2, e3, e4, e5, .arr 1 0 rowF] false 1 (.eptr 6 0 k 0) = some (.func (.f 231) [] [.ptr 2 0]) := fun e0 e1 e2 e3 e4 e5 => by rw [ld e0 e1 e2 e3 e4 e5 k (by omega), hk0]; rfl
    have hlt : (k : Int) < 5 := by omega
    rw [hR, hL]
    unfold leafH
    refine wpc_soundR [] ?_
    simp -implicitDefEqProofs only [leafA, innerA, nodeA, patchA, Leaf.cells, Inner.cells, Node.cells, decide_true, decide_false, hlt, ixk, ldk, go_sem, Nat.reduceEqDiff, reduceIte, Nat.reduceAdd, Nat.reduceLeDiff, Nat.reduceLT, Nat.reduceSub]
    refine Callee.fn (Callable.of told231) (check_spec ⟨x, y, s, p⟩ (.box [octs r4]) (.box zl) [.box [f227], .box [.ptr 2 0], .box [.ptr 2 1], .arr 1 0 rowF] ok) ?_
    rintro _ _ ⟨rfl, rfl⟩
    by_cases he : leafCheck ⟨x, y, s, p⟩ = 0
    · simp -implicitDefEqProofs only [leafA, innerA, nodeA, patchA, Leaf.cells, Inner.cells, Node.cells, decide_true, decide_false, he, wk, go_sem, Nat.reduceEqDiff, reduceIte, Nat.reduceAdd, Nat.reduceLeDiff, Nat.reduceLT, Nat.reduceSub]
      exact ⟨k + 1, ⟨by omega, by omega, by omega, by omega, by omega⟩, by omega, by simp , by rw [hk0]; simp [Leaf.zero, f227]⟩
    · have q1 := p1 (by omega)
      have q2 := p2 (by omega)
      have q3 := p3 (by omega)
      have q4 := p4 (by omega)
      simp -implicitDefEqProofs only [leafA, innerA, nodeA, patchA, Leaf.cells, Inner.cells, Node.cells, decide_true, decide_false, he, wk, ne_eq, not_false_eq_true, not_true_eq_false, zl, lgetS, q1, q2, q3, q4, go_sem, Nat.reduceEqDiff, reduceIte, Nat.reduceAdd, Nat.reduceLeDiff, Nat.reduceLT, Nat.reduceSub]
      exact ⟨rfl, rfl, rfl, rfl⟩
  · have hR : (([b, r1, r2, r3, r4, r4][k]?).getD []) = r4 := by rw [hk0]; rfl
    have hL : (([Leaf.zero, ⟨x, [], 0, []⟩, ⟨x, y, 0, []⟩, ⟨x, y, s, []⟩, ⟨x, y, s, p⟩, ⟨x, y, s, p⟩][k]?).getD .zero) = ⟨x, y, s, p⟩ := by rw [hk0]; rfl
    have hlt : ¬ (k : Int) < 5 := by omega
    have q1 := p1 (by omega)
    have q2 := p2 (by omega)
    have q3 := p3 (by omega)
    have q4 := p4 (by omega)
    have q5 := p5 (by omega)
    rw [hR, hL]
    unfold leafH
    refine wpc_soundR [] ?_
    simp -implicitDefEqProofs only [leafA, innerA, nodeA, patchA, Leaf.cells, Inner.cells, Node.cells, decide_true, decide_false, hlt, go_sem, Nat.reduceEqDiff, reduceIte, Nat.reduceAdd, Nat.reduceLeDiff, Nat.reduceLT, Nat.reduceSub]
    refine WP.drawQ [] [.g 0 0, .g 0 1, .h 0, .l, .l] mixed (by decide) ?_
    simp -implicitDefEqProofs only [leafA, innerA, nodeA, patchA, Leaf.cells, Inner.cells, Node.cells, decide_true, decide_false, q1, q2, q3, q4, q5, ne_eq, not_true_eq_false, zl, lgetS, go_sem, Nat.reduceEqDiff, reduceIte, Nat.reduceAdd, Nat.reduceLeDiff, Nat.reduceLT, Nat.reduceSub]
noncomputable def r213 : Reg seat := .of told213 (ask1 (fun a0' => isO a0' ∧ Oct (dO a0')) fun a0' => .fn (.tup [leafA (lget (dO a0')).1, octs (lget (dO a0')).2.1, .int .i64 (lget (dO a0')).2.2])) (ask1_ok fun a0' h => SaidOk.fn (Fun.weak (.cons (isO.weak h.1) .nil) (lget_spec _ h.2)))
theorem r213_c : r213.c = 213 := rfl
open Classical in
theorem r213_ask (a0' : AV) : r213.ask [a0'] = if isO a0' ∧ Oct (dO a0') then some (Said.fn (.tup [leafA (lget (dO a0')).1, octs (lget (dO a0')).2.1, .int .i64 (lget (dO a0')).2.2])) else none := by unfold r213 Reg.of ask1; exact ite_cl
end Go.Proofs.YtlehcigcaihoaaaGreat.Al
