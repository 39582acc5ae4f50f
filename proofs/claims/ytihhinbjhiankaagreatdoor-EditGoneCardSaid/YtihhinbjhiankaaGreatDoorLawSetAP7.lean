/-
  JOINED: I1, D10, I2, I3, I4, D11, D12, S3
-/
import Derived.Test.YtihhinbjhiankaaGreatDoorLawSetAP6
import Derived.Test.YtihhinbjhiankaaGreatDoorLawSetAP4
import Derived.Shelf.Spec.TrailingZeros
import Derived.Test.YtihhinbjhiankaaGreatDoorLawSetAP3
import Derived.Test.YtihhinbjhiankaaGreatDoorLawSetAP5
set_option linter.unusedSimpArgs false
set_option linter.unusedVariables false
namespace Go.Proofs.YtihhinbjhiankaaGreatDoor.Al
open Go
attribute [local go_sem] W_mv W_pick W_alloc W_box W_build W_bslice W_load W_store W_bin W_isnil W_un W_convI W_convS W_mkfunc W_mkslice W_slice W_faddr W_field W_iaddr W_extract W_len W_min W_append W_appendZ W_copy W_invoke thenQ_normal thenQ_exit thenQ_goto thenQ_ret blockQ_normal blockQ_ret blockQ_goto blockQ_exit wpc_skip wpc_region wpc_draw wpc_seq wpc_cond wpc_block wpc_exit wpc_goto wpc_label wpc_ret wpc_loop wpc_range wpc_scope condW_true condW_false condW_dec condW_any W_nil W_call resW_some evalOp Opd.ev updo_envL updo_none setL_cons setL_nil envL_cons Option.map_some Option.bind_some evBin evInt List.map_cons List.map_nil Option.pure_def Option.bind_eq_bind W_grd' grdW_tt grdW_ff grdW_tf grdW_ft grdW_tup grdW_dt grdW_df lgrdW_tup L_mv L_load L_bin L_un L_faddr L_iaddr L_nil L_call lresW_some upd_envL evUn beq_dec bne_dec leaves_ret1 leaves_ret0 leaves_end0 rowLen_ints load_iptr0 not_dec heap_get0 heap_get1 heap_set0 heap_set1 heap_len1 heap_app bslice1_int seen_ints seen_one0 Nat.sub_zero Bool.not_true Bool.not_false List.length_nil List.length_cons List.nil_append List.cons_append Nat.zero_add load_iptrA canon_ptrI canon_bool canon_tup canon_agg canon_ints' canon_ints0 rowLen_octs seen_octs canon_octs' seen_intss seen_octss rowLen_nodes seen_nodes canon_nodes' rowLen_nodes0 rowLen_nodes1 seen_list cells_int oneIn_int cells_bool oneIn_bool cells_str oneIn_str cells_list oneIn_list cells_func oneIn_func cells_nilfunc oneIn_nilfunc cells_iptr oneIn_iptr cells_iface oneIn_iface cells_nilIface oneIn_nilIface cells_own cells_ptr cells_anybool oneIn_anybool cells_agg oneIn_own0 oneIn_own1 oneIn_own3 oneIn_own4 oneIn_own5 cells_ints oneIn_ints cells_octs oneIn_octs cells_intss oneIn_intss cells_octss oneIn_octss cells_nodes oneIn_nodes ldB0 ldA0 adB0 stB0 ldB1 ldA1 adB1 stB1 ldB2 ldA2 adB2 stB2 ldB3 ldA3 adB3 stB3 ldB4 ldA4 adB4 stB4 ldB5 ldA5 adB5 stB5 List.getElem?_cons_zero List.getElem?_cons_succ beq_self_eq_true splice List.take_zero List.take_succ_cons List.drop_zero List.drop_succ_cons List.append_nil List.set_cons_zero List.set_cons_succ List.all_cons List.all_nil Bool.and_self and_self and_true true_and Nat.lt_irrefl Nat.zero_lt_one Nat.le_refl fillA evNil notA Bool.false_eq_true evMin_int evMax_int Option.map_none freezeP_all_nil freezeP_all_cons frzE_box frzE_arr frzE_dead foldA List.foldlM_cons List.foldlM_nil callW_f lcallW_f ansW_fn ansW_own lansW_fn lansW_own ansW_none lansW_none tab_cons tab_nil dI_int dB_bool dO_octs dO_ints dO_nil dOs_nil dN_nodeA dLf_agg dIn_agg dN_agg dNs_nodes dNs_nil isI_int isO_octs isO_nil isS_ints isS_nil isNs_nodes isNs_nil isLf_agg isIn_agg isN_agg leaf_eta inner_eta node_eta leaf_zero inner_zero node_zero dP_agg isP_agg patch_eta decide_eq_true_eq decide_eq_false_iff_not eq_self forall_const true_implies false_implies Bool.not_eq_true' Bool.not_eq_false' Bool.true_eq_false implies_true ne_eq ldI ldIA adI AV.tup.injEq AV.agg.injEq List.cons.injEq AV.int.injEq AV.bool.injEq nodes_inj octs_inj ints_inj nil_nodes nil_octs nil_ints canon_nilL decide_eq_decide two_ne lendA_fn lendA_own lendA_none llendA_fn llendA_none plain_bool plain_int isNs_own isS_own false_and and_false Q_nil Q_l Q_g Q_h qgrdW_b qgrdW_tup lightD_some heavyD_some readD_some fnD_some fnD_own fnD_none callL_f ownH_some callH_f litD_some litE_some Q_call Q_bslice H_call pendOk_nil pendOk_cons pastOk_nil pastOk_cons Q_mv Q_pick Q_bin Q_un Q_convI Q_mkfunc Q_extract Q_min Q_max Q_lenS Q_lenA Q_field Q_idxA Q_mkiface Q_tassert Q_alloc Q_box Q_store Q_mkslice Q_append Q_appendZ Q_copy Q_clear Q_build Q_load Q_nilck Q_isnil Q_convS Q_slice Q_faddr Q_iaddr Q_iaddrA Q_len H_alloc H_box H_bslice H_store H_mkslice H_append H_appendZ H_copy H_clear free_mv free_pick free_bin free_un free_convI free_mkfunc free_extract free_min free_max free_lenS free_lenA free_field free_idxA free_mkiface free_tassert free_build free_load free_nilck free_isnil free_convS free_slice free_faddr free_iaddr free_iaddrA free_len callW_y List.length_map List.length_set leaves_r evR_some evRess1 evRess2 evRess3 evRes_t evRes_c nz_kind nz_enc nz_cred nz_source nz_parent nz_ienc nz_hash nz_un true_or or_true bsl_node idbs_node idbs_int appN appI ixo_nodes canon_row canon_rowI canon_rowO not_false_eq_true not_true_eq_false ldE_a ldE_c adE_b stE_b onE_a onP_b bsl_zero idbs_zero appN_zero
attribute [local go_sem low] condW_b grdW_b lgrdW_b ldP adP stP onO onPt
attribute [local simp] envL_cons envL_nil idb_int idb_bool idb_ints idb_nil idb_own idb_ptr idb_octs idb_nodes idb_leafA idb_innerA idb_nodeA idb_agg idb_tup idb_iptr idb_fn entB_dead entB_box
theorem tz_spec (x : Nat) (hx : x < 18446744073709551616) : Fun seat 281 [.int .u64 x] (.int .i64 (Lib.ctz 64 x)) := by
  intro H m I X w vs hs hv
  obtain ⟨v, rfl, hw⟩ := args1 hv
  cases hw
  have ef : seat.fn 281 = lays727Ren.f 27 := rfl
  rw [ef]
  refine (Any7.bits_TrailingZeros lays727At x hx w (fun _ => ?_)).mono ?_
  · exact (hs.gl (lays727Ren.g 1, Lib.deBruijn64tab) (by simp [seat]; rfl)).2
  · rintro e' w' ⟨rfl, rfl⟩
    exact ⟨_, H, _, m, I, rfl, ⟨rfl, rfl⟩, .int _ _, hs, .refl m, fun _ hb => hb, .refl I X _⟩
theorem lev_ctz : ∀ n, n < 127 → Lib.ctz 64 (18446744073709551615 - n) = lev n := by decide +kernel
theorem isN_spec (x w : Int) : Fun seat 257 [.int .i64 x, .int .i64 w] (.bool (decide (IsN x w))) := by
  by_cases h : Whole w
  · by_cases h0 : x ≥ 0
    · have e : IsN x w ↔ x < w := ⟨fun k => k.2.2, fun k => ⟨h, h0, k⟩⟩
      refine Fun.of0R [r125] told257 (by simp [il257]) (by simp [idb_patchA]) (by simp [idb_patchA]) 4 ?_
      simp -implicitDefEqProofs only [il257, List.zipIdx_cons, List.zipIdx_nil, leafA, innerA, nodeA, patchA, Leaf.cells, Inner.cells, Node.cells, r125_c, r125_ask, decide_true, decide_false, h, h0, e, go_sem, Nat.reduceEqDiff, reduceIte, Nat.reduceAdd, Nat.reduceLeDiff, Nat.reduceLT, Nat.reduceSub]
    · have e : ¬ IsN x w := fun k => h0 k.2.1
      refine Fun.of0R [r125] told257 (by simp [il257]) (by simp [idb_patchA]) (by simp [idb_patchA]) 4 ?_
      simp -implicitDefEqProofs only [il257, List.zipIdx_cons, List.zipIdx_nil, leafA, innerA, nodeA, patchA, Leaf.cells, Inner.cells, Node.cells, r125_c, r125_ask, decide_true, decide_false, h, h0, e, go_sem, Nat.reduceEqDiff, reduceIte, Nat.reduceAdd, Nat.reduceLeDiff, Nat.reduceLT, Nat.reduceSub]
  · have e : ¬ IsN x w := fun k => h k.1
    refine Fun.of0R [r125] told257 (by simp [il257]) (by simp [idb_patchA]) (by simp [idb_patchA]) 4 ?_
    simp -implicitDefEqProofs only [il257, List.zipIdx_cons, List.zipIdx_nil, leafA, innerA, nodeA, patchA, Leaf.cells, Inner.cells, Node.cells, r125_c, r125_ask, decide_true, decide_false, h, e, go_sem, Nat.reduceEqDiff, reduceIte, Nat.reduceAdd, Nat.reduceLeDiff, Nat.reduceLT, Nat.reduceSub]
noncomputable def r257 : Reg seat := .of told257 (ask2 (fun a0' a1' => isI a0' ∧ isI a1') fun a0' a1' => .fn (.bool (decide (IsN (dI a0') (dI a1'))))) (ask2_ok fun a0' a1' h => SaidOk.fn (Fun.weak (.cons (isI.weak h.1) (.cons (isI.weak h.2) .nil)) (isN_spec _ _)))
theorem r257_c : r257.c = 257 := rfl
open Classical in
theorem r257_ask (a0' a1' : AV) : r257.ask [a0', a1'] = if isI a0' ∧ isI a1' then some (Said.fn (.bool (decide (IsN (dI a0') (dI a1'))))) else none := by unfold r257 Reg.of ask2; exact ite_cl
theorem level_spec (x : Int) : Fun seat 279 [.int .i64 x] (.int .i64 (level x)) := by
  by_cases h0 : x < 0
  · have e : level x = -1 := if_neg (by omega)
    rw [e]
    refine Fun.of0R [] told279 (by simp [il279]) (by simp [idb_patchA]) (by simp [idb_patchA]) 4 ?_
    simp -implicitDefEqProofs only [il279, List.zipIdx_cons, List.zipIdx_nil, leafA, innerA, nodeA, patchA, Leaf.cells, Inner.cells, Node.cells, decide_true, decide_false, h0, go_sem, Nat.reduceEqDiff, reduceIte, Nat.reduceAdd, Nat.reduceLeDiff, Nat.reduceLT, Nat.reduceSub]
  by_cases h1 : x ≥ 127
  · have e : level x = -1 := if_neg (by omega)
    rw [e]
    refine Fun.of0R [] told279 (by simp [il279]) (by simp [idb_patchA]) (by simp [idb_patchA]) 4 ?_
    simp -implicitDefEqProofs only [il279, List.zipIdx_cons, List.zipIdx_nil, leafA, innerA, nodeA, patchA, Leaf.cells, Inner.cells, Node.cells, decide_true, decide_false, h0, h1, go_sem, Nat.reduceEqDiff, reduceIte, Nat.reduceAdd, Nat.reduceLeDiff, Nat.reduceLT, Nat.reduceSub]
  have e : level x = lev x.toNat := if_pos (by omega)
  rw [e]
  have hn : x.toNat < 127 := by omega
  have lc := lev_ctz _ hn
  have sg : (IntKind.u64.signed = true) = False := by simp [IntKind.signed]
  have bx : bits BinOp.xor IntKind.u64 IntKind.u64.max (IntKind.u64.wrap x) = ((18446744073709551615 - x.toNat : Nat) : Int) := by
    have key : ∀ n : Nat, n < 127 → bits BinOp.xor IntKind.u64 IntKind.u64.max (IntKind.u64.wrap (n : Int)) = ((18446744073709551615 - n : Nat) : Int) := by decide +kernel
    have := key _ hn
    rwa [show ((x.toNat : Nat) : Int) = x by omega] at this
  refine Fun.of0R [] told279 (by simp [il279]) (by simp [idb_patchA]) (by simp [idb_patchA]) 4 ?_
  simp -implicitDefEqProofs only [il279, List.zipIdx_cons, List.zipIdx_nil, leafA, innerA, nodeA, patchA, Leaf.cells, Inner.cells, Node.cells, decide_true, decide_false, h0, h1, sg, bx, go_sem, Nat.reduceEqDiff, reduceIte, Nat.reduceAdd, Nat.reduceLeDiff, Nat.reduceLT, Nat.reduceSub]
  refine Callee.f told281 (tz_spec _ (by omega)) ?_
  simp -implicitDefEqProofs only [leafA, innerA, nodeA, patchA, Leaf.cells, Inner.cells, Node.cells, decide_true, decide_false, lc, go_sem, Nat.reduceEqDiff, reduceIte, Nat.reduceAdd, Nat.reduceLeDiff, Nat.reduceLT, Nat.reduceSub]
noncomputable def r279 : Reg seat := .of told279 (ask1 (fun a0' => isI a0') fun a0' => .fn (.int .i64 (level (dI a0')))) (ask1_ok fun a0' h => SaidOk.fn (Fun.weak (.cons (isI.weak h) .nil) (level_spec _)))
theorem r279_c : r279.c = 279 := rfl
open Classical in
theorem r279_ask (a0' : AV) : r279.ask [a0'] = if isI a0' then some (Said.fn (.int .i64 (level (dI a0')))) else none := by unfold r279 Reg.of ask1; exact ite_cl
/-- Two to the power of k. -/
theorem shl1 (k : Int) (h : 0 ≤ k ∧ k ≤ 7) : evShift .shl .i64 1 k = some (.int .i64 (2 ^ k.toNat)) := by
  rcases (by omega : k = 0 ∨ k = 1 ∨ k = 2 ∨ k = 3 ∨ k = 4 ∨ k = 5 ∨ k = 6 ∨ k = 7) with rfl | rfl | rfl | rfl | rfl | rfl | rfl | rfl <;> rfl
theorem level_in {x w : Int} (h : IsN x w) : level x = lev x.toNat := if_pos h.lt
theorem par_bits {x w : Int} (h : IsN x w) : bits .andNot .i64 (bits .or .i64 x (2 ^ lev x.toNat)) (2 ^ (lev x.toNat + 1)) = (parN x.toNat : Int) := by
  have := IsN.all (p := fun y _ => bits .andNot .i64 (bits .or .i64 (y : Int) (2 ^ lev y)) (2 ^ (lev y + 1)) = (parN y : Int)) (by decide +kernel) h
  rwa [h.cast.1] at this
theorem par_spec' (x w : Int) (h : IsN x w) : Fun seat 280 [.int .i64 w, .int .i64 x] (.int .i64 (parI x w)) := by
  have hl := lev_le h
  have e := level_in h
  have hw := h.1
  unfold parI
  rw [if_pos h]
  by_cases hr : x = w / 2
  · rw [if_pos hr]
    refine Fun.of0R [r109] told280 (by simp [il280]) (by simp [idb_patchA]) (by simp [idb_patchA]) 4 ?_
    simp -implicitDefEqProofs only [il280, List.zipIdx_cons, List.zipIdx_nil, leafA, innerA, nodeA, patchA, Leaf.cells, Inner.cells, Node.cells, r109_c, r109_ask, decide_true, decide_false, hw, eq_true hr, go_sem, Nat.reduceEqDiff, reduceIte, Nat.reduceAdd, Nat.reduceLeDiff, Nat.reduceLT, Nat.reduceSub]
  · rw [if_neg hr]
    have w1 : IntKind.i64.wrap (((lev x.toNat : Nat) : Int) + 1) = ((lev x.toNat : Nat) : Int) + 1 := wrap64 _ (by omega) (by omega)
    have s1 := shl1 ((lev x.toNat : Nat) : Int) (by omega)
    have s2 := shl1 (((lev x.toNat : Nat) : Int) + 1) (by omega)
    rw [Int.toNat_natCast] at s1
    rw [show (((lev x.toNat : Nat) : Int) + 1).toNat = lev x.toNat + 1 by omega] at s2
    have pb := par_bits h
    refine Fun.of0R [r109, r279] told280 (by simp [il280]) (by simp [idb_patchA]) (by simp [idb_patchA]) 4 ?_
    simp -implicitDefEqProofs only [il280, List.zipIdx_cons, List.zipIdx_nil, leafA, innerA, nodeA, patchA, Leaf.cells, Inner.cells, Node.cells, r109_c, r109_ask, r279_c, r279_ask, decide_true, decide_false, hw, hr, e, go_sem, Nat.reduceEqDiff, reduceIte, Nat.reduceAdd, Nat.reduceLeDiff, Nat.reduceLT, Nat.reduceSub]
    refine WP.drawQ [] [.l, .l, .l, .l, .l, .l, .l, .l, .l] mixed (by decide) ?_
    simp -implicitDefEqProofs only [leafA, innerA, nodeA, patchA, Leaf.cells, Inner.cells, Node.cells, decide_true, decide_false, w1, s1, s2, pb, go_sem, Nat.reduceEqDiff, reduceIte, Nat.reduceAdd, Nat.reduceLeDiff, Nat.reduceLT, Nat.reduceSub]
noncomputable def r280 : Reg seat := .of told280 (ask2 (fun a0' a1' => isI a0' ∧ isI a1' ∧ IsN (dI a1') (dI a0')) fun a0' a1' => .fn (.int .i64 (parI (dI a1') (dI a0')))) (ask2_ok fun a0' a1' h => SaidOk.fn (Fun.weak (.cons (isI.weak h.1) (.cons (isI.weak h.2.1) .nil)) (par_spec' _ _ h.2.2)))
theorem r280_c : r280.c = 280 := rfl
open Classical in
theorem r280_ask (a0' a1' : AV) : r280.ask [a0', a1'] = if isI a0' ∧ isI a1' ∧ IsN (dI a1') (dI a0') then some (Said.fn (.int .i64 (parI (dI a1') (dI a0')))) else none := by unfold r280 Reg.of ask2; exact ite_cl
theorem parI_not {x w : Int} (h : ¬ IsN x w) : parI x w = -1 := if_neg h
theorem ofP_spec (x w : Int) : Fun seat 270 [.func (.f 280) [] [], .int .i64 x, .int .i64 w] (.int .i64 (parI x w)) := by
  by_cases h : IsN x w
  · refine Fun.of0R [r257, r280] told270 (by simp [il270]) (by simp [idb_patchA]) (by simp [idb_patchA]) 4 ?_
    simp -implicitDefEqProofs only [il270, List.zipIdx_cons, List.zipIdx_nil, leafA, innerA, nodeA, patchA, Leaf.cells, Inner.cells, Node.cells, r257_c, r257_ask, r280_c, r280_ask, decide_true, decide_false, h, go_sem, Nat.reduceEqDiff, reduceIte, Nat.reduceAdd, Nat.reduceLeDiff, Nat.reduceLT, Nat.reduceSub]
  · rw [parI_not h]
    refine Fun.of0R [r257] told270 (by simp [il270]) (by simp [idb_patchA]) (by simp [idb_patchA]) 4 ?_
    simp -implicitDefEqProofs only [il270, List.zipIdx_cons, List.zipIdx_nil, leafA, innerA, nodeA, patchA, Leaf.cells, Inner.cells, Node.cells, r257_c, r257_ask, decide_true, decide_false, h, go_sem, Nat.reduceEqDiff, reduceIte, Nat.reduceAdd, Nat.reduceLeDiff, Nat.reduceLT, Nat.reduceSub]
noncomputable def r270p : Reg seat := .of told270 (ask3 (fun a0' a1' a2' => a0' = .func (.f 280) [] [] ∧ isI a1' ∧ isI a2') fun a0' a1' a2' => .fn (.int .i64 (parI (dI a1') (dI a2')))) (ask3_ok fun a0' a1' a2' h => SaidOk.fn (Fun.weak (.cons (Weak.of_eq h.1) (.cons (isI.weak h.2.1) (.cons (isI.weak h.2.2) .nil))) (ofP_spec _ _)))
theorem r270p_c : r270p.c = 270 := rfl
open Classical in
theorem r270p_ask (a0' a1' a2' : AV) : r270p.ask [a0', a1', a2'] = if a0' = .func (.f 280) [] [] ∧ isI a1' ∧ isI a2' then some (Said.fn (.int .i64 (parI (dI a1') (dI a2')))) else none := by unfold r270p Reg.of ask3; exact ite_cl
theorem ixParent_spec (x w : Int) : Fun seat 273 [.int .i64 x, .int .i64 w] (.int .i64 (parI x w)) := by
  refine Fun.of0R [r270p] told273 (by simp [il273]) (by simp [idb_patchA]) (by simp [idb_patchA]) 4 ?_
  simp -implicitDefEqProofs only [il273, List.zipIdx_cons, List.zipIdx_nil, leafA, innerA, nodeA, patchA, Leaf.cells, Inner.cells, Node.cells, r270p_c, r270p_ask, decide_true, decide_false, go_sem, Nat.reduceEqDiff, reduceIte, Nat.reduceAdd, Nat.reduceLeDiff, Nat.reduceLT, Nat.reduceSub]
noncomputable def r273 : Reg seat := .of told273 (ask2 (fun a0' a1' => isI a0' ∧ isI a1') fun a0' a1' => .fn (.int .i64 (parI (dI a0') (dI a1')))) (ask2_ok fun a0' a1' h => SaidOk.fn (Fun.weak (.cons (isI.weak h.1) (.cons (isI.weak h.2) .nil)) (ixParent_spec _ _)))
theorem r273_c : r273.c = 273 := rfl
open Classical in
theorem r273_ask (a0' a1' : AV) : r273.ask [a0', a1'] = if isI a0' ∧ isI a1' then some (Said.fn (.int .i64 (parI (dI a0') (dI a1')))) else none := by unfold r273 Reg.of ask2; exact ite_cl
end Go.Proofs.YtihhinbjhiankaaGreatDoor.Al

set_option linter.unusedSimpArgs false
set_option linter.unusedVariables false
namespace Go.Proofs.YtihhinbjhiankaaGreatDoor.Al
open Go
variable {S : Seat}

/-- An iterator yields some rows of values, one by one, to whatever loop; it writes into the box p, which holds 'st' at the start. -/
def GivesO (S : Seat) (c : Nat) (cap : List AV) (p : Nat) (st : Entry) (xs : List (List AV)) : Prop :=
  ∀ (id : Nat) (H0 : List Entry) (J : Nat → List Entry → Prop) (Jx : List Entry → Prop), H0[p]? = some st → J 0 H0 → (∀ k H e, J k H → J k (H.set p e)) →
    (∀ k (hk : k < xs.length) H1, J k H1 → AYield S id xs[k] H1 (fun r H2 => (r = .bool true ∧ H2[p]? = H1[p]? ∧ J (k + 1) H2) ∨ (r = .bool false ∧ Jx H2))) →
    ACall S c ([.func (.y id) [] []] ++ cap) H0 (fun _ H' => J xs.length H' ∨ Jx H')

/-- A loop over such an iterator. G k e: what the caller made, behind k rounds, with e in the iterator's box. -/
theorem WP.rangeO {N b : Nat} {Q : Exit → St → Prop} {H : List Entry} {env : Env} {g : Opd} {ps : List Nat} {assign body : IC} {c : Nat} {cap : List AV} (p : Nat) (st : Entry) (xs : List (List AV)) (hg : g.ev env = .func (.f c) [] cap) (hcb : Callable S c) (hG : GivesO S c cap p st xs)
    (hps : ∀ x ∈ xs, x.length = ps.length) (G : Nat → Entry → List Entry) (P : Nat → Prop) (hp : p < H.length) (hlen : ∀ k e, (G k e).length = H.length) (hGp : ∀ k e, (G k e)[p]? = some e) (hGs : ∀ k e e', (G k e).set p e' = G k e') (hP : P 0) (h0 : G 0 st = H)
    (hround : ∀ k (hk : k < xs.length) (e : Entry), P k → ∀ (l : Nat) (T : List Entry) (b : Nat), b = H.length + T.length → WP S (some l) N b assign (fun x s => x = .normal ∧ ∃ X, s.H = G k e ++ (T ++ X) ∧
      ∀ T', T'.length = T.length → WP S (some l) N b body (RoundQ (fun k => G k e) P H.length Q env k T') ⟨s.env, G k e ++ (T' ++ X)⟩) ⟨setPs env ps xs[k], G k e ++ T⟩)
    (hend : P xs.length → ∀ e T, Q .normal ⟨env, G xs.length e ++ T⟩) : WP S none N b (.rangeFunc g ps assign body) Q ⟨env, H⟩ := by
  refine WP.range (first := []) hg hcb fun L hy => ?_
  have getT : ∀ (A T : List Entry), A.length = H.length → (A ++ T)[H.length]? = T[0]? := fun A T h => by
    rw [List.getElem?_append_right (by omega), h, Nat.sub_self]
  have setT : ∀ (A T : List Entry) (x : Entry), A.length = H.length → (A ++ T).set H.length x = A ++ T.set 0 x := fun A T x h => by
    rw [List.set_append_right _ _ (by omega), h, Nat.sub_self]
  have getp : ∀ k e T, (G k e ++ T)[p]? = some e := fun k e T => by rw [List.getElem?_append_left (by rw [hlen]; exact hp), hGp]
  refine (hG H.length _ (fun k H1 => P k ∧ ∃ e T, H1 = G k e ++ T ∧ T[0]? = some (L .ready)) (fun H1 => ∃ j H2 T, H1 = H2 ++ T ∧ H2.length = H.length ∧ T[0]? = some (L (.done j)) ∧ ∀ T3, Q j.leave ⟨env, H2 ++ T3⟩) ?_ ⟨hP, st, [L .ready], by rw [h0], rfl⟩ ?_ ?_).mono ?_
  · rw [← h0]; exact getp 0 st _
  · rintro k _ e' ⟨a, e, T, rfl, hT⟩
    exact ⟨a, e', T, by rw [List.set_append_left _ _ (by rw [hlen]; exact hp), hGs], hT⟩
  · rintro k hk H1 ⟨hpk, e, T, rfl, hT⟩
    have hT0 : 0 < T.length := lt_of_get hT
    refine hy _ _ _ ⟨by rw [getT _ _ (hlen k e)]; exact hT, hps _ (List.getElem_mem hk), fun l => ?_⟩
    refine WP.mono (hround k hk e hpk l T _ (by simp [hlen])) ?_
    rintro x s ⟨rfl, X, hH, hbody⟩
    have hTX : (T ++ X)[0]? = T[0]? := List.getElem?_append_left hT0
    have hTS : ∀ x, (T ++ X).set 0 x = T.set 0 x ++ X := fun x => by rw [List.set_append_left _ _ hT0]
    refine ⟨rfl, by rw [hH, getT _ _ (hlen k e), hTX]; exact hT, ?_⟩
    rw [hH, setT _ _ _ (hlen k e), hTS]
    have hb := hbody (T.set 0 (L .busy)) (by simp)
    refine WP.mono hb ?_
    rintro e' st' ⟨H2, T2, h1, h2, h3, h4⟩
    have hbz : T2[0]? = some (L .busy) := by
      rw [h3 0 (by simpa using hT0), List.getElem?_set_self hT0]
    refine ⟨by rw [h1, getT _ _ h2]; exact hbz, ?_⟩
    have hl2 := lt_of_get hbz
    cases e' with
    | normal =>
      obtain ⟨h5, rfl⟩ := h4
      exact .inl ⟨rfl, by rw [h1, setT _ _ _ h2, getp, getp], h5, e, T2.set 0 (L .ready), by rw [h1, setT _ _ _ h2], List.getElem?_set_self hl2⟩
    | _ =>
      obtain ⟨j, h5, h6⟩ := h4
      exact ⟨j, h5, .inr ⟨rfl, j, H2, T2.set 0 (L (.done j)), by rw [h1, setT _ _ _ h2], h2, List.getElem?_set_self hl2, h6⟩⟩
  · rintro r H' (⟨hpe, e, T, rfl, hT⟩ | ⟨j, H2, T, rfl, h2, hT, hq⟩)
    · refine .inl ⟨by rw [getT _ _ (hlen _ _)]; exact hT, ?_⟩
      rw [setT _ _ _ (hlen _ _)]
      exact hend hpe _ _
    · refine .inr ⟨j, by rw [getT _ _ h2]; exact hT, ?_⟩
      rw [setT _ _ _ h2]
      exact hq _

end Go.Proofs.YtihhinbjhiankaaGreatDoor.Al

set_option linter.unusedSimpArgs false
set_option linter.unusedVariables false
namespace Go.Proofs.YtihhinbjhiankaaGreatDoor.Al
open Go
attribute [local go_sem] W_mv W_pick W_alloc W_box W_build W_bslice W_load W_store W_bin W_isnil W_un W_convI W_convS W_mkfunc W_mkslice W_slice W_faddr W_field W_iaddr W_extract W_len W_min W_append W_appendZ W_copy W_invoke thenQ_normal thenQ_exit thenQ_goto thenQ_ret blockQ_normal blockQ_ret blockQ_goto blockQ_exit wpc_skip wpc_region wpc_draw wpc_seq wpc_cond wpc_block wpc_exit wpc_goto wpc_label wpc_ret wpc_loop wpc_range wpc_scope condW_true condW_false condW_dec condW_any W_nil W_call resW_some evalOp Opd.ev updo_envL updo_none setL_cons setL_nil envL_cons Option.map_some Option.bind_some evBin evInt List.map_cons List.map_nil Option.pure_def Option.bind_eq_bind W_grd' grdW_tt grdW_ff grdW_tf grdW_ft grdW_tup grdW_dt grdW_df lgrdW_tup L_mv L_load L_bin L_un L_faddr L_iaddr L_nil L_call lresW_some upd_envL evUn beq_dec bne_dec leaves_ret1 leaves_ret0 leaves_end0 rowLen_ints load_iptr0 not_dec heap_get0 heap_get1 heap_set0 heap_set1 heap_len1 heap_app bslice1_int seen_ints seen_one0 Nat.sub_zero Bool.not_true Bool.not_false List.length_nil List.length_cons List.nil_append List.cons_append Nat.zero_add load_iptrA canon_ptrI canon_bool canon_tup canon_agg canon_ints' canon_ints0 rowLen_octs seen_octs canon_octs' seen_intss seen_octss rowLen_nodes seen_nodes canon_nodes' rowLen_nodes0 rowLen_nodes1 seen_list cells_int oneIn_int cells_bool oneIn_bool cells_str oneIn_str cells_list oneIn_list cells_func oneIn_func cells_nilfunc oneIn_nilfunc cells_iptr oneIn_iptr cells_iface oneIn_iface cells_nilIface oneIn_nilIface cells_own cells_ptr cells_anybool oneIn_anybool cells_agg oneIn_own0 oneIn_own1 oneIn_own3 oneIn_own4 oneIn_own5 cells_ints oneIn_ints cells_octs oneIn_octs cells_intss oneIn_intss cells_octss oneIn_octss cells_nodes oneIn_nodes ldB0 ldA0 adB0 stB0 ldB1 ldA1 adB1 stB1 ldB2 ldA2 adB2 stB2 ldB3 ldA3 adB3 stB3 ldB4 ldA4 adB4 stB4 ldB5 ldA5 adB5 stB5 List.getElem?_cons_zero List.getElem?_cons_succ beq_self_eq_true splice List.take_zero List.take_succ_cons List.drop_zero List.drop_succ_cons List.append_nil List.set_cons_zero List.set_cons_succ List.all_cons List.all_nil Bool.and_self and_self and_true true_and Nat.lt_irrefl Nat.zero_lt_one Nat.le_refl fillA evNil notA Bool.false_eq_true evMin_int evMax_int Option.map_none freezeP_all_nil freezeP_all_cons frzE_box frzE_arr frzE_dead foldA List.foldlM_cons List.foldlM_nil callW_f lcallW_f ansW_fn ansW_own lansW_fn lansW_own ansW_none lansW_none tab_cons tab_nil dI_int dB_bool dO_octs dO_ints dO_nil dOs_nil dN_nodeA dLf_agg dIn_agg dN_agg dNs_nodes dNs_nil isI_int isO_octs isO_nil isS_ints isS_nil isNs_nodes isNs_nil isLf_agg isIn_agg isN_agg leaf_eta inner_eta node_eta leaf_zero inner_zero node_zero dP_agg isP_agg patch_eta decide_eq_true_eq decide_eq_false_iff_not eq_self forall_const true_implies false_implies Bool.not_eq_true' Bool.not_eq_false' Bool.true_eq_false implies_true ne_eq ldI ldIA adI AV.tup.injEq AV.agg.injEq List.cons.injEq AV.int.injEq AV.bool.injEq nodes_inj octs_inj ints_inj nil_nodes nil_octs nil_ints canon_nilL decide_eq_decide two_ne lendA_fn lendA_own lendA_none llendA_fn llendA_none plain_bool plain_int isNs_own isS_own false_and and_false Q_nil Q_l Q_g Q_h qgrdW_b qgrdW_tup lightD_some heavyD_some readD_some fnD_some fnD_own fnD_none callL_f ownH_some callH_f litD_some litE_some Q_call Q_bslice H_call pendOk_nil pendOk_cons pastOk_nil pastOk_cons Q_mv Q_pick Q_bin Q_un Q_convI Q_mkfunc Q_extract Q_min Q_max Q_lenS Q_lenA Q_field Q_idxA Q_mkiface Q_tassert Q_alloc Q_box Q_store Q_mkslice Q_append Q_appendZ Q_copy Q_clear Q_build Q_load Q_nilck Q_isnil Q_convS Q_slice Q_faddr Q_iaddr Q_iaddrA Q_len H_alloc H_box H_bslice H_store H_mkslice H_append H_appendZ H_copy H_clear free_mv free_pick free_bin free_un free_convI free_mkfunc free_extract free_min free_max free_lenS free_lenA free_field free_idxA free_mkiface free_tassert free_build free_load free_nilck free_isnil free_convS free_slice free_faddr free_iaddr free_iaddrA free_len callW_y List.length_map List.length_set leaves_r evR_some evRess1 evRess2 evRess3 evRes_t evRes_c nz_kind nz_enc nz_cred nz_source nz_parent nz_ienc nz_hash nz_un true_or or_true bsl_node idbs_node idbs_int appN appI ixo_nodes canon_row canon_rowI canon_rowO not_false_eq_true not_true_eq_false ldE_a ldE_c adE_b stE_b onE_a onP_b bsl_zero idbs_zero appN_zero
attribute [local go_sem low] condW_b grdW_b lgrdW_b ldP adP stP onO onPt
attribute [local simp] envL_cons envL_nil idb_int idb_bool idb_ints idb_nil idb_own idb_ptr idb_octs idb_nodes idb_leafA idb_innerA idb_nodeA idb_agg idb_tup idb_iptr idb_fn entB_dead entB_box
/-- The way up as an iterator: where it goes from is kept in a box, which it writes. -/
theorem up_spec (x w : Int) (H : List Entry) : ACall seat 266 [.int .i64 x, .int .i64 w] H (fun r H' => r = .func (.f 277) [] [.ptr H.length 0, .iptr [.int .i64 w] 0] ∧ H' = H ++ [.box [.int .i64 x], .dead]) := by
  refine ACall.of_wp told266 (by simp [il266]) ?_
  rw [start_env]
  simp only [il266, List.zipIdx_cons, List.zipIdx_nil, Nat.zero_add]
  refine WP.seqR [] fun K hK => ?_
  simp -implicitDefEqProofs only [leafA, innerA, nodeA, patchA, Leaf.cells, Inner.cells, Node.cells, decide_true, decide_false, go_sem, Nat.reduceEqDiff, reduceIte, Nat.reduceAdd, Nat.reduceLeDiff, Nat.reduceLT, Nat.reduceSub]
  refine hK _ (WP.sealB 3 (H.length + 1) (cs := [.int .i64 w]) rfl (by simp) ?_)
  clear hK K
  refine wpc_soundR [] ?_
  simp -implicitDefEqProofs only [leafA, innerA, nodeA, patchA, Leaf.cells, Inner.cells, Node.cells, decide_true, decide_false, go_sem, Nat.reduceEqDiff, reduceIte, Nat.reduceAdd, Nat.reduceLeDiff, Nat.reduceLT, Nat.reduceSub]
theorem up1_gives (x w : Int) (p : Nat) : GivesO seat 277 [.ptr p 0, .iptr [.int .i64 w] 0] p (.box [.int .i64 x]) ((ups x w).map fun y => [.int .i64 y]) := by
  intro id H0 J Jx hst h0 hset hround
  refine ACall.of_wp told277 (by simp [il277]) ?_
  rw [start_env]
  simp only [il277, List.zipIdx_cons, List.zipIdx_nil, Nat.zero_add, List.cons_append, List.nil_append]
  refine wpc_soundR [r257] ?_
  by_cases hx : IsN x w
  rotate_left
  · simp -implicitDefEqProofs only [leafA, innerA, nodeA, patchA, Leaf.cells, Inner.cells, Node.cells, r257_c, r257_ask, decide_true, decide_false, load_box hst, hx, go_sem, Nat.reduceEqDiff, reduceIte, Nat.reduceAdd, Nat.reduceLeDiff, Nat.reduceLT, Nat.reduceSub]
    exact .inl (by rw [ups_not hx]; exact h0)
  simp -implicitDefEqProofs only [leafA, innerA, nodeA, patchA, Leaf.cells, Inner.cells, Node.cells, r257_c, r257_ask, decide_true, decide_false, load_box hst, hx, go_sem, Nat.reduceEqDiff, reduceIte, Nat.reduceAdd, Nat.reduceLeDiff, Nat.reduceLT, Nat.reduceSub]
  refine WP.loopJ (fun _ : Nat => [(0, .func (.y id) [] []), (1, .ptr p 0), (2, .iptr [.int .i64 w] 0)]) (fun k H => k ≤ (ups x w).length ∧ J k H ∧ ∃ v, H[p]? = some (.box [.int .i64 v]) ∧ ups v w = (ups x w).drop k ∧ (IsN v w ∨ v < 0)) (fun k => (ups x w).length - k) 0 (by simp ) ⟨Nat.zero_le _, h0, x, hst, rfl, .inl hx⟩ ?_
  rintro k H ⟨hk, hj, v, hp, hv, hd⟩
  refine wpc_soundR [r257, r273] ?_
  by_cases hvi : IsN v w
  rotate_left
  · have hv0 : v < 0 := hd.resolve_left hvi
    have hv1 : ¬ v ≥ 0 := by omega
    have hke : k = (ups x w).length := by
      rw [ups_not hvi] at hv
      have := congrArg List.length hv
      simp only [List.length_nil, List.length_drop] at this
      omega
    subst hke
    simp -implicitDefEqProofs only [leafA, innerA, nodeA, patchA, Leaf.cells, Inner.cells, Node.cells, r257_c, r257_ask, r273_c, r273_ask, decide_true, decide_false, load_box hp, hv1, go_sem, Nat.reduceEqDiff, reduceIte, Nat.reduceAdd, Nat.reduceLeDiff, Nat.reduceLT, Nat.reduceSub]
    exact .inl hj
  · have hv1 : v ≥ 0 := hvi.2.1
    have hs := ups_step hvi
    rw [hs] at hv
    have hk' : k < (ups x w).length := by
      have := congrArg List.length hv
      simp only [List.length_cons, List.length_drop] at this
      omega
    rw [List.drop_eq_getElem_cons hk'] at hv
    obtain ⟨e1, e2⟩ := List.cons.inj hv
    have hr := hround k (by simpa using hk') H hj
    rw [List.getElem_map, ← e1] at hr
    simp -implicitDefEqProofs only [leafA, innerA, nodeA, patchA, Leaf.cells, Inner.cells, Node.cells, r257_c, r257_ask, r273_c, r273_ask, decide_true, decide_false, load_box hp, hv1, go_sem, Nat.reduceEqDiff, reduceIte, Nat.reduceAdd, Nat.reduceLeDiff, Nat.reduceLT, Nat.reduceSub]
    refine Callee.yld hr ?_
    rintro r H' (⟨rfl, hp', hj'⟩ | ⟨rfl, hx'⟩)
    · rw [hp] at hp'
      simp -implicitDefEqProofs only [leafA, innerA, nodeA, patchA, Leaf.cells, Inner.cells, Node.cells, r257_c, r257_ask, r273_c, r273_ask, decide_true, decide_false, hp', go_sem, Nat.reduceEqDiff, reduceIte, Nat.reduceAdd, Nat.reduceLeDiff, Nat.reduceLT, Nat.reduceSub]
      refine ⟨k + 1, ⟨hk', hset _ _ _ hj', parI v w, List.getElem?_set_self (lt_of_get hp'), e2, ?_⟩, by omega, by simp ⟩
      by_cases hpn : IsN (parI v w) w
      · exact .inl hpn
      · exact .inr (parI_neg hpn)
    · simp -implicitDefEqProofs only [leafA, innerA, nodeA, patchA, Leaf.cells, Inner.cells, Node.cells, r257_c, r257_ask, r273_c, r273_ask, decide_true, decide_false, hx', or_true, go_sem, Nat.reduceEqDiff, reduceIte, Nat.reduceAdd, Nat.reduceLeDiff, Nat.reduceLT, Nat.reduceSub]
end Go.Proofs.YtihhinbjhiankaaGreatDoor.Al

set_option linter.unusedSimpArgs false
set_option linter.unusedVariables false
namespace Go.Proofs.YtihhinbjhiankaaGreatDoor.Al
open Go
attribute [local go_sem] W_mv W_pick W_alloc W_box W_build W_bslice W_load W_store W_bin W_isnil W_un W_convI W_convS W_mkfunc W_mkslice W_slice W_faddr W_field W_iaddr W_extract W_len W_min W_append W_appendZ W_copy W_invoke thenQ_normal thenQ_exit thenQ_goto thenQ_ret blockQ_normal blockQ_ret blockQ_goto blockQ_exit wpc_skip wpc_region wpc_draw wpc_seq wpc_cond wpc_block wpc_exit wpc_goto wpc_label wpc_ret wpc_loop wpc_range wpc_scope condW_true condW_false condW_dec condW_any W_nil W_call resW_some evalOp Opd.ev updo_envL updo_none setL_cons setL_nil envL_cons Option.map_some Option.bind_some evBin evInt List.map_cons List.map_nil Option.pure_def Option.bind_eq_bind W_grd' grdW_tt grdW_ff grdW_tf grdW_ft grdW_tup grdW_dt grdW_df lgrdW_tup L_mv L_load L_bin L_un L_faddr L_iaddr L_nil L_call lresW_some upd_envL evUn beq_dec bne_dec leaves_ret1 leaves_ret0 leaves_end0 rowLen_ints load_iptr0 not_dec heap_get0 heap_get1 heap_set0 heap_set1 heap_len1 heap_app bslice1_int seen_ints seen_one0 Nat.sub_zero Bool.not_true Bool.not_false List.length_nil List.length_cons List.nil_append List.cons_append Nat.zero_add load_iptrA canon_ptrI canon_bool canon_tup canon_agg canon_ints' canon_ints0 rowLen_octs seen_octs canon_octs' seen_intss seen_octss rowLen_nodes seen_nodes canon_nodes' rowLen_nodes0 rowLen_nodes1
/-- The heap of AppendSeq behind k rounds. -/
def SeqO (e : Entry) (l : List Int) (k : Nat) (G : List Entry) : Prop :=
  G[3]? = some e ∧ ((k = 0 ∧ G[2]? = some (.box [.list true []])) ∨ ∃ rid v, 4 ≤ rid ∧ G[2]? = some (.box [.own rid v 0 k]) ∧ G[rid]? = some (.arr 1 v ((l.take k).map (AV.int .i64))))

theorem appendSeqO_spec (l : List Int) (hl : l.length ≤ 4294967295) (c : Nat) (f : IFn) (hc : trFn seat c = some f) (cap : List AV) (st e0 : Entry) (hg : GivesO seat c cap 0 st (l.map fun y => [.int .i64 y])) :
    ACall seat 47 [.list true [], .func (.f c) [] cap] [st, e0] (fun r H' => (l = [] ∧ r = .list true []) ∨ ∃ rid v, r = .own rid v 0 l.length ∧ H'[rid]? = some (.arr 1 v (l.map (AV.int .i64)))) := by
  refine ACall.of_wp told47 (by simp [il47]) (wpc_sound ?_)
  rw [start_env]
  simp only [il47, List.zipIdx_cons, List.zipIdx_nil, Nat.zero_add, go_sem, Nat.reduceEqDiff, reduceIte, Nat.reduceAdd, AV.cells, List.all_cons, List.all_nil, AV.oneIn, Bool.and_self, List.length_nil, List.nil_append]
  refine WP.range (c := c) (first := []) (captured := cap) (by simp only [go_sem, Nat.reduceEqDiff, reduceIte, Nat.reduceAdd]) (Callable.of hc) (fun L hy => ?_)
  simp only [List.nil_append, List.cons_append, List.length_cons, List.length_nil, Nat.zero_add] at hy ⊢
  refine (hg 3 _ (SeqO (L .ready) l) (fun _ => False) rfl ⟨rfl, .inl ⟨rfl, rfl⟩⟩ ?_ ?_).mono ?_
  · rintro k H e ⟨j2, j3⟩
    have hne : ∀ j, j ≠ 0 → (H.set 0 e)[j]? = H[j]? := fun j hj => List.getElem?_set_ne (Ne.symm hj)
    refine ⟨by rw [hne _ (by omega)]; exact j2, ?_⟩
    rcases j3 with ⟨a, j3⟩ | ⟨rid, v, j3, j4, j5⟩
    · exact .inl ⟨a, by rw [hne _ (by omega)]; exact j3⟩
    · exact .inr ⟨rid, v, j3, by rw [hne _ (by omega)]; exact j4, by rw [hne _ (by omega)]; exact j5⟩
  · rintro k hk H1 ⟨j2, j3⟩
    have hk : k < l.length := by simpa using hk
    rw [List.getElem_map]
    refine hy _ _ _ ⟨j2, rfl, fun lp => wpc_sound ?_⟩
    simp only [go_sem, Nat.reduceEqDiff, reduceIte, Nat.reduceAdd, setPs]
    refine ⟨trivial, j2, wpc_sound ?_⟩
    have hn1 : 3 < H1.length := lt_of_get j2
    have hne : ∀ j, j ≠ 3 → (H1.set 3 (L .busy))[j]? = H1[j]? := fun j hj => List.getElem?_set_ne (Ne.symm hj)
    have hbz : (H1.set 3 (L .busy))[3]? = some (L .busy) := List.getElem?_set_self hn1
    have hlen : (H1.set 3 (L .busy)).length = H1.length := by simp
    have hz : (H1.set 3 (L .busy))[0]? = H1[0]? := hne 0 (by omega)
    rcases j3 with ⟨rfl, j3⟩ | ⟨rid, v, j3, j4, j5⟩
    · have g1 : (H1.set 3 (L .busy))[2]? = some (.box [.list true []]) := by rw [hne _ (by omega)]; exact j3
      generalize (H1.set 3 (L .busy)) = G at hne hbz hlen g1 hz
      simp only [load_box g1, go_sem, Nat.reduceEqDiff, reduceIte, Nat.reduceAdd]
      have hgl1 : 3 < G.length := lt_of_get hbz
      have e1 : (G ++ [Entry.arr 1 0 [AV.int .i64 l[0]]] ++ [Entry.arr 1 0 [AV.int .i64 l[0]]])[2]? = some (.box [.list true []]) := by
        rw [List.append_assoc, List.getElem?_append_left (by omega)]; exact g1
      have e2 : (G ++ [Entry.arr 1 0 [AV.int .i64 l[0]]] ++ [Entry.arr 1 0 [AV.int .i64 l[0]]])[(G ++ [Entry.arr 1 0 [AV.int .i64 l[0]]]).length]? = some (.arr 1 0 [AV.int .i64 l[0]]) := by simp
      rw [app_nil_int]
      simp only [resW_some, W_store, evalOp, Opd.ev, updo_envL, setL_cons, setL_nil, envL_cons, Nat.reduceEqDiff, reduceIte, store_box e1 rfl (own_one e2), Option.map_some, updo_none, W_nil, blockQ_normal]
      generalize hm : (G ++ [Entry.arr 1 0 [AV.int .i64 l[0]]] ++ [Entry.arr 1 0 [AV.int .i64 l[0]]]) = M at e1 e2 ⊢
      generalize hrid : (G ++ [Entry.arr 1 0 [AV.int .i64 l[0]]]).length = rid at e2 ⊢
      have hlow : ∀ j, j < G.length → M[j]? = G[j]? := fun j hj => by rw [← hm, List.append_assoc, List.getElem?_append_left hj]
      have hr2 : 4 ≤ rid := by rw [← hrid]; simp; omega
      have hML : rid < M.length := lt_of_get e2
      refine ⟨by rw [List.getElem?_set_ne (by omega), hlow _ hgl1]; exact hbz, .inl ⟨trivial, ?_, ?_, .inr ⟨rid, 0, hr2, ?_, ?_⟩⟩⟩
      · rw [List.getElem?_set_ne (by omega), List.getElem?_set_ne (by omega), hlow _ (by omega), hz]
      · rw [List.getElem?_set_self (by simp; omega)]
      · rw [List.getElem?_set_ne (by omega), List.getElem?_set_self (by omega)]
      · rw [List.getElem?_set_ne (by omega), List.getElem?_set_ne (by omega), e2]
        simp [List.take_succ_eq_append_getElem hk]
    · have hrn : rid ≠ 3 := by omega
      have g1 : (H1.set 3 (L .busy))[2]? = some (.box [.own rid v 0 k]) := by rw [hne _ (by omega)]; exact j4
      have g2 : (H1.set 3 (L .busy))[rid]? = some (.arr 1 v ((l.take k).map (AV.int .i64))) := by rw [hne _ hrn]; exact j5
      generalize (H1.set 3 (L .busy)) = G at hne hbz hlen g1 g2 hz
      have hgl1 : 3 < G.length := lt_of_get hbz
      have hgr : rid < G.length := lt_of_get g2
      have g3 : (G ++ [Entry.arr 1 0 [AV.int .i64 l[k]]])[rid]? = some (.arr 1 v ((l.take k).map (AV.int .i64))) := by rw [List.getElem?_append_left hgr]; exact g2
      have happ := app_own (n := k) (ys := [AV.int .i64 l[k]]) (bytes := 8) g3 (by simp; omega) (by unfold maxRow; simp; omega) (by decide) (by decide) (by simp) (by simp [szOk, AV.cells, AV.oneIn])
      have htk : ((l.take k).map (AV.int .i64)).take k ++ [AV.int .i64 l[k]] = (l.take (k + 1)).map (AV.int .i64) := by
        rw [List.take_of_length_le (by simp; omega), List.take_succ_eq_append_getElem hk, List.map_append, List.map_take]; rfl
      rw [htk] at happ
      have hsn : seen (G ++ [Entry.arr 1 0 [AV.int .i64 l[k]]]) (.own G.length 0 0 1) = some [AV.int .i64 l[k]] := by simp [seen]
      simp only [load_box g1, hsn, go_sem, Nat.reduceEqDiff, reduceIte, Nat.reduceAdd, happ]
      generalize hm : ((G ++ [Entry.arr 1 0 [AV.int .i64 l[k]]]).set rid (.arr 1 (v + 1) ((l.take (k + 1)).map (AV.int .i64)))) = M
      have hlow : ∀ j, j < G.length → j ≠ rid → M[j]? = G[j]? := fun j hj hjr => by rw [← hm, List.getElem?_set_ne (Ne.symm hjr), List.getElem?_append_left hj]
      have e2 : M[rid]? = some (.arr 1 (v + 1) ((l.take (k + 1)).map (AV.int .i64))) := by rw [← hm, List.getElem?_set_self (by simp; omega)]
      have e1 : M[2]? = some (.box [.own rid v 0 k]) := by rw [hlow _ (by omega) (by omega)]; exact g1
      have hML : rid < M.length := lt_of_get e2
      have hML1 : G.length < M.length := by rw [← hm]; simp
      simp only [resW_some, W_store, evalOp, Opd.ev, updo_envL, setL_cons, setL_nil, envL_cons, Nat.reduceEqDiff, reduceIte, store_box e1 rfl (own_one e2), Option.map_some, updo_none, W_nil, blockQ_normal]
      refine ⟨by rw [List.getElem?_set_ne (by omega), hlow _ hgl1 (by omega)]; exact hbz, .inl ⟨trivial, ?_, ?_, .inr ⟨rid, v + 1, j3, ?_, ?_⟩⟩⟩
      · rw [List.getElem?_set_ne (by omega), List.getElem?_set_ne (by omega), hlow _ (by omega) (by omega), hz]
      · rw [List.getElem?_set_self (by simp; omega)]
      · rw [List.getElem?_set_ne (by omega), List.getElem?_set_self (by omega)]
      · rw [List.getElem?_set_ne (by omega), List.getElem?_set_ne (by omega), e2]
  · rintro r H' (⟨j2, j3⟩ | hf)
    · left
      refine ⟨j2, ?_⟩
      have hne : ∀ j, j ≠ 3 → (H'.set 3 .dead)[j]? = H'[j]? := fun j hj => List.getElem?_set_ne (Ne.symm hj)
      rw [List.length_map] at j3
      rcases j3 with ⟨h0, j3⟩ | ⟨rid, v, j3, j4, j5⟩
      · have hl0 : l = [] := List.eq_nil_of_length_eq_zero h0
        subst hl0
        have g1 : (H'.set 3 .dead)[2]? = some (.box [.list true []]) := by rw [hne _ (by omega)]; exact j3
        simp only [go_sem, Nat.reduceEqDiff, reduceIte, Nat.reduceAdd, load_box g1]
        exact .inl ⟨trivial, trivial⟩
      · have g1 : (H'.set 3 .dead)[2]? = some (.box [.own rid v 0 l.length]) := by rw [hne _ (by omega)]; exact j4
        have g2 : (H'.set 3 .dead)[rid]? = some (.arr 1 v ((l.take l.length).map (AV.int .i64))) := by rw [hne _ (by omega)]; exact j5
        rw [List.take_length] at g2
        simp only [go_sem, Nat.reduceEqDiff, reduceIte, Nat.reduceAdd, load_box g1]
        exact .inr ⟨rid, v, rfl, g2⟩
    · exact hf.elim

theorem collectO_spec (l : List Int) (hl : l.length ≤ 4294967295) (c : Nat) (f : IFn) (hc : trFn seat c = some f) (cap : List AV) (st e0 : Entry) (hg : GivesO seat c cap 0 st (l.map fun y => [.int .i64 y])) :
    ACall seat 40 [.func (.f c) [] cap] [st, e0] (fun r H' => (l = [] ∧ r = .list true []) ∨ ∃ rid v, r = .own rid v 0 l.length ∧ H'[rid]? = some (.arr 1 v (l.map (AV.int .i64)))) := by
  refine ACall.of_wp told40 (by simp [il40]) (wpc_sound ?_)
  rw [start_env]
  simp only [il40, List.zipIdx_cons, List.zipIdx_nil, Nat.zero_add, go_sem, Nat.reduceEqDiff, reduceIte, Nat.reduceAdd]
  refine Callee.plain (Callable.of told47) (appendSeqO_spec l hl c f hc cap st e0 hg) ?_
  rintro r H' hr
  simp only [go_sem, Nat.reduceEqDiff, reduceIte, Nat.reduceAdd]
  exact hr

end Go.Proofs.YtihhinbjhiankaaGreatDoor.Al

set_option linter.unusedSimpArgs false
set_option linter.unusedVariables false
namespace Go.Proofs.YtihhinbjhiankaaGreatDoor.Al
open Go
attribute [local go_sem] W_mv W_pick W_alloc W_box W_build W_bslice W_load W_store W_bin W_isnil W_un W_convI W_convS W_mkfunc W_mkslice W_slice W_faddr W_field W_iaddr W_extract W_len W_min W_append W_appendZ W_copy W_invoke thenQ_normal thenQ_exit thenQ_goto thenQ_ret blockQ_normal blockQ_ret blockQ_goto blockQ_exit wpc_skip wpc_region wpc_draw wpc_seq wpc_cond wpc_block wpc_exit wpc_goto wpc_label wpc_ret wpc_loop wpc_range wpc_scope condW_true condW_false condW_dec condW_any W_nil W_call resW_some evalOp Opd.ev updo_envL updo_none setL_cons setL_nil envL_cons Option.map_some Option.bind_some evBin evInt List.map_cons List.map_nil Option.pure_def Option.bind_eq_bind W_grd' grdW_tt grdW_ff grdW_tf grdW_ft grdW_tup grdW_dt grdW_df lgrdW_tup L_mv L_load L_bin L_un L_faddr L_iaddr L_nil L_call lresW_some upd_envL evUn beq_dec bne_dec leaves_ret1 leaves_ret0 leaves_end0 rowLen_ints load_iptr0 not_dec heap_get0 heap_get1 heap_set0 heap_set1 heap_len1 heap_app bslice1_int seen_ints seen_one0 Nat.sub_zero Bool.not_true Bool.not_false List.length_nil List.length_cons List.nil_append List.cons_append Nat.zero_add load_iptrA canon_ptrI canon_bool canon_tup canon_agg canon_ints' canon_ints0 rowLen_octs seen_octs canon_octs' seen_intss seen_octss rowLen_nodes seen_nodes canon_nodes' rowLen_nodes0 rowLen_nodes1 seen_list cells_int oneIn_int cells_bool oneIn_bool cells_str oneIn_str cells_list oneIn_list cells_func oneIn_func cells_nilfunc oneIn_nilfunc cells_iptr oneIn_iptr cells_iface oneIn_iface cells_nilIface oneIn_nilIface cells_own cells_ptr cells_anybool oneIn_anybool cells_agg oneIn_own0 oneIn_own1 oneIn_own3 oneIn_own4 oneIn_own5 cells_ints oneIn_ints cells_octs oneIn_octs cells_intss oneIn_intss cells_octss oneIn_octss cells_nodes oneIn_nodes ldB0 ldA0 adB0 stB0 ldB1 ldA1 adB1 stB1 ldB2 ldA2 adB2 stB2 ldB3 ldA3 adB3 stB3 ldB4 ldA4 adB4 stB4 ldB5 ldA5 adB5 stB5 List.getElem?_cons_zero List.getElem?_cons_succ beq_self_eq_true splice List.take_zero List.take_succ_cons List.drop_zero List.drop_succ_cons List.append_nil List.set_cons_zero List.set_cons_succ List.all_cons List.all_nil Bool.and_self and_self and_true true_and Nat.lt_irrefl Nat.zero_lt_one Nat.le_refl fillA evNil notA Bool.false_eq_true evMin_int evMax_int Option.map_none freezeP_all_nil freezeP_all_cons frzE_box frzE_arr frzE_dead foldA List.foldlM_cons List.foldlM_nil callW_f lcallW_f ansW_fn ansW_own lansW_fn lansW_own ansW_none lansW_none tab_cons tab_nil dI_int dB_bool dO_octs dO_ints dO_nil dOs_nil dN_nodeA dLf_agg dIn_agg dN_agg dNs_nodes dNs_nil isI_int isO_octs isO_nil isS_ints isS_nil isNs_nodes isNs_nil isLf_agg isIn_agg isN_agg leaf_eta inner_eta node_eta leaf_zero inner_zero node_zero dP_agg isP_agg patch_eta decide_eq_true_eq decide_eq_false_iff_not eq_self forall_const true_implies false_implies Bool.not_eq_true' Bool.not_eq_false' Bool.true_eq_false implies_true ne_eq ldI ldIA adI AV.tup.injEq AV.agg.injEq List.cons.injEq AV.int.injEq AV.bool.injEq nodes_inj octs_inj ints_inj nil_nodes nil_octs nil_ints canon_nilL decide_eq_decide two_ne lendA_fn lendA_own lendA_none llendA_fn llendA_none plain_bool plain_int isNs_own isS_own false_and and_false Q_nil Q_l Q_g Q_h qgrdW_b qgrdW_tup lightD_some heavyD_some readD_some fnD_some fnD_own fnD_none callL_f ownH_some callH_f litD_some litE_some Q_call Q_bslice H_call pendOk_nil pendOk_cons pastOk_nil pastOk_cons Q_mv Q_pick Q_bin Q_un Q_convI Q_mkfunc Q_extract Q_min Q_max Q_lenS Q_lenA Q_field Q_idxA Q_mkiface Q_tassert Q_alloc Q_box Q_store Q_mkslice Q_append Q_appendZ Q_copy Q_clear Q_build Q_load Q_nilck Q_isnil Q_convS Q_slice Q_faddr Q_iaddr Q_iaddrA Q_len H_alloc H_box H_bslice H_store H_mkslice H_append H_appendZ H_copy H_clear free_mv free_pick free_bin free_un free_convI free_mkfunc free_extract free_min free_max free_lenS free_lenA free_field free_idxA free_mkiface free_tassert free_build free_load free_nilck free_isnil free_convS free_slice free_faddr free_iaddr free_iaddrA free_len callW_y List.length_map List.length_set leaves_r evR_some evRess1 evRess2 evRess3 evRes_t evRes_c nz_kind nz_enc nz_cred nz_source nz_parent nz_ienc nz_hash nz_un true_or or_true bsl_node idbs_node idbs_int appN appI ixo_nodes canon_row canon_rowI canon_rowO not_false_eq_true not_true_eq_false ldE_a ldE_c adE_b stE_b onE_a onP_b bsl_zero idbs_zero appN_zero
attribute [local go_sem low] condW_b grdW_b lgrdW_b ldP adP stP onO onPt
attribute [local simp] envL_cons envL_nil idb_int idb_bool idb_ints idb_nil idb_own idb_ptr idb_octs idb_nodes idb_leafA idb_innerA idb_nodeA idb_agg idb_tup idb_iptr idb_fn entB_dead entB_box
theorem slice_own {H : List Entry} {rid v : Nat} {l : List Int} (hr : H[rid]? = some (.arr 1 v (l.map (AV.int .i64)))) (m : Nat) (hm : m ≤ l.length) : evSlice H 1 (.own rid v 0 l.length) (some (.int .i64 m)) none none = some (.own rid v m l.length) := by
  simp [evSlice, hr, evBound, hm]
theorem canon_own {H : List Entry} {rid v : Nat} {l : List Int} (hr : H[rid]? = some (.arr 1 v (l.map (AV.int .i64)))) (m : Nat) : canon H 4 (.own rid v m l.length) = ints (l.drop m) := by
  have h2 : (freezeP all H)[rid]? = some (.frz 1 v (l.map (AV.int .i64))) := by rw [freezeP_get, hr]; rfl
  simp only [canon, derefN, h2, List.length_map, Nat.le_refl, and_self, if_true, ints]
  rw [List.take_of_length_le (by simp), ← List.map_drop, List.map_map]
  rfl
theorem z00 : ((0 : Nat) : Int) = 0 := rfl
theorem lt01 : ((0 : Int) < 1) = True := eq_true (by decide)
theorem direct_spec (x w : Int) : Fun seat 263 [.int .i64 x, .int .i64 w] (ints (directI x w)) := by
  have hl := ups_len x w
  refine Fun.of0W told263 (by simp [il263]) (by simp ) (by simp ) 4 ?_
  simp only [il263, List.zipIdx_cons, List.zipIdx_nil, Nat.zero_add]
  refine wpc_soundR [] ?_
  simp -implicitDefEqProofs only [leafA, innerA, nodeA, patchA, Leaf.cells, Inner.cells, Node.cells, decide_true, decide_false, go_sem, Nat.reduceEqDiff, reduceIte, Nat.reduceAdd, Nat.reduceLeDiff, Nat.reduceLT, Nat.reduceSub]
  refine Callee.plain (Callable.of told266) (up_spec x w []) ?_
  rintro _ _ ⟨rfl, rfl⟩
  simp -implicitDefEqProofs only [leafA, innerA, nodeA, patchA, Leaf.cells, Inner.cells, Node.cells, decide_true, decide_false, List.nil_append, List.length_nil, go_sem, Nat.reduceEqDiff, reduceIte, Nat.reduceAdd, Nat.reduceLeDiff, Nat.reduceLT, Nat.reduceSub]
  refine Callee.plain (Callable.of told40) (collectO_spec (ups x w) (by omega) 277 il277 told277 _ _ _ (up1_gives x w 0)) ?_
  rintro r H' (⟨he, rfl⟩ | ⟨rid, v, rfl, hr⟩)
  · have l0 : rowLen H' (.list true []) = some 0 := rfl
    have d0 : directI x w = [] := by unfold directI; rw [he]; rfl
    have s0 : evSlice H' 1 (.list true []) (some (.int .i64 0)) none none = some (.list true []) := rfl
    rw [d0]
    simp -implicitDefEqProofs only [leafA, innerA, nodeA, patchA, Leaf.cells, Inner.cells, Node.cells, decide_true, decide_false, l0, Option.bind_some, evMin_int, z00, lt01, s0, go_sem, Nat.reduceEqDiff, reduceIte, Nat.reduceAdd, Nat.reduceLeDiff, Nat.reduceLT, Nat.reduceSub]
  · have l0 : rowLen H' (.own rid v 0 (ups x w).length) = some (ups x w).length := by simp [rowLen, own_one hr]
    by_cases hn : (ups x w).length = 0
    · have hd : directI x w = (ups x w).drop 0 := by unfold directI; rw [List.eq_nil_of_length_eq_zero hn]; rfl
      have s0 : evSlice H' 1 (.own rid v 0 (ups x w).length) (some (.int .i64 0)) none none = some (.own rid v 0 (ups x w).length) := slice_own hr 0 (Nat.zero_le _)
      have n0 : ((ups x w).length : Int) = 0 := by omega
      rw [hd]
      simp -implicitDefEqProofs only [leafA, innerA, nodeA, patchA, Leaf.cells, Inner.cells, Node.cells, decide_true, decide_false, l0, Option.bind_some, evMin_int, n0, lt01, s0, go_sem, Nat.reduceEqDiff, reduceIte, Nat.reduceAdd, Nat.reduceLeDiff, Nat.reduceLT, Nat.reduceSub]
      exact canon_own hr 0
    · have hd : directI x w = (ups x w).drop 1 := by unfold directI; rw [List.drop_one]
      have s0 : evSlice H' 1 (.own rid v 0 (ups x w).length) (some (.int .i64 1)) none none = some (.own rid v 1 (ups x w).length) := slice_own hr 1 (by omega)
      have m0 : ¬ ((ups x w).length : Int) < 1 := by omega
      rw [hd]
      simp -implicitDefEqProofs only [leafA, innerA, nodeA, patchA, Leaf.cells, Inner.cells, Node.cells, decide_true, decide_false, l0, Option.bind_some, evMin_int, m0, s0, go_sem, Nat.reduceEqDiff, reduceIte, Nat.reduceAdd, Nat.reduceLeDiff, Nat.reduceLT, Nat.reduceSub]
      exact canon_own hr 1
noncomputable def r263 : Reg seat := .of told263 (ask2 (fun a0' a1' => isI a0' ∧ isI a1') fun a0' a1' => .fn (ints (directI (dI a0') (dI a1')))) (ask2_ok fun a0' a1' h => SaidOk.fn (Fun.weak (.cons (isI.weak h.1) (.cons (isI.weak h.2) .nil)) (direct_spec _ _)))
theorem r263_c : r263.c = 263 := rfl
open Classical in
theorem r263_ask (a0' a1' : AV) : r263.ask [a0', a1'] = if isI a0' ∧ isI a1' then some (Said.fn (ints (directI (dI a0') (dI a1')))) else none := by unfold r263 Reg.of ask2; exact ite_cl

theorem ups_len' (x w : Int) : ∀ y ∈ (ups x w).map fun y => [AV.int .i64 y], y.length = [11].length := by
  intro y hy
  obtain ⟨z, _, rfl⟩ := List.mem_map.1 hy
  rfl
set_option maxHeartbeats 1000000 in
theorem under_spec (x y w : Int) : Fun seat 255 [.int .i64 x, .int .i64 y, .int .i64 w] (.bool (decide (y ∈ ups x w))) := by
  refine Fun.of0W told255 (by simp [il255]) (by simp ) (by simp ) 4 ?_
  simp only [il255, List.zipIdx_cons, List.zipIdx_nil, Nat.zero_add]
  refine wpc_soundR [] ?_
  simp -implicitDefEqProofs only [leafA, innerA, nodeA, patchA, Leaf.cells, Inner.cells, Node.cells, decide_true, decide_false, go_sem, Nat.reduceEqDiff, reduceIte, Nat.reduceAdd, Nat.reduceLeDiff, Nat.reduceLT, Nat.reduceSub]
  refine Callee.plain (Callable.of told266) (up_spec x w [.box [.int .i64 y], .box [.bool false]]) ?_
  rintro _ _ ⟨rfl, rfl⟩
  simp -implicitDefEqProofs only [leafA, innerA, nodeA, patchA, Leaf.cells, Inner.cells, Node.cells, decide_true, decide_false, List.cons_append, List.nil_append, List.length_cons, List.length_nil, go_sem, Nat.reduceEqDiff, reduceIte, Nat.reduceAdd, Nat.reduceLeDiff, Nat.reduceLT, Nat.reduceSub]
  refine WP.rangeO 2 (.box [.int .i64 x]) ((ups x w).map fun y => [.int .i64 y]) (c := 277) (cap := [.ptr 2 0, .iptr [.int .i64 w] 0]) (by simp only [go_sem, Nat.reduceEqDiff, reduceIte, Nat.reduceAdd, Nat.reduceLeDiff, Nat.reduceLT, Nat.reduceSub]) (Callable.of told277) (up1_gives x w 2) (ups_len' x w)
    (fun _ e => [.box [.int .i64 y], .box [.bool false], e, .dead]) (fun k => ∀ j (h : j < (ups x w).length), j < k → ¬ (ups x w)[j] = y) (by simp) (fun _ _ => rfl) (fun _ _ => rfl) (fun _ _ _ => rfl) (fun _ _ h => absurd h (Nat.not_lt_zero _)) rfl ?_ ?_
  · intro k hk e hP l T b hb
    have hk' : k < (ups x w).length := by simpa using hk
    rw [List.getElem_map]
    simp only [setPs]
    refine wpc_soundR [] ?_
    simp -implicitDefEqProofs only [leafA, innerA, nodeA, patchA, Leaf.cells, Inner.cells, Node.cells, decide_true, decide_false, List.cons_append, List.nil_append, go_sem, Nat.reduceEqDiff, reduceIte, Nat.reduceAdd, Nat.reduceLeDiff, Nat.reduceLT, Nat.reduceSub]
    refine ⟨[], by simp, fun T' hT' => wpc_soundR [] ?_⟩
    by_cases hy : (ups x w)[k] = y
    · simp -implicitDefEqProofs only [leafA, innerA, nodeA, patchA, Leaf.cells, Inner.cells, Node.cells, decide_true, decide_false, eq_true hy, List.append_nil, go_sem, Nat.reduceEqDiff, reduceIte, Nat.reduceAdd, Nat.reduceLeDiff, Nat.reduceLT, Nat.reduceSub]
      refine ⟨[.box [.int .i64 y], .box [.bool true], e, .dead], T', rfl, rfl, fun _ _ => rfl, .ret, rfl, fun T3 => ?_⟩
      have hm : y ∈ ups x w := by rw [← hy]; exact List.getElem_mem hk'
      simp -implicitDefEqProofs only [leafA, innerA, nodeA, patchA, Leaf.cells, Inner.cells, Node.cells, decide_true, decide_false, Jump.leave, List.cons_append, List.nil_append, hm, go_sem, Nat.reduceEqDiff, reduceIte, Nat.reduceAdd, Nat.reduceLeDiff, Nat.reduceLT, Nat.reduceSub]
    · simp -implicitDefEqProofs only [leafA, innerA, nodeA, patchA, Leaf.cells, Inner.cells, Node.cells, decide_true, decide_false, hy, List.append_nil, go_sem, Nat.reduceEqDiff, reduceIte, Nat.reduceAdd, Nat.reduceLeDiff, Nat.reduceLT, Nat.reduceSub]
      refine ⟨[.box [.int .i64 y], .box [.bool false], e, .dead], T', rfl, rfl, fun _ _ => rfl, fun j h hj => ?_, rfl⟩
      rcases Nat.lt_or_ge j k with h3 | h3
      · exact hP j h h3
      · obtain rfl : j = k := by omega
        exact hy
  · intro hP e T
    have hn : ¬ y ∈ ups x w := fun h => by
      obtain ⟨j, hj, rfl⟩ := List.getElem_of_mem h
      exact hP j hj (by simpa using hj) rfl
    simp -implicitDefEqProofs only [leafA, innerA, nodeA, patchA, Leaf.cells, Inner.cells, Node.cells, decide_true, decide_false, List.cons_append, List.nil_append, hn, go_sem, Nat.reduceEqDiff, reduceIte, Nat.reduceAdd, Nat.reduceLeDiff, Nat.reduceLT, Nat.reduceSub]
noncomputable def r255 : Reg seat := .of told255 (ask3 (fun a0' a1' a2' => isI a0' ∧ isI a1' ∧ isI a2') fun a0' a1' a2' => .fn (.bool (decide ((dI a1') ∈ ups (dI a0') (dI a2'))))) (ask3_ok fun a0' a1' a2' h => SaidOk.fn (Fun.weak (.cons (isI.weak h.1) (.cons (isI.weak h.2.1) (.cons (isI.weak h.2.2) .nil))) (under_spec _ _ _)))
theorem r255_c : r255.c = 255 := rfl
open Classical in
theorem r255_ask (a0' a1' a2' : AV) : r255.ask [a0', a1', a2'] = if isI a0' ∧ isI a1' ∧ isI a2' then some (Said.fn (.bool (decide ((dI a1') ∈ ups (dI a0') (dI a2'))))) else none := by unfold r255 Reg.of ask3; exact ite_cl
end Go.Proofs.YtihhinbjhiankaaGreatDoor.Al

set_option linter.unusedSimpArgs false
set_option linter.unusedVariables false
namespace Go.Proofs.YtihhinbjhiankaaGreatDoor.Al
open Go
variable {S : Seat} {m : List ME} {I X : Nat → Prop} {w : World} {H : List Entry}

theorem append_room_off {P : Program} {t u ty e : Nat} {inf : TypeInfo} {z : Value} (ht : ElOk P t e inf z) {d : TypeDesc} (hu : P.underlying u = some d) (hd : Rowish d)
    {g o sLen sCap n : Nat} {x : Value} {cur : Array Value} {news : List Value} {T : Nat} (hn : (Builtin.lenOf x).run P w = .ok n w) (hf : (Builtin.firstCells inf.size n x).run P w = .ok news.toArray w)
    (hg : w.heap[g]? = some (.cells cur T (0, 0))) (h1 : ∀ v ∈ news, v.oneCell' = true) (hroom : sLen + n ≤ sCap) (hfit : o + sLen * inf.size + news.length ≤ cur.size) :
    (Builtin.append_ #[t, u] ty #[.slice (some ⟨g, o, none⟩) sLen sCap, x]).run P w =
      .ok (.slice (some ⟨g, o, none⟩) (sLen + n) sCap) (w.setRow g (splice cur.toList (o + sLen * inf.size) news).toArray) := by
  have hst : (storeCells ⟨g, o + sLen * inf.size, none⟩ news 0).run P w = .ok () (w.setRow g (splice cur.toList (o + sLen * inf.size) news).toArray) :=
    run_storeCells_at P g (o + sLen * inf.size) T news 0 cur w hg (by simpa using hfit) h1
  rcases hd with ⟨e', rfl⟩ | rfl <;>
    (simp [Builtin.append_, run_underlying ht.und, run_underlying hu, sizeOf, typeInfo, ht.ti, hn, hroom, hf, Addr.add_lit, hst])

/-- What such an append leaves: the numbers, looked at alone. -/
def Left1 (S : Seat) (m : List ME) (I X : Nat → Prop) (w : World) (H : List Entry) (id : Nat) (zs : List Int) (vv : Value) (w' : World) : Prop :=
  ∃ (m' : List ME) (I' : Nat → Prop), (∀ b, I b → I' b) ∧ Sim S m' I' X w' (H.set id .dead) ∧ MLe m m' ∧ Ext I X w w' ∧ Rel S m' I' w' (ints zs) vv

theorem left1_end {w' : World} {m' : List ME} {id ver a : Nat} {zs : List Int} {vv : Value} (hid : id < H.length) (hs : Sim S m' I X w' (H.set id (.arr 1 ver (zs.map (AV.int .i64))))) (hm : MLe m m') (hx : Ext I X w w')
    (hv : Rel S m' I w' (.own id ver a zs.length) vv) : Left1 S m I X w H id (zs.drop a) vv w' := by
  obtain ⟨I2, hs2, hI2⟩ := freeze1_sound hs id
  have hg : (H.set id (.arr 1 ver (zs.map (AV.int .i64))))[id]? = some (.arr 1 ver (zs.map (AV.int .i64))) := List.getElem?_set_self hid
  have hf : freeze1 (H.set id (.arr 1 ver (zs.map (AV.int .i64)))) id = H.set id (.frz 1 ver (zs.map (AV.int .i64))) := by
    simp only [freeze1, hg, List.set_set]
  rw [hf] at hs2
  have hg2 : (H.set id (.frz 1 ver (zs.map (AV.int .i64))))[id]? = some (.frz 1 ver (zs.map (AV.int .i64))) := List.getElem?_set_self hid
  have h1 := derefN_sound hs2 2 (hv.mono (.refl m') hI2 fun _ _ => rfl)
  have e : derefN (H.set id (.frz 1 ver (zs.map (AV.int .i64)))) 2 (.own id ver a zs.length) = ints (zs.drop a) := by
    simp only [derefN, hg2, List.length_map, Nat.le_refl, and_self, if_true, ints]
    rw [List.take_of_length_le (by simp), ← List.map_drop, List.map_map]
    rfl
  rw [e] at h1
  have hs3 := hs2.retell (e1 := .dead) hg2 rfl trivial
  rw [List.set_set] at hs3
  exact ⟨m', I2, hI2, hs3, hm, hx, h1⟩

theorem append_lo (hs : Sim S m I X w H) {id ver lo hi : Nat} {xv : Value} (hx : Rel S m I w (.own id ver lo hi) xv) {t e : Nat} {inf : TypeInfo} {z : Value} (ht : ElOk S.P t e inf z)
    {run : Value → Result Value} {ks : List Int} {news : List Value} (hA : Appends S.P w e inf z run ks.length news)
    (hA2 : ∀ (g o l c : Nat) (cur : Array Value) (T : Nat), w.heap[g]? = some (.cells cur T (0, 0)) → l + ks.length ≤ c → o + l * inf.size + news.length ≤ cur.size →
      run (.slice (some ⟨g, o, none⟩) l c) = .ok (.slice (some ⟨g, o, none⟩) (l + ks.length) c) (w.setRow g (splice cur.toList (o + l * inf.size) news).toArray))
    (hcy : Cells S m I w inf.size (ks.map (AV.int .i64)) news) (h1z : inf.size = 1) (hby : inf.bytes ≤ 4096) {l : List Int} (hH : H[id]? = some (.arr 1 ver (l.map (AV.int .i64)))) (hlo : lo ≤ hi) (hhi : hi ≤ l.length)
    (hfit : hi + ks.length ≤ maxRow) (hk : ks ≠ []) : ∃ vv w', run xv = .ok vv w' ∧ Left1 S m I X w H id ((l.take hi).drop lo ++ ks) vv w' := by
  have hpos : 0 < ks.length := List.length_pos_iff.2 hk
  have hidl := lt_of_get hH
  obtain ⟨e1, h1, hrow⟩ := hs.hok id _ hH
  have hrow2 := hrow
  obtain ⟨r1, r0, r2, r3, r4, r5⟩ := hrow2
  clear r5
  rw [h1z] at hcy
  rw [List.length_map] at r2
  have hcl : news.length = ks.length := by rw [hcy.1]; simp
  cases hx with
  | own _ _ _ _ e2 _ he2 hver hrel =>
    rw [h1] at he2; cases he2
    obtain ⟨_, hhc, hcase⟩ := hrel (by omega)
    clear hrel
    have hlen2 : ((l.take hi).drop lo ++ ks).length = hi - lo + ks.length := by simp; omega
    have hge := grownCap_ge w (hi - lo + ks.length) (e1.cap - lo) e
    have hcm0 : hi - lo + ks.length ≤ 9223372036854775807 := by unfold maxRow at hfit; omega
    have hcm : grownCap w (hi - lo + ks.length) (e1.cap - lo) e ≤ 9223372036854775807 := by
      have := grownCap_le_maxLen w (hi - lo + ks.length) (e1.cap - lo) e (by simp only [maxLen]; omega)
      simpa [maxLen] using this
    have hbb : (hi - lo + ks.length) * inf.bytes ≤ 140737488355328 := by
      have := Nat.mul_le_mul (show hi - lo + ks.length ≤ maxRow by omega) hby
      unfold maxRow at this; omega
    -- elsewhere
    have grown : ∀ (vs : List Value), Cells S m I w 1 (((l.take hi).drop lo).map (AV.int .i64)) vs → ∀ (w' : World), w' = w.drew.alloc (.cells (vs ++ news ++ (Builtin.zeroCells z.cells (grownCap w (hi - lo + ks.length) (e1.cap - lo) e - (hi - lo + ks.length))).toList).toArray e) →
        Left1 S m I X w H id ((l.take hi).drop lo ++ ks) (.slice (some ⟨w.heap.size, 0, none⟩) (hi - lo + ks.length) (grownCap w (hi - lo + ks.length) (e1.cap - lo) e)) w' := by
      intro vs hvs w' hw'
      generalize hgc : grownCap w (hi - lo + ks.length) (e1.cap - lo) e = gc at *
      have hold : ∀ k : Nat, k < w.heap.size → w'.heap[k]? = w.heap[k]? := fun k hk => by rw [hw']; exact heap_alloc_old w.drew _ hk
      have hme : (m.set id (⟨ver + 1, w.heap.size, 1, gc, false⟩ : ME))[id]? = some ⟨ver + 1, w.heap.size, 1, gc, false⟩ := List.getElem?_set_self (List.getElem?_eq_some_iff.1 h1).1
      have hgg : (⟨ver + 1, w.heap.size, 1, gc, false⟩ : ME) = e1 ∨ e1.ver < (⟨ver + 1, w.heap.size, 1, gc, false⟩ : ME).ver := .inr (by simp; omega)
      have hcells := (hvs.append hcy).mono (MLe.set h1 hgg) (fun _ hb => hb) (fun b hb => hold b (hs.lt b (.inl hb)))
      rw [← List.map_append] at hcells
      have hvl : vs.length = hi - lo := by rw [hvs.1]; simp; omega
      have hsim := hs.write (e := .arr 1 (ver + 1) (((l.take hi).drop lo ++ ks).map (AV.int .i64))) hH rfl h1 hgg (fun k hk _ => hold k hk) (by rw [hw']; simp) (fun _ => .inr (Nat.le_refl _))
        ⟨_, hme, rfl, rfl, by rw [List.length_map, hlen2]; exact hge, hcm, hcells.2.1, by
          refine RowAt.of_cells hcells rfl (by rw [hw']; exact heap_alloc_new w.drew _) ?_
          simp only [List.length_append, hvl, hcl, Array.length_toList, size_zeroCells, ht.size, h1z]
          omega⟩
      have := left1_end (a := 0) (w := w) hidl hsim (MLe.set h1 hgg) ⟨by rw [hw']; rfl, by rw [hw']; rfl, by rw [hw']; rfl, by rw [hw']; simp, fun b hb => hold b (hs.lt b hb)⟩
        (.own _ _ _ _ _ (.slice (some ⟨w.heap.size, 0, none⟩) (hi - lo + ks.length) gc) hme (Nat.le_refl _) (fun _ => ⟨Nat.zero_le _, by rw [hlen2]; exact hge, .inr ⟨rfl, 0, by rw [hlen2]; simp, fun _ => by simp⟩⟩))
      simpa using this
    rcases hcase with ⟨q1, q2, a0, rfl⟩ | ⟨q1, off, rfl, q2⟩
    · have hhi0 : hi = 0 := by omega
      have hlo0 : lo = 0 := by omega
      subst hhi0; subst hlo0
      have hrun := hA.grow a0 0 0 [] (by cases a0 with | none => exact run_firstCells_none _ _ _ _ _ | some a => exact run_firstCells_some w.drew _ 0 a 0 0 [] (by simp) (by simp)) hpos (by omega) (by simpa using hbb) (by simpa using hcm0)
      simp only [Nat.sub_self, Nat.sub_zero, q2] at grown
      exact ⟨_, _, hrun, grown [] (by simpa using Cells.nil 1) _ rfl⟩
    · obtain ⟨arr, T, ha, hasz, hcx⟩ := hrow.to_cells q1
      rw [r0] at hcx hasz
      rw [List.length_map, Nat.mul_one] at hcx
      rw [Nat.mul_one] at hasz
      have htk : Cells S m I w 1 ((l.take hi).map (AV.int .i64)) (arr.toList.take hi) := by
        have := hcx.take (n := hi) (by simpa using hhi)
        rwa [← List.map_take, List.take_take, Nat.mul_one, Nat.min_eq_left hhi] at this
      by_cases hroom : hi + ks.length ≤ e1.cap
      · have hoff := q2 (by omega)
        rw [r0, Nat.mul_one] at hoff
        subst hoff
        have hat : off + (hi - off) * inf.size = hi := by rw [h1z]; omega
        have hrun := hA2 e1.blk off (hi - off) (e1.cap - off) arr T ha (by omega) (by rw [hat, hcl, hasz]; exact hroom)
        rw [hat] at hrun
        have hw : ∀ k : Nat, k < w.heap.size → (e1.nilrow = false → k ≠ e1.blk) → (w.setRow e1.blk (splice arr.toList hi news).toArray).heap[k]? = w.heap[k]? := fun k _ hk => setRow_other w e1.blk k _ (hk q1)
        have hI : ∀ b, I b ∨ X b → (w.setRow e1.blk (splice arr.toList hi news).toArray).heap[b]? = w.heap[b]? := fun b hb =>
          hw b (hs.lt b hb) (fun _ e1' => by
            have := hs.sep id _ e1 hH rfl h1 q1
            rcases hb with hb | hb
            · exact this.1 (e1' ▸ hb)
            · exact this.2 (e1' ▸ hb))
        have hme : (m.set id (⟨ver + 1, e1.blk, 1, e1.cap, false⟩ : ME))[id]? = some (⟨ver + 1, e1.blk, 1, e1.cap, false⟩ : ME) := List.getElem?_set_self (List.getElem?_eq_some_iff.1 h1).1
        have hgg : (⟨ver + 1, e1.blk, 1, e1.cap, false⟩ : ME) = e1 ∨ e1.ver < (⟨ver + 1, e1.blk, 1, e1.cap, false⟩ : ME).ver := .inr (by simp; omega)
        have hcells := (htk.append hcy).mono (MLe.set h1 hgg) (fun _ hb => hb) (fun b hb => hI b (.inl hb))
        rw [← List.map_append] at hcells
        have hlen : (l.take hi ++ ks).length = hi + ks.length := by simp; omega
        have hsim := hs.write (e := .arr 1 (ver + 1) ((l.take hi ++ ks).map (AV.int .i64))) hH rfl h1 hgg hw (by simp) (fun _ => .inl ⟨q1, rfl⟩) ⟨_, hme, rfl, rfl, by rw [List.length_map, hlen]; exact hroom, r3, hcells.2.1, by
          refine RowAt.of_cells (vs := arr.toList.take hi ++ news) (tail := arr.toList.drop (hi + news.length)) (T := T) hcells rfl (setRow_heap w e1.blk arr _ T _ ha) ?_
          have := splice_length (L := arr.toList) (vs := news) (o := hi) (by rw [hcl]; simpa [hasz] using hroom)
          unfold splice at this
          rw [this, Nat.mul_one]; simpa using hasz⟩
        have := left1_end (a := off) (w := w) hidl hsim (MLe.set h1 hgg) ⟨rfl, rfl, rfl, by simp, hI⟩
          (.own _ _ _ _ _ (.slice (some ⟨e1.blk, off, none⟩) (hi - off + ks.length) (e1.cap - off)) hme (Nat.le_refl _) (fun _ => ⟨by rw [hlen]; omega, by rw [hlen]; exact hroom, .inr ⟨rfl, off, by rw [hlen, show hi + ks.length - off = hi - off + ks.length by omega], fun _ => by simp⟩⟩))
        rw [List.drop_append_of_le_length (by simp; omega)] at this
        exact ⟨_, _, hrun, this⟩
      · have hold : (Builtin.firstCells inf.size (hi - lo) (.slice (some ⟨e1.blk, off, none⟩) (hi - lo) (e1.cap - lo))).run S.P w.drew = .ok ((arr.toList.take hi).drop lo).toArray w.drew := by
          by_cases h0 : hi - lo = 0
          · have : (arr.toList.take hi).drop lo = [] := List.drop_eq_nil_of_le (by simp; omega)
            rw [h0, this]
            exact run_firstCells_some (P := S.P) w.drew inf.size 0 ⟨e1.blk, off, none⟩ 0 _ [] (by simp) (by simp)
          · have hoff := q2 (by omega)
            rw [r0, Nat.mul_one] at hoff
            subst hoff
            refine run_firstCells_some w.drew _ _ _ _ _ _ (by rw [h1z, Nat.mul_one, List.length_drop, htk.1]; simp; omega) (fun k u hk => ?_)
            rw [addr_add]
            show w.cell? ⟨e1.blk, off + k, none⟩ = some u
            rw [cell_of_row w e1.blk _ arr T (0, 0) ha]
            rw [List.getElem?_drop, List.getElem?_take] at hk
            split at hk
            · simpa using hk
            · cases hk
        have hrun := hA.grow (some ⟨e1.blk, off, none⟩) (hi - lo) (e1.cap - lo) _ hold hpos (by omega) hbb hcm0
        refine ⟨_, _, hrun, grown _ ?_ _ rfl⟩
        have := htk.drop (n := lo) (by simp; omega)
        rwa [← List.map_drop, Nat.mul_one] at this
end Go.Proofs.YtihhinbjhiankaaGreatDoor.Al

set_option linter.unusedSimpArgs false
set_option linter.unusedVariables false
namespace Go.Proofs.YtihhinbjhiankaaGreatDoor.Al
open Go
variable {S : Seat} {m : List ME} {I X : Nat → Prop} {w : World} {H : List Entry}

theorem trBuiltin_append {b : Builtin} {ts : List Nat} {args : List Operand} {esz bytes : Nat} {x y : Opd} (ht : trBuiltin S b ts args = some (.append esz bytes x y)) :
    ∃ (t u : Nat) (p q : Operand) (te : TE) (d : Nat), b = .append ∧ ts = [t, u] ∧ args = [p, q] ∧ telem S t = some te ∧ S.P.underlying u = some (.slice d) ∧ trOpd S p = some x ∧ trOpd S q = some y ∧ esz = te.i.size ∧ bytes = te.i.bytes := by
  unfold trBuiltin at ht
  split at ht
  all_goals (try (simp only [Option.map_eq_some_iff] at ht; obtain ⟨_, _, h⟩ := ht; cases h; done))
  all_goals (try ((repeat' split at ht) <;> (cases ht; done)))
  rename_i t u p q
  split at ht
  · rename_i te d x' y' h1 h2 h3 h4
    cases ht
    exact ⟨t, u, p, q, te, d, rfl, rfl, rfl, h1, h2, h3, h4, rfl, rfl⟩
  · cases ht
  · cases ht
theorem trOp_append {op : Go.Op} {esz bytes : Nat} {x y : Opd} (ht : trOp S op = some (.append esz bytes x y)) : ∃ (c : Go.Call) (b : Builtin), op = .call c ∧ c.callee = .builtin b ∧ trBuiltin S b c.argTypes.toList c.args.toList = some (.append esz bytes x y) := by
  cases op <;> simp only [trOp] at ht <;> (try (cases ht; done)) <;> (try (simp only [Option.map_eq_some_iff] at ht; obtain ⟨_, _, h⟩ := ht; cases h; done)) <;> (try ((repeat' split at ht) <;> (cases ht; done)))
  case call c =>
    unfold trCall at ht
    split at ht
    · rename_i b hb
      exact ⟨c, b, rfl, hb, ht⟩
    · split at ht <;> cases ht
    · split at ht <;> cases ht
  case makeFunc fn a b =>
    cases fn <;> simp only [trOp] at ht <;> (try (cases ht; done)) <;> ((repeat' split at ht) <;> (cases ht; done))
  case typeAssert a b c k =>
    cases k <;> simp only [trOp] at ht <;> (try (simp only [Option.map_eq_some_iff] at ht; obtain ⟨_, _, h⟩ := ht; cases h; done)) <;> (try (cases ht; done)) <;> ((repeat' split at ht) <;> (cases ht; done))
  all_goals (try unfold trBin at ht) <;> (try unfold trConv at ht)
  all_goals (try ((repeat' (first | split at ht | (simp only [Option.map_eq_some_iff] at ht; obtain ⟨_, _, ht⟩ := ht))) <;> (cases ht; done)))

theorem appOp_lo (hs : Sim S m I X w H) {env : Env} {a : Act} (he : EnvR S m I w env a.tmps) {o : Oper} {bytes : Nat} {x y : Opd} (ht : trOp S o.op = some (.append 1 bytes x y)) {id ver lo hi : Nat} {l ks : List Int}
    (hx : x.ev env = .own id ver lo hi) (hH : H[id]? = some (.arr 1 ver (l.map (AV.int .i64)))) (hy : seen H (y.ev env) = some (ks.map (AV.int .i64))) (hk : ks ≠ []) (hby : bytes ≤ 4096) (hlo : lo ≤ hi) (hhi : hi ≤ l.length)
    (hfit : hi + ks.length ≤ maxRow) : ∃ vv w', (execOp a.eval o).run S.P w = .ok (.value vv) w' ∧ Left1 S m I X w H id ((l.take hi).drop lo ++ ks) vv w' := by
  obtain ⟨dst, oo, ty, pos, aft, grd⟩ := o
  simp only at ht
  obtain ⟨c, b, rfl, hb, ht⟩ := trOp_append ht
  obtain ⟨t, u, p, q, te, d, rfl, hts, has, h1, h2, h3, h4, hz, hbb⟩ := trBuiltin_append ht
  obtain ⟨hel, hza, hpos, hz1⟩ := telem_ok h1
  have hxr := trOpd_sound he h3
  have hyr := trOpd_sound he h4
  rw [hx] at hxr
  have hszk : szOk H te.i.size (ks.map (AV.int .i64)) = true := by
    rw [← hz]
    simp [szOk, AV.cells, AV.oneIn]
  obtain ⟨ao, cc, vs, hval, hc, hcy, hcell⟩ := seen_cells hs hyr hy (szOk_len hszk)
  rw [List.length_map] at hval
  have hfc : ∀ w' : World, w'.heap = w.heap → (Builtin.firstCells te.i.size ks.length (a.eval q)).run S.P w' = .ok vs.toArray w' := by
    intro w' hw'
    rw [hval]
    obtain ⟨b0, off, rfl, hcells⟩ := hcell (by simpa using hk)
    exact run_firstCells_some w' _ _ _ _ _ vs (by rw [hcy.1]; simp) (fun k u hk => by rw [cell_of_heap (w := w) (by rw [hw'])]; exact hcells k u hk)
  have hln : (Builtin.lenOf (a.eval q)).run S.P w = .ok ks.length w := by simp [hval, Builtin.lenOf]
  have h1c : ∀ v ∈ vs, v.oneCell' = true := hcy.one hs (szOk_one hszk)
  have hA : Appends S.P w te.e te.i te.z (fun s => (Builtin.append_ #[t, u] ty #[s, a.eval q]).run S.P w) ks.length vs :=
    appends_of hel h2 (.inl ⟨_, rfl⟩) hln hfc (fun h0 => absurd (List.eq_nil_of_length_eq_zero h0) hk) h1c
  obtain ⟨vv, w', hrun, hleft⟩ := append_lo hs hxr hel hA (fun g o l c cur T hg hroom hfit => append_room_off hel h2 (.inl ⟨_, rfl⟩) hln (hfc w rfl) hg h1c hroom hfit) hcy hz.symm (by rw [← hbb]; exact hby) hH hlo hhi hfit hk
  refine ⟨vv, w', ?_, hleft⟩
  obtain ⟨callee, args, argTypes⟩ := c
  obtain ⟨args⟩ := args
  obtain ⟨argTypes⟩ := argTypes
  simp only at hb hts has
  subst hb; subst hts; subst has
  simp only [execOp, resolve, Sem.run_bind, Sem.run_pure, Result.andThen_ok, invoke]
  simp [builtin, hrun]

theorem SRun.appLo {r : Option Nat} {N : Nat} {Q : St → Prop} {o : IOper} {l : List IOper} {env : Env} {bytes : Nat} {x y : Opd} {id ver lo hi : Nat} {xs ks : List Int} (hg : gdec env o.guard = some true) (ho : o.op = .append 1 bytes x y)
    (hx : x.ev env = .own id ver lo hi) (hH : H[id]? = some (.arr 1 ver (xs.map (AV.int .i64)))) (hy : seen H (y.ev env) = some (ks.map (AV.int .i64))) (hk : ks ≠ []) (hby : bytes ≤ 4096) (hlo : lo ≤ hi) (hhi : hi ≤ xs.length)
    (hfit : hi + ks.length ≤ maxRow) (k : SRun S r N l Q ⟨updo env o.dst (ints ((xs.take hi).drop lo ++ ks)), H.set id .dead⟩) : SRun S r N (o :: l) Q ⟨env, H⟩ := by
  intro cops idx hm m0 I0 X0 w0 QM hQ m I X w a hf hs hfr
  cases idx with
  | nil => exact hm.elim
  | cons i is =>
    obtain ⟨⟨c, hc, ht⟩, hrest⟩ := hm
    obtain ⟨p1, p2, p3, p4, p5⟩ := trOper_parts ht
    have hw := guard_sound ht hfr.env hg
    simp only [wpOpsIn, hc, hw, if_true]
    refine ⟨fun f _ => FW_fn r f, ?_⟩
    rw [FW_round, Oper.semAt_eq r _ _ (trOp_noDefer p1)]
    rw [ho] at p1
    obtain ⟨vv, w', hrun, m', I', hI, hs', hle, hext, hrel⟩ := appOp_lo hs hfr.env p1 hx hH hy hk hby hlo hhi hfit
    rw [hrun]
    have hfr' : Fr S m' I' X w' w0.heap.size N (updo env o.dst (ints ((xs.take hi).drop lo ++ ks))) (a.put c.dst vv) := by
      rw [p2]; exact (hfr.mono hle hI hext).put p3 hrel
    exact k cops is hrest m0 I0 X0 w0 QM hQ m' I' X w' _ (hf.step hle hI (fun _ hb => hb) hext) hs' hfr'
/-- Some operations, then others by themselves. -/
theorem runW_then {T : List (Reg S)} {r : Option Nat} {N : Nat} {l2 : List IOper} {Q : St → Prop} : ∀ {l : List IOper} {st : St}, runW S T l (fun st => SRun S r N l2 Q st) st → SRun S r N (l ++ l2) Q st
  | [], st, h => by simpa [runW] using h
  | ⟨d, op, g, aft⟩ :: l, ⟨env, H⟩, h => by
    simp only [runW] at h
    split at h
    · rename_i hg
      split at h
      · rename_i f xs
        rcases h.sound with ⟨c, first, captured, R, h1, h2, h3, h4⟩ | ⟨id, R, h1, h3, h4⟩
        · exact .call (o := ⟨d, .call f xs, g, aft⟩) hg rfl h1 h2 h3 fun v H' hR => runW_then (h4 v H' hR)
        · exact .yield (o := ⟨d, .call f xs, g, aft⟩) hg rfl h1 h3 fun v H' hR => runW_then (h4 v H' hR)
      · rename_i f nm xs
        obtain ⟨t, v, c, R, rv, h1, h2, h3, h4, h5⟩ := h
        exact .invoke (o := ⟨d, .invoke f nm xs, g, aft⟩) hg rfl ⟨t, v, c, R, rv, h1, h2, h3, h4, fun v H' hR => runW_then (h5 v H' hR)⟩
      · split at h
        · rename_i v H' he
          exact .op (o := ⟨d, op, g, aft⟩) hg he (runW_then h)
        · exact h.elim
    · rename_i hg
      exact .skip (o := ⟨d, op, g, aft⟩) hg (runW_then h)
    · exact h.elim
theorem WP.regionAt (T : List (Reg S)) (n : Nat) {r : Option Nat} {N b : Nat} {l : List IOper} {Q : Exit → St → Prop} {st : St} (h : runW S T (l.take n) (fun st => SRun S r N (l.drop n) (Q .normal) st) st) : WP S r N b (.region l false) Q st :=
  WP.region (by have := runW_then h; rwa [List.take_append_drop] at this)

/-- A function that hands over a window of a row of its own, from lo to its end. -/
def FunWin (S : Seat) (c : Nat) (args : List AV) (sz lo : Nat) (xs : List AV) : Prop := ∀ H, ACall S c args H fun r H' => r = .own H.length 0 lo xs.length ∧ H' = H ++ [.arr sz 0 xs]

theorem ACall.outWin {c : Nat} {args : List AV} {R R' : AV → List Entry → Prop} (k lo : Nat) (h : ACall S c args H R)
    (hR : ∀ r H', R r H' → H'.take H.length = H ∧ ∃ id ver sz xs, r = .own id ver lo xs.length ∧ H.length ≤ id ∧ H'[id]? = some (.arr sz ver xs) ∧
      (∀ x ∈ xs, ∀ y ∈ (derefN (freezeP (fun i => decide (H.length ≤ i) && i != id) H') k x).cells, Idb H.length y) ∧
      R' (.own H.length 0 lo xs.length) (H ++ [.arr sz 0 (xs.map (derefN (freezeP (fun i => decide (H.length ≤ i) && i != id) H') k))])) : ACall S c args H R' := by
  intro m I X w vs hs hv
  refine (h m I X w vs hs hv).mono ?_
  rintro e w' ⟨r, H', vv, m', I', h1, h2, h3, h4, h5, h6, h7⟩
  obtain ⟨p1, id, ver, sz, xs, rfl, p3, p4, p5, p6⟩ := hR r H' h2
  obtain ⟨I2, hs2, hI2⟩ := h4.freezeP (fun i => decide (H.length ≤ i) && i != id)
  have hH2 : (freezeP (fun i => decide (H.length ≤ i) && i != id) H')[id]? = some (.arr sz ver xs) := by rw [freezeP_get, p4]; simp
  have htk : (freezeP (fun i => decide (H.length ≤ i) && i != id) H').take H.length = H := by
    refine Eq.trans ?_ p1
    apply List.ext_getElem?
    intro i
    rw [List.getElem?_take, List.getElem?_take]
    split
    · rename_i hi
      rw [freezeP_get]
      have : decide (H.length ≤ i) = false := by simp; omega
      cases H'[i]? <;> simp [this]
    · rfl
  generalize hHf : freezeP (fun i => decide (H.length ≤ i) && i != id) H' = Hf at *
  obtain ⟨g, hg, hrow⟩ := hs2.hok id _ hH2
  have hbig : m'.take H.length = m'.take H.length := rfl
  have ht := hs2.take (n := H.length) (fun j e hj he => by
    have e1 : H[j]? = some e := by rw [← htk, get_take hj]; exact he
    have := (hs.hok j e e1).entB
    rwa [hs.len] at this)
  rw [htk] at ht
  have hlen : (m'.take H.length).length = H.length := ht.len
  let g' : ME := { g with ver := 0 }
  have hrel := h3.mono (.refl m') hI2 (fun _ _ => rfl)
  obtain ⟨r1, r0, r2, r3, r4, r5⟩ := hrow
  have hmg : (m'.take H.length ++ [g'])[H.length]? = some g' := by
    rw [List.getElem?_append_right (by omega), hlen, Nat.sub_self]; rfl
  have hle : MLe (m'.take H.length) (m'.take H.length ++ [g']) := MLe.push _ _
  have hcont : ∀ (i : Nat) (x : AV), (xs.map (derefN Hf k))[i]? = some x → ∀ (j : Nat) (y : AV), x.cells[j]? = some y → ∃ x0 y0 k', xs[i]? = some x0 ∧ x0.cells[j]? = some y0 ∧ y = derefN Hf k' y0 ∧ Idb H.length y := by
    intro i x hx j y hy
    rw [List.getElem?_map] at hx
    cases hx0 : xs[i]? with
    | none => rw [hx0] at hx; cases hx
    | some x0 =>
      rw [hx0] at hx; cases hx
      obtain ⟨y0, k'', hy0, _, hyy⟩ := (derefN_cells Hf k x0).2 j y hy
      exact ⟨x0, y0, k'', rfl, hy0, hyy, p5 x0 (List.mem_of_getElem? hx0) y (List.mem_of_getElem? hy)⟩
  have hrow' : RowOk S (m'.take H.length ++ [g']) I2 w' g' sz 0 (xs.map (derefN Hf k)) := by
    refine ⟨rfl, r0, by simpa using r2, r3, fun x hx => ?_, ?_⟩
    · obtain ⟨x0, hx0, rfl⟩ := List.mem_map.1 hx
      rw [(derefN_cells Hf k x0).1]; exact r4 x0 hx0
    · rcases r5 with r5 | ⟨r5, arr, T, ha, hsz, hc⟩
      · exact .inl r5
      · refine .inr ⟨r5, arr, T, ha, hsz, fun i x hx j y hy => ?_⟩
        obtain ⟨x0, y0, k', hx0, hy0, rfl, hidb⟩ := hcont i x hx j y hy
        exact ((derefN_sound hs2 k' (hc i x0 hx0 j y0 hy0)).take hidb).mono hle (fun _ hb => hb) (fun _ _ => rfl)
  have hsim : Sim S (m'.take H.length ++ [g']) I2 X w' (H ++ [.arr sz 0 (xs.map (derefN Hf k))]) := by
    have keyH : ∀ {j : Nat} {e : Entry}, H[j]? = some e → Hf[j]? = some e ∧ j < H.length := by
      intro j e hj
      have hlt := lt_of_get hj
      rw [← htk, get_take hlt] at hj; exact ⟨hj, hlt⟩
    have keym : ∀ {j : Nat} {g1 : ME}, j < H.length → (m'.take H.length ++ [g'])[j]? = some g1 → m'[j]? = some g1 := by
      intro j g1 hj hg1
      rw [List.getElem?_append_left (by omega), get_take hj] at hg1; exact hg1
    refine ⟨by simp [hlen], fun j e he => ?_, fun j e g1 he hl hg1 hn => ?_, fun j j' e e' g1 g2 he hl he' hl' hg1 hg2 hn1 hn2 hb => ?_, ht.lt, ht.disj, ht.gl⟩
    · rcases getElem?_push_cases he with ⟨he, hlt⟩ | ⟨rfl, rfl⟩
      · exact (ht.hok j e he).keep hle (fun _ hb => hb) (fun _ _ => rfl) (List.getElem?_append_left (by omega)) (fun _ _ _ _ => rfl)
      · exact ⟨g', hmg, hrow'⟩
    · rcases getElem?_push_cases he with ⟨he, hlt⟩ | ⟨rfl, rfl⟩
      · exact hs2.sep j e g1 (keyH he).1 hl (keym hlt hg1) hn
      · rw [hmg] at hg1; cases hg1
        exact hs2.sep id _ g hH2 rfl hg hn
    · rcases getElem?_push_cases he with ⟨k1, l1⟩ | ⟨i1, x1⟩
      · rcases getElem?_push_cases he' with ⟨k2, l2⟩ | ⟨i2, x2⟩
        · exact hs2.inj j j' e e' g1 g2 (keyH k1).1 hl (keyH k2).1 hl' (keym l1 hg1) (keym l2 hg2) hn1 hn2 hb
        · subst i2
          rw [hmg] at hg2; cases hg2
          have := hs2.inj j id e _ g1 g (keyH k1).1 hl hH2 rfl (keym l1 hg1) hg hn1 hn2 hb
          omega
      · subst i1
        rw [hmg] at hg1; cases hg1
        rcases getElem?_push_cases he' with ⟨k2, l2⟩ | ⟨i2, x2⟩
        · have := hs2.inj id j' _ e' g g2 hH2 rfl (keyH k2).1 hl' hg (keym l2 hg2) hn1 hn2 hb
          omega
        · exact i2.symm
  refine ⟨_, _, vv, _, I2, h1, p6, ?_, hsim, (h5.take (by rw [hs.len]; exact Nat.le_refl _)).trans hle, fun b hb => hI2 b (h6 b hb), h7⟩
  cases hrel with
  | own _ _ _ _ e2 _ he2 hver hrel =>
    rw [hg] at he2; cases he2
    exact .own _ _ _ _ g' _ hmg (Nat.le_refl _) (fun _ => hrel r1.symm)

theorem FunWin.zero {c : Nat} {args : List AV} {sz lo : Nat} {xs : List AV} (ha : ∀ x ∈ args, Idb 0 x) (hx : ∀ x ∈ xs, ∀ y ∈ x.cells, Idb 0 y) (h : ACall S c args [] fun r H' => r = .own 0 0 lo xs.length ∧ H' = [.arr sz 0 xs]) : FunWin S c args sz lo xs := by
  intro H m I X w vs hs hv
  refine (h [] I _ w vs (hide_sound hs) (hv.closed ha)).mono ?_
  rintro e w' ⟨r', H', vv, m', I', h1, ⟨rfl, rfl⟩, h3, h4, h5, h6, h7⟩
  have hun := unhide_sound hs h4 h6 h7
  obtain ⟨g, hg, r1, r0, r2, r3, r4, r5⟩ := h4.hok 0 (.arr sz 0 xs) rfl
  have hsep := h4.sep 0 (.arr sz 0 xs) g rfl rfl hg
  have hmg : (m ++ [g])[H.length]? = some g := by rw [← hs.len, List.getElem?_append_right (Nat.le_refl _), Nat.sub_self]; rfl
  refine ⟨_, _, vv, m ++ [g], I', h1, ⟨rfl, rfl⟩, ?_, hun.add ?_ ?_, MLe.push m g, h6, ⟨h7.os, h7.tape, h7.output, h7.size, fun b hb => h7.keep b (hb.imp id .inl)⟩⟩
  · cases h3 with
    | own _ _ _ _ e2 _ he2 hver hrel =>
      rw [hg] at he2; cases he2
      exact .own _ _ _ _ g _ hmg hver hrel
  · refine ⟨g, hmg, r1, r0, r2, r3, r4, ?_⟩
    rcases r5 with r5 | ⟨r5, arr, T, ha, hsz, hc⟩
    · exact .inl r5
    · refine .inr ⟨r5, arr, T, ha, hsz, fun i x hi j y hy => ?_⟩
      have := (hc i x hi j y hy).take (hx x (List.mem_of_getElem? hi) y (List.mem_of_getElem? hy))
      rw [List.take_zero] at this
      exact this.mono (MLe.nil _) (fun _ hb => hb) (fun _ _ => rfl)
  · intro hn
    obtain ⟨n1, n2⟩ := hsep hn
    exact ⟨n1, fun hx => n2 (.inl hx), fun hl => n2 (.inr hl)⟩

theorem FunWin.of0W {c : Nat} {f : IFn} (ht : trFn S c = some f) {args : List AV} {sz lo : Nat} {xs : List AV} (hn : args.length ≤ f.N) (ha : ∀ x ∈ args, Idb 0 x) (hx : ∀ x ∈ xs, ∀ y ∈ x.cells, Idb 0 y)
    (h : WP S none f.N 0 f.body (leaves f.res fun r H' => ∃ id ver, r = .own id ver lo xs.length ∧ H'[id]? = some (.arr sz ver xs)) ⟨envL (args.zipIdx.map fun p => (p.2, p.1)), []⟩) : FunWin S c args sz lo xs := by
  refine FunWin.zero ha hx (ACall.outWin 0 lo (R := fun r H' => ∃ id ver, r = .own id ver lo xs.length ∧ H'[id]? = some (.arr sz ver xs)) (ACall.of_wp ht hn (by rw [start_env]; exact h)) ?_)
  rintro r H' ⟨id, ver, rfl, h2⟩
  have hm : ∀ G : List Entry, xs.map (derefN G 0) = xs := fun G => by
    have : derefN G 0 = fun x => x := by funext x; rfl
    rw [this]; simp
  exact ⟨by simp, id, ver, sz, xs, by simp, Nat.zero_le _, h2, fun x hx' y hy => hx x hx' y hy, by simp, by rw [hm]; rfl⟩
end Go.Proofs.YtihhinbjhiankaaGreatDoor.Al

set_option linter.unusedSimpArgs false
set_option linter.unusedVariables false
namespace Go.Proofs.YtihhinbjhiankaaGreatDoor.Al
open Go
attribute [local go_sem] W_mv W_pick W_alloc W_box W_build W_bslice W_load W_store W_bin W_isnil W_un W_convI W_convS W_mkfunc W_mkslice W_slice W_faddr W_field W_iaddr W_extract W_len W_min W_append W_appendZ W_copy W_invoke thenQ_normal thenQ_exit thenQ_goto thenQ_ret blockQ_normal blockQ_ret blockQ_goto blockQ_exit wpc_skip wpc_region wpc_draw wpc_seq wpc_cond wpc_block wpc_exit wpc_goto wpc_label wpc_ret wpc_loop wpc_range wpc_scope condW_true condW_false condW_dec condW_any W_nil W_call resW_some evalOp Opd.ev updo_envL updo_none setL_cons setL_nil envL_cons Option.map_some Option.bind_some evBin evInt List.map_cons List.map_nil Option.pure_def Option.bind_eq_bind W_grd' grdW_tt grdW_ff grdW_tf grdW_ft grdW_tup grdW_dt grdW_df lgrdW_tup L_mv L_load L_bin L_un L_faddr L_iaddr L_nil L_call lresW_some upd_envL evUn beq_dec bne_dec leaves_ret1 leaves_ret0 leaves_end0 rowLen_ints load_iptr0 not_dec heap_get0 heap_get1 heap_set0 heap_set1 heap_len1 heap_app bslice1_int seen_ints seen_one0 Nat.sub_zero Bool.not_true Bool.not_false List.length_nil List.length_cons List.nil_append List.cons_append Nat.zero_add load_iptrA canon_ptrI canon_bool canon_tup canon_agg canon_ints' canon_ints0 rowLen_octs seen_octs canon_octs' seen_intss seen_octss rowLen_nodes seen_nodes canon_nodes' rowLen_nodes0 rowLen_nodes1 seen_list cells_int oneIn_int cells_bool oneIn_bool cells_str oneIn_str cells_list oneIn_list cells_func oneIn_func cells_nilfunc oneIn_nilfunc cells_iptr oneIn_iptr cells_iface oneIn_iface cells_nilIface oneIn_nilIface cells_own cells_ptr cells_anybool oneIn_anybool cells_agg oneIn_own0 oneIn_own1 oneIn_own3 oneIn_own4 oneIn_own5 cells_ints oneIn_ints cells_octs oneIn_octs cells_intss oneIn_intss cells_octss oneIn_octss cells_nodes oneIn_nodes ldB0 ldA0 adB0 stB0 ldB1 ldA1 adB1 stB1 ldB2 ldA2 adB2 stB2 ldB3 ldA3 adB3 stB3 ldB4 ldA4 adB4 stB4 ldB5 ldA5 adB5 stB5 List.getElem?_cons_zero List.getElem?_cons_succ beq_self_eq_true splice List.take_zero List.take_succ_cons List.drop_zero List.drop_succ_cons List.append_nil List.set_cons_zero List.set_cons_succ List.all_cons List.all_nil Bool.and_self and_self and_true true_and Nat.lt_irrefl Nat.zero_lt_one Nat.le_refl fillA evNil notA Bool.false_eq_true evMin_int evMax_int Option.map_none freezeP_all_nil freezeP_all_cons frzE_box frzE_arr frzE_dead foldA List.foldlM_cons List.foldlM_nil callW_f lcallW_f ansW_fn ansW_own lansW_fn lansW_own ansW_none lansW_none tab_cons tab_nil dI_int dB_bool dO_octs dO_ints dO_nil dOs_nil dN_nodeA dLf_agg dIn_agg dN_agg dNs_nodes dNs_nil isI_int isO_octs isO_nil isS_ints isS_nil isNs_nodes isNs_nil isLf_agg isIn_agg isN_agg leaf_eta inner_eta node_eta leaf_zero inner_zero node_zero dP_agg isP_agg patch_eta decide_eq_true_eq decide_eq_false_iff_not eq_self forall_const true_implies false_implies Bool.not_eq_true' Bool.not_eq_false' Bool.true_eq_false implies_true ne_eq ldI ldIA adI AV.tup.injEq AV.agg.injEq List.cons.injEq AV.int.injEq AV.bool.injEq nodes_inj octs_inj ints_inj nil_nodes nil_octs nil_ints canon_nilL decide_eq_decide two_ne lendA_fn lendA_own lendA_none llendA_fn llendA_none plain_bool plain_int isNs_own isS_own false_and and_false Q_nil Q_l Q_g Q_h qgrdW_b qgrdW_tup lightD_some heavyD_some readD_some fnD_some fnD_own fnD_none callL_f ownH_some callH_f litD_some litE_some Q_call Q_bslice H_call pendOk_nil pendOk_cons pastOk_nil pastOk_cons Q_mv Q_pick Q_bin Q_un Q_convI Q_mkfunc Q_extract Q_min Q_max Q_lenS Q_lenA Q_field Q_idxA Q_mkiface Q_tassert Q_alloc Q_box Q_store Q_mkslice Q_append Q_appendZ Q_copy Q_clear Q_build Q_load Q_nilck Q_isnil Q_convS Q_slice Q_faddr Q_iaddr Q_iaddrA Q_len H_alloc H_box H_bslice H_store H_mkslice H_append H_appendZ H_copy H_clear free_mv free_pick free_bin free_un free_convI free_mkfunc free_extract free_min free_max free_lenS free_lenA free_field free_idxA free_mkiface free_tassert free_build free_load free_nilck free_isnil free_convS free_slice free_faddr free_iaddr free_iaddrA free_len callW_y List.length_map List.length_set leaves_r evR_some evRess1 evRess2 evRess3 evRes_t evRes_c nz_kind nz_enc nz_cred nz_source nz_parent nz_ienc nz_hash nz_un true_or or_true bsl_node idbs_node idbs_int appN appI ixo_nodes canon_row canon_rowI canon_rowO not_false_eq_true not_true_eq_false ldE_a ldE_c adE_b stE_b onE_a onP_b bsl_zero idbs_zero appN_zero
attribute [local go_sem low] condW_b grdW_b lgrdW_b ldP adP stP onO onPt
attribute [local simp] envL_cons envL_nil idb_int idb_bool idb_ints idb_nil idb_own idb_ptr idb_octs idb_nodes idb_leafA idb_innerA idb_nodeA idb_agg idb_tup idb_iptr idb_fn entB_dead entB_box
theorem sane_spec (t : List Node) (ht : Tree.Ok t) : Fun seat 101 [nodes t] (.bool (decide (Sane t))) := by
  have hl := ht.len
  refine Fun.of0R [r125] told101 (by simp [il101]) (by simp [idb_patchA]) (by simp [idb_patchA]) 4 ?_
  simp only [il101, List.zipIdx_cons, List.zipIdx_nil, leafA, innerA, nodeA, patchA, Leaf.cells, Inner.cells, Node.cells, r125_c, r125_ask, go_sem, Nat.reduceEqDiff, reduceIte, Nat.reduceAdd, Nat.reduceLeDiff, Nat.reduceLT, Nat.reduceSub]
  refine WP.loopG (fun k => k ≤ t.length ∧ ∀ j (h : j < t.length), j < k → Good j t[j]) (fun k => [(0, nodes t), (5, nodes t), (6, .int .i64 t.length), (7, .int .i64 k)]) (fun k => []) (fun k => t.length - k) 0 ⟨Nat.zero_le _, fun j _ h => absurd h (Nat.not_lt_zero j)⟩ (fun k _ => by simp [idb_patchA]) (by simp ) ?_
  rintro k ⟨hk, hno⟩
  refine wpc_soundR [r123, r124] ?_
  simp only [leafA, innerA, nodeA, patchA, Leaf.cells, Inner.cells, Node.cells, r123_c, r123_ask, r124_c, r124_ask, go_sem, Nat.reduceEqDiff, reduceIte, Nat.reduceAdd, Nat.reduceLeDiff, Nat.reduceLT, Nat.reduceSub]
  refine ⟨fun hlt => ?_, fun hge => ?_⟩
  · have hk' : k < t.length := by omega
    simp only [leafA, innerA, nodeA, patchA, Leaf.cells, Inner.cells, Node.cells, r123_c, r123_ask, r124_c, r124_ask, fun H => ix_nodes H t k hk', ht.at hk', go_sem, Nat.reduceEqDiff, reduceIte, Nat.reduceAdd, Nat.reduceLeDiff, Nat.reduceLT, Nat.reduceSub]
    have gd : Good k t[k] ↔ Stands k t[k].kind ∧ nodeCheck t[k] = 0 := Iff.rfl
    have bad : ¬ Good k t[k] → ¬ Sane t := fun h hs => h (hs.1 k hk')
    iterate 12 ((all_goals intros); (all_goals try refine And.intro ?_ ?_))
    all_goals first | (show WP _ _ _ _ _ _ _) | exact ⟨k + 1, ⟨hk', scanS hno fun _ => by grind⟩, by omega, by simp [wrapS (show k < 9223372036854775807 by omega)]⟩ | grind
  · have hno1 := scanE hno hge
    have e : Sane t ↔ t.length = 0 ∨ Whole t.length := ⟨fun h => h.2, fun h => ⟨hno1, h⟩⟩
    simp only [leafA, innerA, nodeA, patchA, Leaf.cells, Inner.cells, Node.cells, r125_c, r125_ask, go_sem, Nat.reduceEqDiff, reduceIte, Nat.reduceAdd, Nat.reduceLeDiff, Nat.reduceLT, Nat.reduceSub]
    iterate 12 ((all_goals intros); (all_goals try refine And.intro ?_ ?_))
    all_goals first | (show WP _ _ _ _ _ _ _) | grind
noncomputable def r101 : Reg seat := .of told101 (ask1 (fun a0' => isNs a0' ∧ Tree.Ok (dNs a0')) fun a0' => .fn (.bool (decide (Sane (dNs a0'))))) (ask1_ok fun a0' h => SaidOk.fn (Fun.weak (.cons (isNs.weak h.1) .nil) (sane_spec _ h.2)))
theorem r101_c : r101.c = 101 := rfl
open Classical in
theorem r101_ask (a0' : AV) : r101.ask [a0'] = if isNs a0' ∧ Tree.Ok (dNs a0') then some (Said.fn (.bool (decide (Sane (dNs a0'))))) else none := by unfold r101 Reg.of ask1; exact ite_cl

theorem known_spec (t : List Node) (ht : Tree.Ok t) : Fun seat 126 [nodes t] (nodes (known t)) := by
  refine Fun.of0R [r101] told126 (by simp [il126]) (by simp [idb_patchA]) (by simp [idb_patchA]) 4 ?_
  simp only [il126, List.zipIdx_cons, List.zipIdx_nil, leafA, innerA, nodeA, patchA, Leaf.cells, Inner.cells, Node.cells, r101_c, r101_ask, ht, go_sem, Nat.reduceEqDiff, reduceIte, Nat.reduceAdd, Nat.reduceLeDiff, Nat.reduceLT, Nat.reduceSub]
  iterate 12 ((all_goals intros); (all_goals try refine And.intro ?_ ?_))
  all_goals first | (show WP _ _ _ _ _ _ _) | grind [known]
noncomputable def r126 : Reg seat := .of told126 (ask1 (fun a0' => isNs a0' ∧ Tree.Ok (dNs a0')) fun a0' => .fn (nodes (known (dNs a0')))) (ask1_ok fun a0' h => SaidOk.fn (Fun.weak (.cons (isNs.weak h.1) .nil) (known_spec _ h.2)))
theorem r126_c : r126.c = 126 := rfl
open Classical in
theorem r126_ask (a0' : AV) : r126.ask [a0'] = if isNs a0' ∧ Tree.Ok (dNs a0') then some (Said.fn (nodes (known (dNs a0')))) else none := by unfold r126 Reg.of ask1; exact ite_cl
theorem leaves_spec (t : List Node) (ht : Tree.Ok t) : Fun seat 103 [nodes t] (.int .i64 (leaves_ t)) := by
  have := known_len t
  refine Fun.of0R [r126] told103 (by simp [il103]) (by simp [idb_patchA]) (by simp [idb_patchA]) 4 ?_
  simp only [il103, List.zipIdx_cons, List.zipIdx_nil, leafA, innerA, nodeA, patchA, Leaf.cells, Inner.cells, Node.cells, r126_c, r126_ask, ht, quo2 ((known t).length + 1) (by omega), wrap64s ((known t).length + 1) (by omega), go_sem, Nat.reduceEqDiff, reduceIte, Nat.reduceAdd, Nat.reduceLeDiff, Nat.reduceLT, Nat.reduceSub]
  rfl
noncomputable def r103 : Reg seat := .of told103 (ask1 (fun a0' => isNs a0' ∧ Tree.Ok (dNs a0')) fun a0' => .fn (.int .i64 (leaves_ (dNs a0')))) (ask1_ok fun a0' h => SaidOk.fn (Fun.weak (.cons (isNs.weak h.1) .nil) (leaves_spec _ h.2)))
theorem r103_c : r103.c = 103 := rfl
open Classical in
theorem r103_ask (a0' : AV) : r103.ask [a0'] = if isNs a0' ∧ Tree.Ok (dNs a0') then some (Said.fn (.int .i64 (leaves_ (dNs a0')))) else none := by unfold r103 Reg.of ask1; exact ite_cl

/-- Are there few nodes, of few octets? -/
def Few (t : List Node) : Prop := (∀ x (h : x < t.length), nodeFew t[x]) ∧ t.length ≤ 300
instance (t : List Node) : Decidable (Few t) := inferInstanceAs (Decidable (_ ∧ _))
theorem few_spec (t : List Node) (ht : Tree.Ok t) : Fun seat 100 [nodes t] (.bool (decide (Few t))) := by
  have hl := ht.len
  refine Fun.of0R [] told100 (by simp [il100]) (by simp [idb_patchA]) (by simp [idb_patchA]) 4 ?_
  simp only [il100, List.zipIdx_cons, List.zipIdx_nil, leafA, innerA, nodeA, patchA, Leaf.cells, Inner.cells, Node.cells, go_sem, Nat.reduceEqDiff, reduceIte, Nat.reduceAdd, Nat.reduceLeDiff, Nat.reduceLT, Nat.reduceSub]
  refine WP.loop0 (fun k => k ≤ t.length ∧ ∀ j (h : j < t.length), j < k → nodeFew t[j]) (fun k => [(0, nodes t), (3, .int .i64 k)]) (fun k => t.length - k) 0 ⟨Nat.zero_le _, fun j _ h => absurd h (Nat.not_lt_zero j)⟩ (fun k _ => by simp [idb_patchA]) (by simp ) ?_
  rintro k ⟨hk, hno⟩
  refine wpc_soundR [r122] ?_
  simp only [leafA, innerA, nodeA, patchA, Leaf.cells, Inner.cells, Node.cells, r122_c, r122_ask, go_sem, Nat.reduceEqDiff, reduceIte, Nat.reduceAdd, Nat.reduceLeDiff, Nat.reduceLT, Nat.reduceSub]
  refine ⟨fun hlt => ?_, fun hge => ?_⟩
  · have hk' : k < t.length := by omega
    simp only [leafA, innerA, nodeA, patchA, Leaf.cells, Inner.cells, Node.cells, r122_c, r122_ask, fun H => ix_nodes H t k hk', ht.at hk', go_sem, Nat.reduceEqDiff, reduceIte, Nat.reduceAdd, Nat.reduceLeDiff, Nat.reduceLT, Nat.reduceSub]
    have bad : ¬ nodeFew t[k] → ¬ Few t := fun h hs => h (hs.1 k hk')
    iterate 12 ((all_goals intros); (all_goals try refine And.intro ?_ ?_))
    all_goals first | (show WP _ _ _ _ _ _ _) | exact ⟨k + 1, ⟨hk', scanS hno fun _ => by grind⟩, by omega, by simp [wrapS (show k < 9223372036854775807 by omega)]⟩ | grind
  · have hno1 := scanE hno hge
    have e : Few t ↔ t.length ≤ 300 := ⟨fun h => h.2, fun h => ⟨hno1, h⟩⟩
    simp only [e]
    omega
noncomputable def r100 : Reg seat := .of told100 (ask1 (fun a0' => isNs a0' ∧ Tree.Ok (dNs a0')) fun a0' => .fn (.bool (decide (Few (dNs a0'))))) (ask1_ok fun a0' h => SaidOk.fn (Fun.weak (.cons (isNs.weak h.1) .nil) (few_spec _ h.2)))
theorem r100_c : r100.c = 100 := rfl
open Classical in
theorem r100_ask (a0' : AV) : r100.ask [a0'] = if isNs a0' ∧ Tree.Ok (dNs a0') then some (Said.fn (.bool (decide (Few (dNs a0'))))) else none := by unfold r100 Reg.of ask1; exact ite_cl

theorem nodesSame_spec (a b : List Node) (ha : Tree.Ok a) (hb : Tree.Ok b) : Fun seat 106 [nodes a, nodes b] (.bool (decide (a = b))) := by
  have hla := ha.len
  have c0 : ¬ a.length = b.length → ¬ a = b := fun h e => h (by rw [e])
  refine Fun.of0R [] told106 (by simp [il106]) (by simp [idb_patchA]) (by simp [idb_patchA]) 4 ?_
  simp only [il106, List.zipIdx_cons, List.zipIdx_nil, leafA, innerA, nodeA, patchA, Leaf.cells, Inner.cells, Node.cells, go_sem, Nat.reduceEqDiff, reduceIte, Nat.reduceAdd, Nat.reduceLeDiff, Nat.reduceLT, Nat.reduceSub]
  iterate 12 ((all_goals intros); (all_goals try refine And.intro ?_ ?_))
  all_goals first | (show WP _ _ _ _ _ _ _) | grind
  have hl : a.length = b.length := by omega
  refine WP.loop0 (fun k => k ≤ a.length ∧ ∀ j (h : j < a.length), j < k → a[j] = b[j]'(by omega)) (fun k => [(0, nodes a), (1, nodes b), (5, .int .i64 k)]) (fun k => a.length - k) 0 ⟨Nat.zero_le _, fun j _ h => absurd h (Nat.not_lt_zero j)⟩ (fun k _ => by simp [idb_patchA]) (by simp ) ?_
  rintro k ⟨hk, hno⟩
  refine wpc_soundR [] ?_
  simp only [leafA, innerA, nodeA, patchA, Leaf.cells, Inner.cells, Node.cells, go_sem, Nat.reduceEqDiff, reduceIte, Nat.reduceAdd, Nat.reduceLeDiff, Nat.reduceLT, Nat.reduceSub]
  refine ⟨fun hlt => ?_, fun hge => ?_⟩
  · have hk' : k < a.length := by omega
    refine WP.drawR [r130] mixed (by decide) ?_
    simp only [leafA, innerA, nodeA, patchA, Leaf.cells, Inner.cells, Node.cells, r130_c, r130_ask, fun H => ix_nodes H a k hk', fun H => ix_nodes H b k (by omega), ha.at hk', hb.at (show k < b.length by omega), go_sem, Nat.reduceEqDiff, reduceIte, Nat.reduceAdd, Nat.reduceLeDiff, Nat.reduceLT, Nat.reduceSub]
    have bad : ¬ a[k] = b[k] → ¬ a = b := fun h e => h (by simp only [e])
    iterate 12 ((all_goals intros); (all_goals try refine And.intro ?_ ?_))
    all_goals first | (show WP _ _ _ _ _ _ _) | exact ⟨k + 1, ⟨hk', scanS hno fun _ => by grind⟩, by omega, by simp [wrapS (show k < 9223372036854775807 by omega)]⟩ | grind
  · have hno1 := scanE hno hge
    have e : a = b := List.ext_getElem hl fun j h1 h2 => hno1 j h1
    grind
noncomputable def r106 : Reg seat := .of told106 (ask2 (fun a0' a1' => isNs a0' ∧ isNs a1' ∧ Tree.Ok (dNs a0') ∧ Tree.Ok (dNs a1')) fun a0' a1' => .fn (.bool (decide ((dNs a0') = (dNs a1'))))) (ask2_ok fun a0' a1' h => SaidOk.fn (Fun.weak (.cons (isNs.weak h.1) (.cons (isNs.weak h.2.1) .nil)) (nodesSame_spec _ _ h.2.2.1 h.2.2.2)))
theorem r106_c : r106.c = 106 := rfl
open Classical in
theorem r106_ask (a0' a1' : AV) : r106.ask [a0', a1'] = if isNs a0' ∧ isNs a1' ∧ Tree.Ok (dNs a0') ∧ Tree.Ok (dNs a1') then some (Said.fn (.bool (decide ((dNs a0') = (dNs a1'))))) else none := by unfold r106 Reg.of ask2; exact ite_cl
end Go.Proofs.YtihhinbjhiankaaGreatDoor.Al
