/-
  SPECS: a leaf and its way up are made blank.
-/
import Derived.Test.YtihhinbjhiankaaGreatDoorAlI4
import Derived.Test.YtihhinbjhiankaaGreatDoorAlD12
import Derived.Test.YtihhinbjhiankaaGreatDoorAlS5
import Derived.Test.YtihhinbjhiankaaGreatDoorAlP10
set_option linter.unusedSimpArgs false
set_option linter.unusedVariables false
namespace Go.Proofs.YtihhinbjhiankaaGreatDoor.Al
open Go
attribute [local go_sem] W_mv W_pick W_alloc W_box W_build W_bslice W_load W_store W_nilck W_bin W_isnil W_un W_convI W_convS W_mkiface W_mkfunc W_mkslice W_slice W_faddr W_field W_iaddr W_iaddrA W_idxA W_extract W_len W_lenS W_lenA W_min W_max W_append W_appendZ W_copy W_clear W_tassert W_invoke thenQ_normal thenQ_exit thenQ_goto thenQ_ret blockQ_normal blockQ_ret blockQ_goto blockQ_exit wpc_skip wpc_region wpc_draw wpc_seq wpc_cond wpc_block wpc_exit wpc_goto wpc_label wpc_ret wpc_loop wpc_range wpc_scope condW_true condW_false condW_dec condW_any W_nil W_call resW_some evalOp Opd.ev updo_envL updo_none setL_cons setL_nil envL_cons Option.map_some Option.bind_some evBin evInt List.map_cons List.map_nil Option.pure_def Option.bind_eq_bind W_grd' grdW_tt grdW_ff grdW_tf grdW_ft grdW_tup grdW_dt grdW_df lgrdW_tt lgrdW_ff lgrdW_tf lgrdW_ft lgrdW_tup lgrdW_dt lgrdW_df L_mv L_pick L_alloc L_box L_build L_bslice L_load L_store L_nilck L_bin L_isnil L_un L_convI L_convS L_mkiface L_mkfunc L_mkslice L_slice L_faddr L_field L_iaddr L_iaddrA L_idxA L_extract L_len L_lenS L_lenA L_min L_max L_append L_appendZ L_copy L_clear L_tassert L_nil L_call L_grd lresW_some upd_envL evUn beq_dec bne_dec leaves_ret1 leaves_end1 leaves_ret0 leaves_end0 leaves_ret2 leaves_ret3 rowLen_ints load_iptr0 not_dec heap_get0 heap_get1 heap_set0 heap_set1 heap_len1 heap_len2 heap_app heap_app2 bslice1_int seen_ints seen_one0 seen_one1 seen_one2 rowLen_own0 bslice0_int rowLen_own1 Nat.sub_zero Bool.not_true Bool.not_false List.length_nil List.length_cons List.nil_append List.cons_append Nat.zero_add load_iptrA canon_ptrI canon_bool canon_tup canon_agg canon_leafA canon_innerA canon_nodeA canon_ints' rowLen_ints0 seen_ints0 canon_ints0 rowLen_ints1 seen_ints1 canon_ints1 rowLen_ints2 seen_ints2 canon_ints2 rowLen_ints3 seen_ints3 canon_ints3 rowLen_octs seen_octs canon_octs' szOk_octs rowLen_octs0 seen_octs0 canon_octs0 rowLen_octs1 seen_octs1 canon_octs1 rowLen_octs2 seen_octs2 canon_octs2 rowLen_octs3 seen_octs3 canon_octs3 rowLen_intss seen_intss canon_intss' szOk_intss rowLen_intss0 seen_intss0 canon_intss0 rowLen_intss1 seen_intss1 canon_intss1 rowLen_intss2 seen_intss2 canon_intss2 rowLen_intss3 seen_intss3 canon_intss3 rowLen_octss seen_octss canon_octss' szOk_octss rowLen_octss0 seen_octss0 canon_octss0 rowLen_octss1 seen_octss1 canon_octss1 rowLen_octss2 seen_octss2 canon_octss2 rowLen_octss3 seen_octss3 canon_octss3 rowLen_nodes seen_nodes canon_nodes' szOk_nodes rowLen_nodes0 seen_nodes0 canon_nodes0 rowLen_nodes1 seen_nodes1 canon_nodes1 rowLen_nodes2 seen_nodes2 canon_nodes2 rowLen_nodes3 seen_nodes3 canon_nodes3 seen_list cells_int oneIn_int cells_bool oneIn_bool cells_str oneIn_str cells_list oneIn_list cells_func oneIn_func cells_nilfunc oneIn_nilfunc cells_iptr oneIn_iptr cells_iface oneIn_iface cells_nilIface oneIn_nilIface cells_own cells_ptr cells_anybool oneIn_anybool cells_agg oneIn_own0 oneIn_ptr0 seenL0 seenM0 oneIn_own1 oneIn_ptr1 seenL1 seenM1 oneIn_own2 oneIn_ptr2 seenL2 seenM2 oneIn_own3 oneIn_ptr3 seenL3 seenM3 oneIn_own4 oneIn_ptr4 seenL4 seenM4 oneIn_own5 oneIn_ptr5 seenL5 seenM5 cells_ints oneIn_ints cells_octs oneIn_octs cells_intss oneIn_intss cells_octss oneIn_octss cells_nodes oneIn_nodes ldB0 ldA0 adB0 stB0 ldB1 ldA1 adB1 stB1 ldB2 ldA2 adB2 stB2 ldB3 ldA3 adB3 stB3 ldB4 ldA4 adB4 stB4 ldB5 ldA5 adB5 stB5 List.getElem?_cons_zero List.getElem?_cons_succ beq_self_eq_true splice List.take_zero List.take_succ_cons List.drop_zero List.drop_succ_cons List.append_nil List.set_cons_zero List.set_cons_succ List.all_cons List.all_nil Bool.and_self and_self and_true true_and Nat.lt_irrefl Nat.zero_lt_one Nat.le_refl fillA evNil notA Bool.false_eq_true evMin_int evMax_int Option.map_none freezeP_all_nil freezeP_all_cons frzE_box frzE_arr frzE_dead foldA List.foldlM_cons List.foldlM_nil callW_f lcallW_f ansW_fn ansW_own lansW_fn lansW_own ansW_none lansW_none tab_cons tab_nil dI_int dB_bool dO_octs dO_ints dO_list dO_nil dOs_octss dOs_intss dOs_nil dLf_leafA dIn_innerA dN_nodeA dLf_agg dIn_agg dN_agg dNs_nodes dNs_list dNs_nil isI_int isU_int isB_bool isO_octs isO_nil isO_list isS_ints isS_nil isS_list isOs_octss isSs_intss isOs_nil isSs_nil isNs_nodes isNs_list isNs_nil isLf_leafA isIn_innerA isN_nodeA isLf_agg isIn_agg isN_agg leaf_eta inner_eta node_eta leaf_zero inner_zero node_zero dP_patchA dP_agg isP_patchA isP_agg patch_eta decide_eq_true_eq decide_eq_false_iff_not eq_self forall_const true_implies false_implies Bool.not_eq_true' Bool.not_eq_false' Bool.true_eq_false implies_true ne_eq ldI ldIA adI AV.tup.injEq AV.agg.injEq List.cons.injEq AV.int.injEq AV.bool.injEq nodes_inj octs_inj ints_inj nil_nodes nil_octs nil_ints canon_nilL decide_eq_decide two_ne four_ne b256_ne lendA_fn lendA_own lendA_none llendA_fn llendA_none plain_bool plain_int plain_tup2 isNs_own isO_own isS_own isOs_own false_and and_false Q_nil Q_l Q_g Q_h Q_grd qgrdW_b qgrdW_tup lightD_some heavyD_some readD_some fnD_some fnD_own fnD_none callL_f ownH_some callH_f litD_some litE_some Q_call Q_bslice H_call pendOk_nil pendOk_cons pastOk_nil pastOk_cons Q_mv Q_pick Q_bin Q_un Q_convI Q_mkfunc Q_extract Q_min Q_max Q_lenS Q_lenA Q_field Q_idxA Q_mkiface Q_tassert Q_alloc Q_box Q_store Q_mkslice Q_append Q_appendZ Q_copy Q_clear Q_build Q_load Q_nilck Q_isnil Q_convS Q_slice Q_faddr Q_iaddr Q_iaddrA Q_len H_alloc H_box H_bslice H_store H_mkslice H_append H_appendZ H_copy H_clear free_mv free_pick free_bin free_un free_convI free_mkfunc free_extract free_min free_max free_lenS free_lenA free_field free_idxA free_mkiface free_tassert free_build free_load free_nilck free_isnil free_convS free_slice free_faddr free_iaddr free_iaddrA free_len callW_y List.length_map List.length_set leaves_r evR_some evRess1 evRess2 evRess3 evRes_t evRes_c nz_kind nz_enc nz_cred nz_source nz_parent nz_ienc nz_hash nz_un true_or or_true bsl_node idbs_node idbs_int appN appI appO ixo_nodes canon_row canon_rowI canon_rowO not_false_eq_true not_true_eq_false ldE_a ldE_c adE_b stE_b onE_a onP_b bsl_zero idbs_zero appN_zero
attribute [local go_sem low] condW_b grdW_b lgrdW_b ldP adP stP onO onPt
attribute [local simp] envL_cons envL_nil idb_int idb_bool idb_str idb_ints idb_nil idb_own idb_ptr entB_ints' idb_octs entB_octs idb_intss entB_intss idb_octss entB_octss idb_nodes entB_nodes idb_leafA idb_innerA idb_nodeA idb_agg idb_tup idb_iptr idb_fn idb_undef entB_dead entB_box

theorem directWin_spec (x w : Int) (h : IsN x w) : FunWin seat 263 [.int .i64 x, .int .i64 w] 1 1 ((ups x w).map (AV.int .i64)) := by
  have hl := ups_len x w
  have hn : ¬ (ups x w).length = 0 := by rw [ups_step h]; simp
  refine FunWin.of0W told263 (by simp [il263]) (by simp ) (encI64.xs_idb _) ?_
  simp only [il263, List.zipIdx_cons, List.zipIdx_nil, Nat.zero_add]
  refine wpc_soundR [] ?_
  simp -implicitDefEqProofs only [leafA, innerA, nodeA, patchA, Leaf.cells, Inner.cells, Node.cells, decide_true, decide_false, go_sem, Nat.reduceEqDiff, reduceIte, Nat.reduceAdd, Nat.reduceLeDiff, Nat.reduceLT, Nat.reduceSub]
  refine Callee.plain (Callable.of told266) (up_spec x w []) ?_
  rintro _ _ ⟨rfl, rfl⟩
  simp -implicitDefEqProofs only [leafA, innerA, nodeA, patchA, Leaf.cells, Inner.cells, Node.cells, decide_true, decide_false, List.nil_append, List.length_nil, go_sem, Nat.reduceEqDiff, reduceIte, Nat.reduceAdd, Nat.reduceLeDiff, Nat.reduceLT, Nat.reduceSub]
  refine Callee.plain (Callable.of told40) (collectO_spec (ups x w) (by omega) 277 il277 told277 _ _ _ (up1_gives x w 0)) ?_
  rintro r H' (⟨he, rfl⟩ | ⟨rid, v, rfl, hr⟩)
  · exact absurd (by rw [he]; rfl) hn
  · have l0 : rowLen H' (.own rid v 0 (ups x w).length) = some (ups x w).length := by simp [rowLen, own_one hr]
    have s0 : evSlice H' 1 (.own rid v 0 (ups x w).length) (some (.int .i64 1)) none none = some (.own rid v 1 (ups x w).length) := slice_own hr 1 (by omega)
    have m0 : ¬ ((ups x w).length : Int) < 1 := by omega
    simp -implicitDefEqProofs only [leafA, innerA, nodeA, patchA, Leaf.cells, Inner.cells, Node.cells, decide_true, decide_false, l0, Option.bind_some, evMin_int, m0, s0, go_sem, Nat.reduceEqDiff, reduceIte, Nat.reduceAdd, Nat.reduceLeDiff, Nat.reduceLT, Nat.reduceSub]
    exact ⟨rid, v, by simp, hr⟩

/-- A row some of whose elements are made blank. -/
def rowZ (xs : List AV) (L : List Int) : List AV := L.foldl (fun r p => r.set p.toNat zeroA) xs
theorem rowZ_len (xs : List AV) (L : List Int) : (rowZ xs L).length = xs.length := by
  unfold rowZ
  induction L generalizing xs with
  | nil => rfl
  | cons p L ih => rw [List.foldl_cons, ih]; simp
theorem rowZ_mem (L : List Int) : ∀ (xs : List AV) (x : AV), x ∈ rowZ xs L → x ∈ xs ∨ x = zeroA := by
  induction L with
  | nil => intro xs x h; exact .inl h
  | cons p L ih =>
    intro xs x h
    rcases ih (xs.set p.toNat zeroA) x h with h | h
    · exact List.mem_or_eq_of_mem_set h
    · exact .inr h
theorem rowZ_snoc (xs : List AV) (L : List Int) {k : Nat} (hk : k < L.length) : rowZ xs (L.take (k + 1)) = (rowZ xs (L.take k)).set (L[k]).toNat zeroA := by
  unfold rowZ
  rw [List.take_succ_eq_append_getElem hk, List.foldl_append]
  rfl
theorem rowZ_map (f : AV → AV) (g : Node → AV) (hf : ∀ n, f (nodeA n) = g n) (hz : f zeroA = g .zero) (L : List Int) : ∀ t : List Node, (rowZ (t.map nodeA) L).map f = (zeroAt t L).map g := by
  suffices h : ∀ (xs : List AV) (t : List Node), xs.map f = t.map g → (rowZ xs L).map f = (zeroAt t L).map g from fun t => h _ t (by rw [List.map_map]; exact List.map_congr_left fun x _ => hf x)
  induction L with
  | nil => intro xs t h; exact h
  | cons p L ih =>
    intro xs t h
    exact ih (xs.set p.toNat zeroA) (t.set p.toNat .zero) (by rw [List.map_set, List.map_set, h, hz])
theorem zeroA_8 : zeroA.cells.length = 8 := rfl
theorem nodeA_8 (n : Node) : (nodeA n).cells.length = 8 := rfl
theorem rowZ_8 {t : List Node} {L : List Int} {x : AV} (h : x ∈ rowZ (t.map nodeA) L) : ∃ cs, x = .agg cs ∧ cs.length = 8 := by
  rcases rowZ_mem _ _ _ h with h | rfl
  · obtain ⟨n, _, rfl⟩ := List.mem_map.1 h
    exact ⟨_, rfl, nodeA_8 n⟩
  · exact ⟨_, rfl, zeroA_8⟩
theorem ix_rowZ {H : List Entry} {id ver p n : Nat} {xs : List AV} (h : H[id]? = some (.arr 8 ver xs)) (hp : p < xs.length) (hn : n = xs.length) : evIndex H 8 (.own id ver 0 n) (.int .i64 (p : Int)) = some (.eptr id ver p 0) := by
  subst hn
  simp [evIndex, h, hp]
theorem st_rowZ {H : List Entry} {id ver p : Nat} {t : List Node} {L : List Int} (h : H[id]? = some (.arr 8 ver (rowZ (t.map nodeA) L))) (hp : p < t.length) :
    evStore H 8 (.eptr id ver p 0) zeroA = some (H.set id (.arr 8 ver ((rowZ (t.map nodeA) L).set p zeroA))) := by
  have hp' : p < (rowZ (t.map nodeA) L).length := by rw [rowZ_len]; simpa using hp
  obtain ⟨cs, hc, hc8⟩ := rowZ_8 (List.getElem_mem hp')
  have h2 : zeroA.cells.all (AV.oneIn H) = true := rfl
  have h3 : (rowZ (t.map nodeA) L)[p]? = some (.agg cs) := by rw [List.getElem?_eq_getElem hp', hc]
  have h4 : setPart (.agg cs) 0 zeroA = zeroA := by
    simp only [setPart, splice, List.take_zero, List.nil_append, Nat.zero_add, zeroA_8]
    rw [List.drop_of_length_le (by omega), List.append_nil]
    rfl
  have h5 : (AV.agg cs).cells.length = 8 := hc8
  simp only [evStore, zeroA_8, h2, h, h3, h4, h5, true_and, and_self, if_true, show (0 : Nat) < 8 by decide, show 0 + 8 ≤ 8 by decide]
theorem entB_rowZ (n : Nat) (t : List Node) (L : List Int) : EntB n (.arr 8 0 (rowZ (t.map nodeA) L)) := by
  intro x hx y hy
  rcases rowZ_mem _ _ _ hx with h | rfl
  · exact encNode.entB n 0 8 t x h y hy
  · simp only [zeroA, AV.cells, List.mem_cons, List.not_mem_nil, or_false] at hy
    rcases hy with rfl | rfl | rfl | rfl | rfl | rfl | rfl | rfl <;> simp 
theorem canon_rowZ {H : List Entry} {id ver n k : Nat} {t : List Node} {L : List Int} (h : H[id]? = some (.arr 8 ver (rowZ (t.map nodeA) L))) (hn : n = t.length) : canon H (k + 3) (.own id ver 0 n) = nodes (zeroAt t L) := by
  have h2 : (freezeP all H)[id]? = some (.frz 8 ver (rowZ (t.map nodeA) L)) := by rw [freezeP_get, h]; rfl
  have hl : n = (rowZ (t.map nodeA) L).length := by rw [rowZ_len, hn]; simp
  simp only [canon, derefN, h2, hl, Nat.le_refl, and_self, if_true, List.drop_zero, nodes]
  rw [List.take_of_length_le (Nat.le_refl _)]
  congr 1
  exact rowZ_map _ nodeA (fun x => encNode.norm _ _ x) (zeroA_norm _ k) L t

set_option maxRecDepth 100000 in
set_option maxHeartbeats 2000000 in
theorem clear_spec (t : List Node) (i : Int) (ht : Tree.Ok t) : Fun seat 254 [nodes t, .int .i64 i] (.tup [nodes (clearT t i).1, .int .i64 (clearT t i).2]) := by
  have hl := known_len t
  have ok := known_ok ht
  have lk : leaves_ (known t) = leaves_ t := by unfold leaves_; rw [known_known]
  have hc : (known t).length ≤ 4294967295 := by omega
  unfold clearT
  by_cases h0 : i < 0
  · rw [if_pos (.inl h0)]
    refine Fun.of0R [r126, r129] told254 (by simp [il254]) (by simp [idb_patchA]) (by simp [idb_patchA]) 4 ?_
    simp -implicitDefEqProofs only [il254, List.zipIdx_cons, List.zipIdx_nil, leafA, innerA, nodeA, patchA, Leaf.cells, Inner.cells, Node.cells, r126_c, r126_ask, r129_c, r129_ask, decide_true, decide_false, ht, hc, h0, go_sem, Nat.reduceEqDiff, reduceIte, Nat.reduceAdd, Nat.reduceLeDiff, Nat.reduceLT, Nat.reduceSub]
    try exact ⟨rfl, rfl⟩
  by_cases h1 : i ≥ leaves_ t
  · rw [if_pos (.inr h1)]
    refine Fun.of0R [r126, r129, r103] told254 (by simp [il254]) (by simp [idb_patchA]) (by simp [idb_patchA]) 4 ?_
    simp -implicitDefEqProofs only [il254, List.zipIdx_cons, List.zipIdx_nil, leafA, innerA, nodeA, patchA, Leaf.cells, Inner.cells, Node.cells, r126_c, r126_ask, r129_c, r129_ask, r103_c, r103_ask, decide_true, decide_false, ht, hc, h0, ok, lk, h1, go_sem, Nat.reduceEqDiff, reduceIte, Nat.reduceAdd, Nat.reduceLeDiff, Nat.reduceLT, Nat.reduceSub]
    try exact ⟨rfl, rfl⟩
  rw [if_neg (by omega)]
  obtain ⟨a, ha⟩ : ∃ a, known t = a := ⟨_, rfl⟩
  have hsn := known_sane t
  have lv : leaves_ t = (a.length + 1) / 2 := by unfold leaves_; rw [ha]
  rw [ha] at hl ok hc lk hsn ⊢
  have hne : ¬ a.length = 0 := by omega
  have hw : Whole a.length := hsn.2.resolve_left hne
  have hodd : (a.length : Int) % 2 = 1 := by unfold Whole at hw; omega
  have hN : IsN (2 * i) a.length := ⟨hw, by omega, by omega⟩
  have w1 : IntKind.i64.wrap (2 * i) = 2 * i := wrap64 _ (by omega) (by omega)
  refine Fun.of0W told254 (by simp [il254]) (by simp ) (by simp ) 4 ?_
  simp only [il254, List.zipIdx_cons, List.zipIdx_nil, Nat.zero_add]
  refine WP.seqR [] fun K hK => ?_
  simp -implicitDefEqProofs only [leafA, innerA, nodeA, patchA, Leaf.cells, Inner.cells, Node.cells, decide_true, decide_false, go_sem, Nat.reduceEqDiff, reduceIte, Nat.reduceAdd, Nat.reduceLeDiff, Nat.reduceLT, Nat.reduceSub]
  refine hK _ ?_
  clear hK K
  refine WP.seqR [r126, r129] fun K hK => ?_
  simp -implicitDefEqProofs only [leafA, innerA, nodeA, patchA, Leaf.cells, Inner.cells, Node.cells, r126_c, r126_ask, r129_c, r129_ask, decide_true, decide_false, ht, hc, ha, go_sem, Nat.reduceEqDiff, reduceIte, Nat.reduceAdd, Nat.reduceLeDiff, Nat.reduceLT, Nat.reduceSub]
  refine hK _ ?_
  clear hK K
  refine WP.seqR [r103] fun K hK => ?_
  simp -implicitDefEqProofs only [leafA, innerA, nodeA, patchA, Leaf.cells, Inner.cells, Node.cells, r103_c, r103_ask, decide_true, decide_false, h0, h1, ok, lk, go_sem, Nat.reduceEqDiff, reduceIte, Nat.reduceAdd, Nat.reduceLeDiff, Nat.reduceLT, Nat.reduceSub]
  refine hK _ ?_
  clear hK K
  refine WP.weakL [(0, .own 0 0 0 a.length), (1, .int .i64 i)] ?_ ?_
  · simp only [envL_cons, Nat.reduceEqDiff, reduceIte, List.mem_cons, List.not_mem_nil, or_false, forall_eq_or_imp, forall_eq, weak_refl, and_self]
  refine WP.seqV fun K hK => WP.seqV fun K2 hK2 => ?_
  refine WP.regionAt [] 8 ?_
  simp only [List.take_succ_cons, List.take_zero, List.drop_succ_cons, List.drop_zero]
  simp -implicitDefEqProofs only [leafA, innerA, nodeA, patchA, Leaf.cells, Inner.cells, Node.cells, decide_true, decide_false, w1, go_sem, Nat.reduceEqDiff, reduceIte, Nat.reduceAdd, Nat.reduceLeDiff, Nat.reduceLT, Nat.reduceSub]
  refine Callee.plain (Callable.of told263) (directWin_spec (2 * i) a.length hN _) ?_
  rintro _ _ ⟨rfl, rfl⟩
  simp -implicitDefEqProofs only [leafA, innerA, nodeA, patchA, Leaf.cells, Inner.cells, Node.cells, decide_true, decide_false, w1, List.length_map, go_sem, Nat.reduceEqDiff, reduceIte, Nat.reduceAdd, Nat.reduceLeDiff, Nat.reduceLT, Nat.reduceSub]
  have hul := ups_len (2 * i) a.length
  have eL : ((ups (2 * i) a.length).take (ups (2 * i) a.length).length).drop 1 ++ [2 * i] = directI (2 * i) a.length ++ [2 * i] := by rw [List.take_length, List.drop_one]; rfl
  refine SRun.appLo (id := 1) (ver := 0) (lo := 1) (hi := (ups (2 * i) a.length).length) (xs := ups (2 * i) a.length) (ks := [2 * i]) rfl rfl (by simp only [go_sem, Nat.reduceEqDiff, reduceIte, Nat.reduceAdd, Nat.reduceLeDiff, Nat.reduceLT, Nat.reduceSub]) rfl rfl (by simp) (by decide) (by rw [ups_step hN]; simp) (Nat.le_refl _) (by unfold maxRow; simp; omega) ?_
  rw [eL]
  obtain ⟨L, hL⟩ : ∃ L, directI (2 * i) a.length ++ [2 * i] = L := ⟨_, rfl⟩
  have hLi : ∀ p ∈ L, IsN p a.length := by
    intro p hp
    rw [← hL] at hp
    rcases List.mem_append.1 hp with hp | hp
    · exact ups_is (List.mem_of_mem_tail hp)
    · rw [List.mem_singleton.1 hp]; exact hN
  have hLl : L.length ≤ 10 := by rw [← hL, List.length_append]; unfold directI; simp; omega
  rw [hL]
  refine runW_sound (T := []) ?_
  simp -implicitDefEqProofs only [leafA, innerA, nodeA, patchA, Leaf.cells, Inner.cells, Node.cells, decide_true, decide_false, List.set_cons_succ, List.set_cons_zero, go_sem, Nat.reduceEqDiff, reduceIte, Nat.reduceAdd, Nat.reduceLeDiff, Nat.reduceLT, Nat.reduceSub]
  refine hK2 _ ?_
  clear hK2 K2
  refine WP.weakL [(0, .own 0 0 0 a.length), (27, ints L), (28, .int .i64 L.length), (29, .int .i64 0)] ?_ ?_
  · simp only [envL_cons, Nat.reduceEqDiff, reduceIte, List.mem_cons, List.not_mem_nil, or_false, forall_eq_or_imp, forall_eq, weak_refl, and_self]
  refine wpc_soundR [] ?_
  simp -implicitDefEqProofs only [leafA, innerA, nodeA, patchA, Leaf.cells, Inner.cells, Node.cells, decide_true, decide_false, go_sem, Nat.reduceEqDiff, reduceIte, Nat.reduceAdd, Nat.reduceLeDiff, Nat.reduceLT, Nat.reduceSub]
  refine WP.loopG (fun k => k ≤ L.length) (fun k => [(0, .own 0 0 0 a.length), (27, ints L), (28, .int .i64 L.length), (29, .int .i64 (k : Nat))]) (fun k => [.arr 8 0 (rowZ (a.map nodeA) (L.take k)), .dead, .arr 1 0 [.int .i64 (2 * i)]]) (fun k => L.length - k) 0 (Nat.zero_le _)
    (fun k _ => ⟨by simp, by simp , fun e he => by
      simp only [List.mem_cons, List.not_mem_nil, or_false] at he
      rcases he with rfl | rfl | rfl
      · exact entB_rowZ _ _ _
      · trivial
      · exact encI64.entB _ 0 1 [2 * i]⟩) (by simp [rowZ]) ?_
  intro k hk
  refine wpc_soundR [] ?_
  by_cases hlt : (k : Int) < (L.length : Nat)
  · have hk' : k < L.length := by omega
    have hN' := hLi _ (List.getElem_mem hk')
    obtain ⟨p, hp⟩ : ∃ p : Nat, L[k] = p := ⟨L[k].toNat, by have := hN'.2; omega⟩
    rw [hp] at hN'
    have hpa : p < a.length := by have := hN'.2; omega
    have ixp : ∀ e1 e2 : Entry, evIndex [.arr 8 0 (rowZ (a.map nodeA) (L.take k)), e1, e2] 8 (.own 0 0 0 a.length) (.int .i64 (p : Int)) = some (.eptr 0 0 p 0) := fun _ _ => ix_rowZ rfl (by rw [rowZ_len]; simpa using hpa) (by rw [rowZ_len]; simp)
    have stp : ∀ e1 e2 : Entry, evStore [.arr 8 0 (rowZ (a.map nodeA) (L.take k)), e1, e2] 8 (.eptr 0 0 p 0) (.agg [.int .i64 0, .list true [], .list true [], .int .i64 0, .list true [], .list true [], .list true [], .list true []]) =
        some [.arr 8 0 (rowZ (a.map nodeA) (L.take (k + 1))), e1, e2] := fun e1 e2 => by
      have := st_rowZ (H := [.arr 8 0 (rowZ (a.map nodeA) (L.take k)), e1, e2]) (id := 0) (ver := 0) (p := p) rfl hpa
      rw [rowZ_snoc _ _ hk', hp]
      exact this
    simp -implicitDefEqProofs only [leafA, innerA, nodeA, patchA, Leaf.cells, Inner.cells, Node.cells, decide_true, decide_false, hlt, fun H => index_ints H L k hk', hp, ixp, stp, go_sem, Nat.reduceEqDiff, reduceIte, Nat.reduceAdd, Nat.reduceLeDiff, Nat.reduceLT, Nat.reduceSub]
    exact ⟨k + 1, hk', by omega, by simp [wrapS (show k < 9223372036854775807 by omega)]⟩
  · have e : k = L.length := by omega
    subst e
    rw [List.take_length]
    simp -implicitDefEqProofs only [leafA, innerA, nodeA, patchA, Leaf.cells, Inner.cells, Node.cells, decide_true, decide_false, hlt, go_sem, Nat.reduceEqDiff, reduceIte, Nat.reduceAdd, Nat.reduceLeDiff, Nat.reduceLT, Nat.reduceSub]
    refine hK _ (wpc_soundR [] ?_)
    simp -implicitDefEqProofs only [leafA, innerA, nodeA, patchA, Leaf.cells, Inner.cells, Node.cells, decide_true, decide_false, go_sem, Nat.reduceEqDiff, reduceIte, Nat.reduceAdd, Nat.reduceLeDiff, Nat.reduceLT, Nat.reduceSub]
    rw [hL]
    exact canon_rowZ rfl rfl
noncomputable def r254 : Reg seat := .of told254 (ask2 (fun a0' a1' => isNs a0' ∧ isI a1' ∧ Tree.Ok (dNs a0')) fun a0' a1' => .fn (.tup [nodes (clearT (dNs a0') (dI a1')).1, .int .i64 (clearT (dNs a0') (dI a1')).2])) (ask2_ok fun a0' a1' h => SaidOk.fn (Fun.weak (.cons (isNs.weak h.1) (.cons (isI.weak h.2.1) .nil)) (clear_spec _ _ h.2.2)))
theorem r254_c : r254.c = 254 := rfl
open Classical in
theorem r254_ask (a0' a1' : AV) : r254.ask [a0', a1'] = if isNs a0' ∧ isI a1' ∧ Tree.Ok (dNs a0') then some (Said.fn (.tup [nodes (clearT (dNs a0') (dI a1')).1, .int .i64 (clearT (dNs a0') (dI a1')).2])) else none := by unfold r254 Reg.of ask2; exact ite_cl
end Go.Proofs.YtihhinbjhiankaaGreatDoor.Al
