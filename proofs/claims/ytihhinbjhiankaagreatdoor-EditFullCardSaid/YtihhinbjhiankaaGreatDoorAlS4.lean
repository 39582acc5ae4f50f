/-
  SPECS: shape.Free, Set, Grow, Trim.
-/
import Derived.Test.YtihhinbjhiankaaGreatDoorAlS3
import Derived.Test.YtihhinbjhiankaaGreatDoorAlP7
set_option linter.unusedSimpArgs false
set_option linter.unusedVariables false
namespace Go.Proofs.YtihhinbjhiankaaGreatDoor.Al
open Go
attribute [local go_sem] W_mv W_pick W_alloc W_box W_build W_bslice W_load W_store W_nilck W_bin W_isnil W_un W_convI W_convS W_mkiface W_mkfunc W_mkslice W_slice W_faddr W_field W_iaddr W_iaddrA W_idxA W_extract W_len W_lenS W_lenA W_min W_max W_append W_appendZ W_copy W_clear W_tassert W_invoke thenQ_normal thenQ_exit thenQ_goto thenQ_ret blockQ_normal blockQ_ret blockQ_goto blockQ_exit wpc_skip wpc_region wpc_draw wpc_seq wpc_cond wpc_block wpc_exit wpc_goto wpc_label wpc_ret wpc_loop wpc_range wpc_scope condW_true condW_false condW_dec condW_any W_nil W_call resW_some evalOp Opd.ev updo_envL updo_none setL_cons setL_nil envL_cons Option.map_some Option.bind_some evBin evInt List.map_cons List.map_nil Option.pure_def Option.bind_eq_bind W_grd' grdW_tt grdW_ff grdW_tf grdW_ft grdW_tup grdW_dt grdW_df lgrdW_tt lgrdW_ff lgrdW_tf lgrdW_ft lgrdW_tup lgrdW_dt lgrdW_df L_mv L_pick L_alloc L_box L_build L_bslice L_load L_store L_nilck L_bin L_isnil L_un L_convI L_convS L_mkiface L_mkfunc L_mkslice L_slice L_faddr L_field L_iaddr L_iaddrA L_idxA L_extract L_len L_lenS L_lenA L_min L_max L_append L_appendZ L_copy L_clear L_tassert L_nil L_call L_grd lresW_some upd_envL evUn beq_dec bne_dec leaves_ret1 leaves_end1 leaves_ret0 leaves_end0 leaves_ret2 leaves_ret3 rowLen_ints load_iptr0 not_dec heap_get0 heap_get1 heap_set0 heap_set1 heap_len1 heap_len2 heap_app heap_app2 bslice1_int seen_ints seen_one0 seen_one1 seen_one2 rowLen_own0 bslice0_int rowLen_own1 Nat.sub_zero Bool.not_true Bool.not_false List.length_nil List.length_cons List.nil_append List.cons_append Nat.zero_add load_iptrA canon_ptrI canon_bool canon_tup canon_agg canon_leafA canon_innerA canon_nodeA canon_ints' rowLen_ints0 seen_ints0 canon_ints0 rowLen_ints1 seen_ints1 canon_ints1 rowLen_ints2 seen_ints2 canon_ints2 rowLen_ints3 seen_ints3 canon_ints3 rowLen_octs seen_octs canon_octs' szOk_octs rowLen_octs0 seen_octs0 canon_octs0 rowLen_octs1 seen_octs1 canon_octs1 rowLen_octs2 seen_octs2 canon_octs2 rowLen_octs3 seen_octs3 canon_octs3 rowLen_intss seen_intss canon_intss' szOk_intss rowLen_intss0 seen_intss0 canon_intss0 rowLen_intss1 seen_intss1 canon_intss1 rowLen_intss2 seen_intss2 canon_intss2 rowLen_intss3 seen_intss3 canon_intss3 rowLen_octss seen_octss canon_octss' szOk_octss rowLen_octss0 seen_octss0 canon_octss0 rowLen_octss1 seen_octss1 canon_octss1 rowLen_octss2 seen_octss2 canon_octss2 rowLen_octss3 seen_octss3 canon_octss3 rowLen_nodes seen_nodes canon_nodes' szOk_nodes rowLen_nodes0 seen_nodes0 canon_nodes0 rowLen_nodes1 seen_nodes1 canon_nodes1 rowLen_nodes2 seen_nodes2 canon_nodes2 rowLen_nodes3 seen_nodes3 canon_nodes3 seen_list cells_int oneIn_int cells_bool oneIn_bool cells_str oneIn_str cells_list oneIn_list cells_func oneIn_func cells_nilfunc oneIn_nilfunc cells_iptr oneIn_iptr cells_iface oneIn_iface cells_nilIface oneIn_nilIface cells_own cells_ptr cells_anybool oneIn_anybool cells_agg oneIn_own0 oneIn_ptr0 seenL0 seenM0 oneIn_own1 oneIn_ptr1 seenL1 seenM1 oneIn_own2 oneIn_ptr2 seenL2 seenM2 oneIn_own3 oneIn_ptr3 seenL3 seenM3 oneIn_own4 oneIn_ptr4 seenL4 seenM4 oneIn_own5 oneIn_ptr5 seenL5 seenM5 cells_ints oneIn_ints cells_octs oneIn_octs cells_intss oneIn_intss cells_octss oneIn_octss cells_nodes oneIn_nodes ldB0 ldA0 adB0 stB0 ldB1 ldA1 adB1 stB1 ldB2 ldA2 adB2 stB2 ldB3 ldA3 adB3 stB3 ldB4 ldA4 adB4 stB4 ldB5 ldA5 adB5 stB5 List.getElem?_cons_zero List.getElem?_cons_succ beq_self_eq_true splice List.take_zero List.take_succ_cons List.drop_zero List.drop_succ_cons List.append_nil List.set_cons_zero List.set_cons_succ List.all_cons List.all_nil Bool.and_self and_self and_true true_and Nat.lt_irrefl Nat.zero_lt_one Nat.le_refl fillA evNil notA Bool.false_eq_true evMin_int evMax_int Option.map_none freezeP_all_nil freezeP_all_cons frzE_box frzE_arr frzE_dead foldA List.foldlM_cons List.foldlM_nil callW_f lcallW_f ansW_fn ansW_own lansW_fn lansW_own ansW_none lansW_none tab_cons tab_nil dI_int dB_bool dO_octs dO_ints dO_list dO_nil dOs_octss dOs_intss dOs_nil dLf_leafA dIn_innerA dN_nodeA dLf_agg dIn_agg dN_agg dNs_nodes dNs_list dNs_nil isI_int isU_int isB_bool isO_octs isO_nil isO_list isS_ints isS_nil isS_list isOs_octss isSs_intss isOs_nil isSs_nil isNs_nodes isNs_list isNs_nil isLf_leafA isIn_innerA isN_nodeA isLf_agg isIn_agg isN_agg leaf_eta inner_eta node_eta leaf_zero inner_zero node_zero dP_patchA dP_agg isP_patchA isP_agg patch_eta decide_eq_true_eq decide_eq_false_iff_not eq_self forall_const true_implies false_implies Bool.not_eq_true' Bool.not_eq_false' Bool.true_eq_false implies_true ne_eq ldI ldIA adI AV.tup.injEq AV.agg.injEq List.cons.injEq AV.int.injEq AV.bool.injEq nodes_inj octs_inj ints_inj nil_nodes nil_octs nil_ints canon_nilL decide_eq_decide two_ne four_ne b256_ne lendA_fn lendA_own lendA_none llendA_fn llendA_none plain_bool plain_int plain_tup2 isNs_own isO_own isS_own isOs_own false_and and_false Q_nil Q_l Q_g Q_h Q_grd qgrdW_b qgrdW_tup lightD_some heavyD_some readD_some fnD_some fnD_own fnD_none callL_f ownH_some callH_f litD_some litE_some Q_call Q_bslice H_call pendOk_nil pendOk_cons pastOk_nil pastOk_cons Q_mv Q_pick Q_bin Q_un Q_convI Q_mkfunc Q_extract Q_min Q_max Q_lenS Q_lenA Q_field Q_idxA Q_mkiface Q_tassert Q_alloc Q_box Q_store Q_mkslice Q_append Q_appendZ Q_copy Q_clear Q_build Q_load Q_nilck Q_isnil Q_convS Q_slice Q_faddr Q_iaddr Q_iaddrA Q_len H_alloc H_box H_bslice H_store H_mkslice H_append H_appendZ H_copy H_clear free_mv free_pick free_bin free_un free_convI free_mkfunc free_extract free_min free_max free_lenS free_lenA free_field free_idxA free_mkiface free_tassert free_build free_load free_nilck free_isnil free_convS free_slice free_faddr free_iaddr free_iaddrA free_len callW_y List.length_map List.length_set leaves_r evR_some evRess1 evRess2 evRess3 evRes_t evRes_c nz_kind nz_enc nz_cred nz_source nz_parent nz_ienc nz_hash nz_un true_or or_true bsl_node idbs_node idbs_int appN appI appO ixo_nodes canon_row canon_rowI canon_rowO not_false_eq_true not_true_eq_false ldE_a ldE_c adE_b stE_b onE_a onP_b bsl_zero idbs_zero appN_zero
attribute [local go_sem low] condW_b grdW_b lgrdW_b ldP adP stP onO onPt
attribute [local simp] envL_cons envL_nil idb_int idb_bool idb_str idb_ints idb_nil idb_own idb_ptr entB_ints' idb_octs entB_octs idb_intss entB_intss idb_octss entB_octss idb_nodes entB_nodes idb_leafA idb_innerA idb_nodeA idb_agg idb_tup idb_iptr idb_fn idb_undef entB_dead entB_box

def zeroA : AV := .agg [.int .i64 0, .list true [], .list true [], .int .i64 0, .list true [], .list true [], .list true [], .list true []]
theorem free_spec (t : List Node) (ht : Tree.Ok t) : Fun seat 102 [nodes t] (.int .i64 (freeT t)) := by
  have hl := known_len t
  have hk0 := known_ok ht
  have c0 : firstN (blankEven (known t)) (known t).length = none → freeT t = -1 := fun h => by rw [freeT, h]
  have c1 : ∀ k : Nat, firstN (blankEven (known t)) (known t).length = some k → freeT t = (k / 2 : Nat) := fun k h => by rw [freeT, h]
  generalize freeT t = r at *
  refine Fun.of0R [r126] told102 (by simp [il102]) (by simp [idb_patchA]) (by simp [idb_patchA]) 4 ?_
  simp only [il102, List.zipIdx_cons, List.zipIdx_nil, leafA, innerA, nodeA, patchA, Leaf.cells, Inner.cells, Node.cells, r126_c, r126_ask, ht, go_sem, Nat.reduceEqDiff, reduceIte, Nat.reduceAdd, Nat.reduceLeDiff, Nat.reduceLT, Nat.reduceSub]
  generalize known t = a at *
  refine WP.loopG (fun k => k ≤ a.length ∧ ∀ j (h : j < a.length), j < k → blankEven a j = false) (fun k => [(6, nodes a), (7, .int .i64 a.length), (8, .int .i64 k)]) (fun k => []) (fun k => a.length - k) 0 ⟨Nat.zero_le _, fun j _ h => absurd h (Nat.not_lt_zero j)⟩ (fun k _ => by simp [idb_patchA]) (by simp ) ?_
  rintro k ⟨hk, hno⟩
  refine wpc_soundR [r127] ?_
  simp only [leafA, innerA, nodeA, patchA, Leaf.cells, Inner.cells, Node.cells, r127_c, r127_ask, go_sem, Nat.reduceEqDiff, reduceIte, Nat.reduceAdd, Nat.reduceLeDiff, Nat.reduceLT, Nat.reduceSub]
  refine ⟨fun hlt => ?_, fun hge => ?_⟩
  · have hk' : k < a.length := by omega
    have e := nodeAt_lt hk'
    simp only [leafA, innerA, nodeA, patchA, Leaf.cells, Inner.cells, Node.cells, r127_c, r127_ask, fun H => ix_nodes H a k hk', rem2 k (by omega), quo2 k (by omega), go_sem, Nat.reduceEqDiff, reduceIte, Nat.reduceAdd, Nat.reduceLeDiff, Nat.reduceLT, Nat.reduceSub]
    have b : blankEven a k = decide (k % 2 = 0 ∧ a[k].kind = 0) := by rw [blankEven, e]
    have st : blankEven a k = true → r = (k / 2 : Nat) := fun h => c1 k (firstN_some hk' h fun j hj => hno j (by omega) hj)
    clear c0 c1
    iterate 12 ((all_goals intros); (all_goals try refine And.intro ?_ ?_))
    all_goals first | (show WP _ _ _ _ _ _ _) | exact ⟨k + 1, ⟨hk', scanS hno fun _ => by grind⟩, by omega, by simp [wrapS (show k < 9223372036854775807 by omega)]⟩ | grind
  · have hno1 := scanE hno hge
    have := c0 (firstN_none fun j hj => hno1 j hj)
    grind
noncomputable def r102 : Reg seat := .of told102 (ask1 (fun a0' => isNs a0' ∧ Tree.Ok (dNs a0')) fun a0' => .fn (.int .i64 (freeT (dNs a0')))) (ask1_ok fun a0' h => SaidOk.fn (Fun.weak (.cons (isNs.weak h.1) .nil) (free_spec _ h.2)))
theorem r102_c : r102.c = 102 := rfl
open Classical in
theorem r102_ask (a0' : AV) : r102.ask [a0'] = if isNs a0' ∧ Tree.Ok (dNs a0') then some (Said.fn (.int .i64 (freeT (dNs a0')))) else none := by unfold r102 Reg.of ask1; exact ite_cl

theorem back_spec (l : List Node) : Fun seat 128 [nodes l] (.func (.f 148) [] [.iptr [nodes l] 0]) := by
  refine Fun.of0W told128 (by simp [il128]) (by simp ) (by simp ) 0 ?_
  simp only [il128, List.zipIdx_cons, List.zipIdx_nil, Nat.zero_add, List.map_cons, List.map_nil]
  refine WP.seqS [(0, nodes l), (1, .ptr 0 0), (2, .nilfunc)] [.box [nodes l]] (by simp only [go_sem, Nat.reduceEqDiff, reduceIte, Nat.reduceAdd, Nat.reduceLeDiff, Nat.reduceLT, Nat.reduceSub]; simp ) ?_
  refine WP.sealB 1 0 rfl rfl ?_
  refine wpc_sound ?_
  simp only [go_sem, Nat.reduceEqDiff, reduceIte, Nat.reduceAdd, Nat.reduceLeDiff, Nat.reduceLT, Nat.reduceSub]
  rfl
noncomputable def r128 : Reg seat := .of told128 (ask1 (fun a0' => isNs a0') fun a0' => .fn (.func (.f 148) [] [.iptr [nodes (dNs a0')] 0])) (ask1_ok fun a0' h => SaidOk.fn (Fun.weak (.cons (isNs.weak h) .nil) (back_spec _)))
theorem r128_c : r128.c = 128 := rfl
open Classical in
theorem r128_ask (a0' : AV) : r128.ask [a0'] = if isNs a0' then some (Said.fn (.func (.f 148) [] [.iptr [nodes (dNs a0')] 0])) else none := by unfold r128 Reg.of ask1; exact ite_cl

/-- Places and nodes, the last one first. -/
def backs (l : List Node) : List (List AV) := (List.range l.length).map fun k => [.int .i64 ((l.length - 1 - k : Nat) : Int), nodeA (nodeAt l (l.length - 1 - k))]
theorem backs_len (l : List Node) : (backs l).length = l.length := by simp [backs]
theorem backs_at (l : List Node) (k : Nat) (h : k < (backs l).length) : (backs l)[k] = [.int .i64 ((l.length - 1 - k : Nat) : Int), nodeA (nodeAt l (l.length - 1 - k))] := by simp [backs]
theorem backIter (l : List Node) (hl : l.length ≤ 9223372036854775807) : GivesL seat 148 [.iptr [nodes l] 0] (backs l) := by
  intro id H0 J Jx h0 hround
  rw [backs_len]
  refine ACall.of_wp told148 (by simp [il148]) (wpc_sound ?_)
  rw [start_env]
  simp only [il148, List.zipIdx_cons, List.zipIdx_nil, go_sem, Nat.reduceEqDiff, reduceIte, Nat.reduceAdd, Nat.reduceLeDiff, Nat.reduceLT, Nat.reduceSub, wrap64s ((l.length : Int) - 1) (by omega)]
  refine WP.loopJ (fun k : Nat => [(0, .func (.y id) [] []), (1, .iptr [nodes l] 0), (3, .int .i64 ((l.length : Int) - 1 - k))]) (fun k H => k ≤ l.length ∧ J k H) (fun k => l.length - k) 0 (by simp) ⟨Nat.zero_le _, h0⟩ ?_
  rintro k H ⟨hk, hj⟩
  refine wpc_sound ?_
  simp only [go_sem, Nat.reduceEqDiff, reduceIte, Nat.reduceAdd, Nat.reduceLeDiff, Nat.reduceLT, Nat.reduceSub]
  refine ⟨fun h => ?_, fun h => ?_⟩
  · have hk' : k < l.length := by omega
    have e : (l.length : Int) - 1 - k = ((l.length - 1 - k : Nat) : Int) := by omega
    have hr := hround k (by rw [backs_len]; exact hk') H hj
    rw [backs_at _ _ (by rw [backs_len]; exact hk'), nodeAt_lt (show l.length - 1 - k < l.length by omega)] at hr
    rw [e]
    simp only [leafA, innerA, nodeA, patchA, Leaf.cells, Inner.cells, Node.cells, fun H => ix_nodes H l (l.length - 1 - k) (by omega), go_sem, Nat.reduceEqDiff, reduceIte, Nat.reduceAdd, Nat.reduceLeDiff, Nat.reduceLT, Nat.reduceSub]
    refine Callee.yld hr ?_
    rintro r H' (⟨rfl, hj'⟩ | ⟨rfl, hx⟩)
    · simp only [go_sem, Nat.reduceEqDiff, reduceIte, Nat.reduceAdd, Nat.reduceLeDiff, Nat.reduceLT, Nat.reduceSub]
      exact ⟨k + 1, ⟨hk', hj'⟩, by omega, by simp [wrap64s (((l.length - 1 - k : Nat) : Int) - 1) (by omega)]; omega⟩
    · simp only [go_sem, Nat.reduceEqDiff, reduceIte, Nat.reduceAdd, Nat.reduceLeDiff, Nat.reduceLT, Nat.reduceSub]
      exact .inr hx
  · have hke : k = l.length := by omega
    subst hke
    exact .inl hj

theorem last_spec (t : List Node) (ht : Tree.Ok t) : Fun seat 104 [nodes t] (.int .i64 (lastT t)) := by
  have hl := known_len t
  have hk0 := known_ok ht
  unfold lastT
  refine Fun.of0R [r126, r128] told104 (by simp [il104]) (by simp [idb_patchA]) (by simp [idb_patchA]) 4 ?_
  simp only [il104, List.zipIdx_cons, List.zipIdx_nil, leafA, innerA, nodeA, patchA, Leaf.cells, Inner.cells, Node.cells, r126_c, r126_ask, r128_c, r128_ask, ht, go_sem, Nat.reduceEqDiff, reduceIte, Nat.reduceAdd, Nat.reduceLeDiff, Nat.reduceLT, Nat.reduceSub]
  generalize known t = a at *
  have hpk : ∀ k, k < (backs a).length → a.length - 1 - k < a.length := fun k h => by rw [backs_len] at h; omega
  refine WP.rangeL (c := 148) (cap := [.iptr [nodes a] 0]) (backs a) (by simp only [go_sem, Nat.reduceEqDiff, reduceIte, Nat.reduceAdd, Nat.reduceLeDiff, Nat.reduceLT, Nat.reduceSub]) (Callable.of told148) (backIter a (by omega)) (fun x hx => by obtain ⟨k, _, rfl⟩ := List.mem_map.1 hx; rfl)
    (fun _ => [.box [.int .i64 0]]) (fun k => ∀ j, a.length - k ≤ j → j < a.length → (nodeAt a j).kind = 0) (fun _ => rfl) (fun j h1 h2 => by omega) rfl ?_ ?_
  · intro k hk hp l T b hb
    have hk' := hpk k hk
    rw [backs_at _ _ hk]
    have e := nodeAt_lt hk'
    generalize hm : a.length - 1 - k = m at *
    have hmk : m < a.length := by omega
    refine wpc_sound ?_
    have g0 := tail_get (G := []) (e := Entry.box [.int .i64 0]) T (.box [.int .i64 0, .list true [], .list true [], .int .i64 0, .list true [], .list true [], .list true [], .list true []])
    simp only [setPs, go_sem, Nat.reduceEqDiff, reduceIte, Nat.reduceAdd, Nat.reduceLeDiff, Nat.reduceLT, Nat.reduceSub, st_node (nodeAt a m) g0 rfl, tail_set (G := []) T]
    refine ⟨_, rfl, fun T' hT' => wpc_soundR [r127] ?_⟩
    have g1 : (Entry.box [.int .i64 0] :: (T' ++ [.box (nodeA (nodeAt a m)).cells]))[T.length + 1]? = some (.box (nodeA (nodeAt a m)).cells) := by rw [← hT']; exact tail_get (G := []) T' _
    simp only [go_sem, Nat.reduceEqDiff, reduceIte, Nat.reduceAdd, Nat.reduceLeDiff, Nat.reduceLT, Nat.reduceSub, ld_node g1, r127_c, r127_ask]
    have hz : (nodeAt a m).kind ≠ 0 → lastN (fun x => decide ¬ (nodeAt a x).kind = 0) a.length = some m := fun h => lastN_some (by simpa using h) hmk fun j h1 h2 => by
      have := hp j (by omega) h2
      simp [this]
    refine ⟨fun h => ?_, fun h => ?_⟩
    · refine ⟨[.box [.int .i64 m]], _, rfl, rfl, fun i hi => List.getElem?_append_left hi, .ret, rfl, fun T3 => ?_⟩
      rw [hz h]
      simp only [go_sem, Nat.reduceEqDiff, reduceIte, Nat.reduceAdd, Nat.reduceLeDiff, Nat.reduceLT, Nat.reduceSub, Jump.leave, optI, List.cons_append, List.nil_append]
    · refine ⟨_, _, rfl, rfl, fun i hi => List.getElem?_append_left hi, fun j h1 h2 => ?_, rfl⟩
      rcases Nat.lt_or_ge m j with h3 | h3
      · exact hp j (by omega) h2
      · obtain rfl : j = m := by omega
        exact Classical.not_not.1 h
  · intro hp T
    simp only [go_sem, Nat.reduceEqDiff, reduceIte, Nat.reduceAdd, Nat.reduceLeDiff, Nat.reduceLT, Nat.reduceSub]
    rw [lastN_none fun j hj => by have := hp j (by rw [backs_len]; omega) hj; simp [this]]
    rfl
noncomputable def r104 : Reg seat := .of told104 (ask1 (fun a0' => isNs a0' ∧ Tree.Ok (dNs a0')) fun a0' => .fn (.int .i64 (lastT (dNs a0')))) (ask1_ok fun a0' h => SaidOk.fn (Fun.weak (.cons (isNs.weak h.1) .nil) (last_spec _ h.2)))
theorem r104_c : r104.c = 104 := rfl
open Classical in
theorem r104_ask (a0' : AV) : r104.ask [a0'] = if isNs a0' ∧ Tree.Ok (dNs a0') then some (Said.fn (.int .i64 (lastT (dNs a0')))) else none := by unfold r104 Reg.of ask1; exact ite_cl

end Go.Proofs.YtihhinbjhiankaaGreatDoor.Al
