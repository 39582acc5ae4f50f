/-
  SPECS: the library's sort and compact, iterators over lists of numbers, and what gathers them.
-/
import Derived.Test.YtihhinbjhiankaaGreatDoorAlP
import Derived.Test.YtihhinbjhiankaaGreatDoorAlIls
import Derived.Test.YtihhinbjhiankaaGreatDoorAlLay
set_option linter.unusedSimpArgs false
set_option linter.unusedVariables false
namespace Go.Proofs.YtihhinbjhiankaaGreatDoor.Al
open Go

theorem mixed : seat.P.follows .mixedOrders = true := by kernel_rfl

theorem args1 {S : Seat} {m : List ME} {I : Nat → Prop} {w : World} {x : AV} {vs : Array Value} (h : Rels S m I w [x] vs) : ∃ v, vs = #[v] ∧ Rel S m I w x v := by
  obtain ⟨h1, h2⟩ := h
  have : vs.size = 1 := h1
  have h3 := h2 0 x rfl
  refine ⟨vs[0], ?_, ?_⟩
  · apply Array.ext
    · simpa using this
    · intro i hi _
      have : i = 0 := by omega
      subst this; rfl
  · rwa [Array.getD_eq_getD_getElem?, Array.getElem?_eq_getElem (by omega)] at h3

theorem rel_tup0 {S : Seat} {m : List ME} {I : Nat → Prop} {w : World} : Rel S m I w (.tup []) (.tuple #[]) := .tup [] #[] rfl (fun i x h => by simp at h)

/-- slices.Sort. -/
theorem sort_spec (l : List Int) {H : List Entry} {id ver : Nat} (hH : H[id]? = some (.arr 1 ver (l.map (AV.int .i64)))) (hl : l.length < 4611686018427387904) :
    ACall seat 41 [.own id ver 0 l.length] H fun r H' => r = .tup [] ∧ H' = H.set id (.arr 1 ver ((sorted l).map (AV.int .i64))) := by
  intro m I X w vs hs hv
  obtain ⟨v, rfl, hw⟩ := args1 hv
  obtain ⟨e, h1, hsz, hver, hcase⟩ := own_ints hs hH hw
  have ef : seat.fn 41 = lays189Ren.f 189 := rfl
  rw [ef]
  rcases hcase with ⟨rfl, a, c, rfl⟩ | ⟨hn, h0, hcap, rfl, hh, hb, arr, T, ha, hasz⟩
  · refine (Any.slices_Sort_int_none lays189At a c w).mono ?_
    rintro e' w' ⟨rfl, rfl⟩
    refine ⟨_, _, _, m, I, rfl, ⟨rfl, rfl⟩, rel_tup0, ?_, .refl m, fun _ hb => hb, .refl I X w'⟩
    have : H.set id (.arr 1 ver ((sorted []).map (AV.int .i64))) = H := set_self (by rw [hH]; simp [sorted])
    rw [this]; exact hs
  · refine (Any.slices_Sort_int lays189At e.blk 0 e.cap l w hh hb hl).mono ?_
    rintro e' w' ⟨rfl, n, os, rfl⟩
    obtain ⟨q1, q2, q3⟩ := hs.putInts (n := n) (os := os) (l' := sorted l) hH h1 hn hsz hver ha hasz (sorted_length l) hcap
    exact ⟨_, _, _, m, I, rfl, ⟨rfl, rfl⟩, rel_tup0, q1, q2, fun _ hb => hb, q3⟩

theorem compact_length (l : List Int) : (Lib.compact l).length ≤ l.length := by
  simp only [Lib.compact, Lib.compactUpTo, List.length_map]
  exact Nat.le_trans (List.length_filter_le _ _) (by simp)

/-- slices.Compact. -/
theorem compact_spec (l : List Int) {H : List Entry} {id ver : Nat} (hH : H[id]? = some (.arr 1 ver (l.map (AV.int .i64)))) :
    ACall seat 24 [.own id ver 0 l.length] H fun r H' => r = .own id ver 0 (Lib.compact l).length ∧ H' = H.set id (.arr 1 ver ((Lib.compact l ++ List.replicate (l.length - (Lib.compact l).length) 0).map (AV.int .i64))) := by
  intro m I X w vs hs hv
  obtain ⟨v, rfl, hw⟩ := args1 hv
  obtain ⟨e, h1, hsz, hver, hcase⟩ := own_ints hs hH hw
  have hle := compact_length l
  have ef : seat.fn 24 = lays220Ren.f 20 := rfl
  rw [ef]
  rcases hcase with ⟨rfl, a, c, rfl⟩ | ⟨hn, h0, hcap, rfl, hh, hb, arr, T, ha, hasz⟩
  · refine (Any.slices_Compact_int_empty lays220At a c w).mono ?_
    rintro e' w' ⟨rfl, rfl⟩
    have : H.set id (.arr 1 ver ((Lib.compact ([] : List Int) ++ List.replicate (([] : List Int).length - (Lib.compact ([] : List Int)).length) 0).map (AV.int .i64))) = H := set_self (by rw [hH]; simp [Lib.compact, Lib.compactUpTo])
    refine ⟨_, _, _, m, I, rfl, ⟨rfl, rfl⟩, ?_, by rw [this]; exact hs, .refl m, fun _ hb => hb, .refl I X w'⟩
    exact hw
  · have hcle : e.cap ≤ 9223372036854775807 := by
      obtain ⟨e', h1', hrow⟩ := hs.hok id _ hH
      rw [h1] at h1'; cases h1'
      exact hrow.2.2.2.1
    refine (Any.slices_Compact_int lays220At e.blk 0 e.cap l w hh (by omega) hcap).mono ?_
    rintro e' w' ⟨rfl, n, rfl⟩
    obtain ⟨q1, q2, q3⟩ := hs.putInts (n := n) (os := #[]) (l' := Lib.compact l ++ List.replicate (l.length - (Lib.compact l).length) 0) hH h1 hn hsz hver ha hasz (by simp; omega) hcap
    rw [Sort.grow_empty] at q1 q3
    refine ⟨_, _, _, m, I, rfl, ⟨rfl, rfl⟩, ?_, q1, q2, fun _ hb => hb, q3⟩
    refine .own id ver 0 _ e _ h1 (by omega) fun _ => ⟨Nat.zero_le _, by omega, .inr ⟨hn, 0, by simp, fun _ => by simp⟩⟩

/-- .. what is left of the row behind it is forgotten. -/
theorem compact_spec' (l : List Int) {H : List Entry} {id ver : Nat} (hH : H[id]? = some (.arr 1 ver (l.map (AV.int .i64)))) :
    ACall seat 24 [.own id ver 0 l.length] H fun r H' => r = .own id ver 0 (Lib.compact l).length ∧ H' = H.set id (.arr 1 ver ((Lib.compact l).map (AV.int .i64))) := by
  refine ACall.shrink (compact_spec l hH) ?_
  rintro _ _ ⟨rfl, rfl⟩
  refine ⟨id, 1, ver, _, (Lib.compact l).length, List.getElem?_set_self (lt_of_get hH), rfl, ?_⟩
  rw [List.set_set, ← List.map_take, List.take_left']
  rfl

end Go.Proofs.YtihhinbjhiankaaGreatDoor.Al
namespace Go.Proofs.YtihhinbjhiankaaGreatDoor.Al
open Go
attribute [local go_sem] W_mv W_pick W_alloc W_box W_build W_bslice W_load W_store W_nilck W_bin W_isnil W_un W_convI W_convS W_mkiface W_mkfunc W_mkslice W_slice W_faddr W_field W_iaddr W_iaddrA W_idxA W_extract W_len W_lenS W_lenA W_min W_max W_append W_appendZ W_copy W_clear W_tassert W_invoke thenQ_normal thenQ_exit thenQ_goto thenQ_ret blockQ_normal blockQ_ret blockQ_goto blockQ_exit wpc_skip wpc_region wpc_draw wpc_seq wpc_cond wpc_block wpc_exit wpc_goto wpc_label wpc_ret wpc_loop wpc_range wpc_scope condW_true condW_false condW_dec condW_any W_nil W_call resW_some evalOp Opd.ev updo_envL updo_none setL_cons setL_nil envL_cons Option.map_some Option.bind_some evBin evInt List.map_cons List.map_nil Option.pure_def Option.bind_eq_bind W_grd' grdW_tt grdW_ff grdW_tf grdW_ft grdW_tup grdW_dt grdW_df lgrdW_tt lgrdW_ff lgrdW_tf lgrdW_ft lgrdW_tup lgrdW_dt lgrdW_df L_mv L_pick L_alloc L_box L_build L_bslice L_load L_store L_nilck L_bin L_isnil L_un L_convI L_convS L_mkiface L_mkfunc L_mkslice L_slice L_faddr L_field L_iaddr L_iaddrA L_idxA L_extract L_len L_lenS L_lenA L_min L_max L_append L_appendZ L_copy L_clear L_tassert L_nil L_call L_grd lresW_some upd_envL evUn beq_dec bne_dec leaves_ret1 leaves_end1 leaves_ret0 leaves_end0 leaves_ret2 leaves_ret3 rowLen_ints load_iptr0 not_dec heap_get0 heap_get1 heap_set0 heap_set1 heap_len1 heap_len2 heap_app heap_app2 bslice1_int seen_ints seen_one0 seen_one1 seen_one2 rowLen_own0 bslice0_int rowLen_own1 Nat.sub_zero Bool.not_true Bool.not_false List.length_nil List.length_cons List.nil_append List.cons_append Nat.zero_add load_iptrA canon_ptrI canon_bool canon_tup canon_agg canon_leafA canon_innerA canon_nodeA canon_ints' rowLen_ints0 seen_ints0 canon_ints0 rowLen_ints1 seen_ints1 canon_ints1 rowLen_ints2 seen_ints2 canon_ints2 rowLen_ints3 seen_ints3 canon_ints3 rowLen_octs seen_octs canon_octs' szOk_octs rowLen_octs0 seen_octs0 canon_octs0 rowLen_octs1 seen_octs1 canon_octs1 rowLen_octs2 seen_octs2 canon_octs2 rowLen_octs3 seen_octs3 canon_octs3 rowLen_intss seen_intss canon_intss' szOk_intss rowLen_intss0 seen_intss0 canon_intss0 rowLen_intss1 seen_intss1 canon_intss1 rowLen_intss2 seen_intss2 canon_intss2 rowLen_intss3 seen_intss3 canon_intss3 rowLen_octss seen_octss canon_octss' szOk_octss rowLen_octss0 seen_octss0 canon_octss0 rowLen_octss1 seen_octss1 canon_octss1 rowLen_octss2 seen_octss2 canon_octss2 rowLen_octss3 seen_octss3 canon_octss3 rowLen_nodes seen_nodes canon_nodes' szOk_nodes rowLen_nodes0 seen_nodes0 canon_nodes0 rowLen_nodes1 seen_nodes1 canon_nodes1 rowLen_nodes2 seen_nodes2 canon_nodes2 rowLen_nodes3 seen_nodes3 canon_nodes3 seen_list cells_int oneIn_int cells_bool oneIn_bool cells_str oneIn_str cells_list oneIn_list cells_func oneIn_func cells_nilfunc oneIn_nilfunc cells_iptr oneIn_iptr cells_iface oneIn_iface cells_nilIface oneIn_nilIface cells_own cells_ptr cells_anybool oneIn_anybool cells_agg oneIn_own0 oneIn_ptr0 seenL0 seenM0 oneIn_own1 oneIn_ptr1 seenL1 seenM1 oneIn_own2 oneIn_ptr2 seenL2 seenM2 oneIn_own3 oneIn_ptr3 seenL3 seenM3 oneIn_own4 oneIn_ptr4 seenL4 seenM4 oneIn_own5 oneIn_ptr5 seenL5 seenM5 cells_ints oneIn_ints cells_octs oneIn_octs cells_intss oneIn_intss cells_octss oneIn_octss cells_nodes oneIn_nodes ldB0 ldA0 adB0 stB0 ldB1 ldA1 adB1 stB1 ldB2 ldA2 adB2 stB2 ldB3 ldA3 adB3 stB3 ldB4 ldA4 adB4 stB4 ldB5 ldA5 adB5 stB5 List.getElem?_cons_zero List.getElem?_cons_succ beq_self_eq_true splice List.take_zero List.take_succ_cons List.drop_zero List.drop_succ_cons List.append_nil List.set_cons_zero List.set_cons_succ List.all_cons List.all_nil Bool.and_self and_self and_true true_and Nat.lt_irrefl Nat.zero_lt_one Nat.le_refl fillA evNil notA Bool.false_eq_true evMin_int evMax_int Option.map_none freezeP_all_nil freezeP_all_cons frzE_box frzE_arr frzE_dead foldA List.foldlM_cons List.foldlM_nil
attribute [local simp] envL_cons envL_nil idb_int idb_bool idb_str idb_ints idb_nil idb_own idb_ptr entB_ints' idb_octs entB_octs idb_intss entB_intss idb_octss entB_octss idb_nodes entB_nodes idb_leafA idb_innerA idb_nodeA idb_agg idb_tup idb_iptr idb_fn idb_undef entB_dead entB_box

/-- slices.Values. -/
theorem values_spec (l : List Int) : Fun seat 26 [ints l] (.func (.f 42) [] [.iptr [ints l] 0]) := by
  refine Fun.of0W told26 (by simp [il26]) (by simp ) (by simp ) 0 ?_
  simp only [il26, List.zipIdx_cons, List.zipIdx_nil, Nat.zero_add, List.map_cons, List.map_nil]
  refine WP.seqS [(0, ints l), (1, .ptr 0 0), (2, .nilfunc)] [.box [ints l]] (by simp only [go_sem, Nat.reduceEqDiff, reduceIte, Nat.reduceAdd, Nat.reduceLeDiff, Nat.reduceLT, Nat.reduceSub]; simp ) ?_
  refine WP.sealB 1 0 rfl rfl ?_
  refine wpc_sound ?_
  simp only [go_sem, Nat.reduceEqDiff, reduceIte, Nat.reduceAdd, Nat.reduceLeDiff, Nat.reduceLT, Nat.reduceSub]
  rfl

end Go.Proofs.YtihhinbjhiankaaGreatDoor.Al
namespace Go.Proofs.YtihhinbjhiankaaGreatDoor.Al
open Go
attribute [local go_sem] W_mv W_pick W_alloc W_box W_build W_bslice W_load W_store W_nilck W_bin W_isnil W_un W_convI W_convS W_mkiface W_mkfunc W_mkslice W_slice W_faddr W_field W_iaddr W_iaddrA W_idxA W_extract W_len W_lenS W_lenA W_min W_max W_append W_appendZ W_copy W_clear W_tassert W_invoke thenQ_normal thenQ_exit thenQ_goto thenQ_ret blockQ_normal blockQ_ret blockQ_goto blockQ_exit wpc_skip wpc_region wpc_draw wpc_seq wpc_cond wpc_block wpc_exit wpc_goto wpc_label wpc_ret wpc_loop wpc_range wpc_scope condW_true condW_false condW_dec condW_any W_nil W_call resW_some evalOp Opd.ev updo_envL updo_none setL_cons setL_nil envL_cons Option.map_some Option.bind_some evBin evInt List.map_cons List.map_nil Option.pure_def Option.bind_eq_bind W_grd' grdW_tt grdW_ff grdW_tf grdW_ft grdW_tup grdW_dt grdW_df lgrdW_tt lgrdW_ff lgrdW_tf lgrdW_ft lgrdW_tup lgrdW_dt lgrdW_df L_mv L_pick L_alloc L_box L_build L_bslice L_load L_store L_nilck L_bin L_isnil L_un L_convI L_convS L_mkiface L_mkfunc L_mkslice L_slice L_faddr L_field L_iaddr L_iaddrA L_idxA L_extract L_len L_lenS L_lenA L_min L_max L_append L_appendZ L_copy L_clear L_tassert L_nil L_call L_grd lresW_some upd_envL evUn beq_dec bne_dec leaves_ret1 leaves_end1 leaves_ret0 leaves_end0 leaves_ret2 leaves_ret3 rowLen_ints load_iptr0 not_dec heap_get0 heap_get1 heap_set0 heap_set1 heap_len1 heap_len2 heap_app heap_app2 bslice1_int seen_ints seen_one0 seen_one1 seen_one2 rowLen_own0 bslice0_int rowLen_own1 Nat.sub_zero Bool.not_true Bool.not_false List.length_nil List.length_cons List.nil_append List.cons_append Nat.zero_add load_iptrA canon_ptrI canon_bool canon_tup canon_agg canon_leafA canon_innerA canon_nodeA canon_ints' rowLen_ints0 seen_ints0 canon_ints0 rowLen_ints1 seen_ints1 canon_ints1 rowLen_ints2 seen_ints2 canon_ints2 rowLen_ints3 seen_ints3 canon_ints3 rowLen_octs seen_octs canon_octs' szOk_octs rowLen_octs0 seen_octs0 canon_octs0 rowLen_octs1 seen_octs1 canon_octs1 rowLen_octs2 seen_octs2 canon_octs2 rowLen_octs3 seen_octs3 canon_octs3 rowLen_intss seen_intss canon_intss' szOk_intss rowLen_intss0 seen_intss0 canon_intss0 rowLen_intss1 seen_intss1 canon_intss1 rowLen_intss2 seen_intss2 canon_intss2 rowLen_intss3 seen_intss3 canon_intss3 rowLen_octss seen_octss canon_octss' szOk_octss rowLen_octss0 seen_octss0 canon_octss0 rowLen_octss1 seen_octss1 canon_octss1 rowLen_octss2 seen_octss2 canon_octss2 rowLen_octss3 seen_octss3 canon_octss3 rowLen_nodes seen_nodes canon_nodes' szOk_nodes rowLen_nodes0 seen_nodes0 canon_nodes0 rowLen_nodes1 seen_nodes1 canon_nodes1 rowLen_nodes2 seen_nodes2 canon_nodes2 rowLen_nodes3 seen_nodes3 canon_nodes3
attribute [local simp] envL_cons envL_nil idb_int idb_bool idb_str idb_ints idb_nil idb_own idb_ptr entB_ints' idb_octs entB_octs idb_intss entB_intss idb_octss entB_octss idb_nodes entB_nodes idb_leafA idb_innerA idb_nodeA idb_agg idb_tup idb_iptr idb_fn idb_undef entB_dead entB_box

theorem valuesIter (l : List Int) (hl : l.length ≤ 9223372036854775807) : Gives seat 42 [.iptr [ints l] 0] (l.map (AV.int .i64)) := by
  intro id H0 J Jx h0 hround
  refine ACall.of_wp told42 (by simp [il42]) (wpc_sound ?_)
  rw [start_env]
  simp only [il42, List.zipIdx_cons, List.zipIdx_nil, Nat.zero_add, List.cons_append, List.nil_append, go_sem, Nat.reduceEqDiff, reduceIte, Nat.reduceAdd]
  refine WP.loopJ (fun k : Nat => [(0, .func (.y id) [] []), (5, ints l), (6, .int .i64 l.length), (7, .int .i64 k)]) (fun k H => k ≤ l.length ∧ J k H) (fun k => l.length - k) 0 (by simp ) ⟨Nat.zero_le _, h0⟩ ?_
  rintro k H ⟨hk, hj⟩
  refine wpc_sound ?_
  simp only [go_sem, Nat.reduceEqDiff, reduceIte, Nat.reduceAdd]
  refine ⟨fun h => ?_, fun h => ?_⟩
  · have hk' : k < l.length := by omega
    simp only [index_ints _ l k hk', wrapS (show k < 9223372036854775807 by omega), go_sem, Nat.reduceEqDiff, reduceIte, Nat.reduceAdd]
    have hr := hround k (by simpa using hk') H hj
    rw [List.getElem_map] at hr
    refine Callee.yld hr ?_
    rintro r H' (⟨rfl, hj'⟩ | ⟨rfl, hx⟩)
    · simp only [go_sem, Nat.reduceEqDiff, reduceIte, Nat.reduceAdd]
      exact ⟨k + 1, ⟨hk', hj'⟩, by omega, by simp [wrapS (show k < 9223372036854775807 by omega)]⟩
    · simp only [go_sem, Nat.reduceEqDiff, reduceIte, Nat.reduceAdd]
      exact .inr hx
  · have hke : k = l.length := by omega
    subst hke
    exact .inl (by simpa using hj)

/-- The heap of AppendSeq behind k rounds. -/
def SeqJ (e : Entry) (l : List Int) (k : Nat) (G : List Entry) : Prop :=
  G[1]? = some e ∧ ((k = 0 ∧ G[0]? = some (.box [.list true []])) ∨ ∃ rid v, 2 ≤ rid ∧ G[0]? = some (.box [.own rid v 0 k]) ∧ G[rid]? = some (.arr 1 v ((l.take k).map (AV.int .i64))))

theorem app_nil_int (H : List Entry) (k : IntKind) (x : Int) : evAppend H 1 8 (.list true []) [.int k x] = some (.own H.length 0 0 1, H ++ [.arr 1 0 [.int k x]]) := by
  simp [evAppend, szOk, AV.cells, AV.oneIn, maxRow]

theorem appendSeq_spec (l : List Int) (hl : l.length ≤ 4294967295) (c : Nat) (f : IFn) (hc : trFn seat c = some f) (cap : List AV) (hcap : ∀ x ∈ cap, Idb 0 x) (hg : Gives seat c cap (l.map (AV.int .i64))) :
    FunOwn seat 47 [.list true [], .func (.f c) [] cap] 1 (l.map (AV.int .i64)) := by
  refine FunOwn.of0W told47 (by simp [il47]) (by simpa  using hcap) (encI64.xs_idb l) (wpc_sound ?_)
  simp only [il47, List.zipIdx_cons, List.zipIdx_nil, Nat.zero_add, go_sem, Nat.reduceEqDiff, reduceIte, Nat.reduceAdd, AV.cells, List.all_cons, List.all_nil, AV.oneIn, Bool.and_self, List.length_nil, List.nil_append]
  refine WP.range (c := c) (first := []) (captured := cap) (by simp only [go_sem, Nat.reduceEqDiff, reduceIte, Nat.reduceAdd]) (Callable.of hc) (fun L hy => ?_)
  simp only [List.nil_append, List.cons_append, List.length_cons, List.length_nil, Nat.zero_add] at hy ⊢
  refine (hg 1 _ (SeqJ (L .ready) l) (fun _ => False) ⟨rfl, .inl ⟨rfl, rfl⟩⟩ ?_).mono ?_
  · rintro k hk H1 ⟨j2, j3⟩
    have hk : k < l.length := by simpa using hk
    rw [List.getElem_map]
    refine hy _ _ _ ⟨j2, rfl, fun lp => wpc_sound ?_⟩
    simp only [go_sem, Nat.reduceEqDiff, reduceIte, Nat.reduceAdd, setPs]
    refine ⟨trivial, j2, wpc_sound ?_⟩
    have hn1 : 1 < H1.length := lt_of_get j2
    have hne : ∀ j, j ≠ 1 → (H1.set 1 (L .busy))[j]? = H1[j]? := fun j hj => List.getElem?_set_ne (Ne.symm hj)
    have hbz : (H1.set 1 (L .busy))[1]? = some (L .busy) := List.getElem?_set_self hn1
    have hlen : (H1.set 1 (L .busy)).length = H1.length := by simp
    rcases j3 with ⟨rfl, j3⟩ | ⟨rid, v, j3, j4, j5⟩
    · have g1 : (H1.set 1 (L .busy))[0]? = some (.box [.list true []]) := by rw [hne _ (by omega)]; exact j3
      generalize (H1.set 1 (L .busy)) = G at hne hbz hlen g1
      simp only [load_box g1, go_sem, Nat.reduceEqDiff, reduceIte, Nat.reduceAdd]
      have hgl1 : 1 < G.length := lt_of_get hbz
      have e1 : (G ++ [Entry.arr 1 0 [AV.int .i64 l[0]]] ++ [Entry.arr 1 0 [AV.int .i64 l[0]]])[0]? = some (.box [.list true []]) := by
        rw [List.append_assoc, List.getElem?_append_left (by omega)]; exact g1
      have e2 : (G ++ [Entry.arr 1 0 [AV.int .i64 l[0]]] ++ [Entry.arr 1 0 [AV.int .i64 l[0]]])[(G ++ [Entry.arr 1 0 [AV.int .i64 l[0]]]).length]? = some (.arr 1 0 [AV.int .i64 l[0]]) := by simp
      rw [app_nil_int]
      simp only [resW_some, W_store, evalOp, Opd.ev, updo_envL, setL_cons, setL_nil, envL_cons, Nat.reduceEqDiff, reduceIte, store_box e1 rfl (own_one e2), Option.map_some, updo_none, W_nil, blockQ_normal]
      generalize hm : (G ++ [Entry.arr 1 0 [AV.int .i64 l[0]]] ++ [Entry.arr 1 0 [AV.int .i64 l[0]]]) = M at e1 e2 ⊢
      generalize hrid : (G ++ [Entry.arr 1 0 [AV.int .i64 l[0]]]).length = rid at e2 ⊢
      have hlow : ∀ j, j < G.length → M[j]? = G[j]? := fun j hj => by rw [← hm, List.append_assoc, List.getElem?_append_left hj]
      have hr2 : 2 ≤ rid := by rw [← hrid]; simp; omega
      have hML : rid < M.length := lt_of_get e2
      refine ⟨by rw [List.getElem?_set_ne (by omega), hlow _ hgl1]; exact hbz, .inl ⟨trivial, ?_, .inr ⟨rid, 0, hr2, ?_, ?_⟩⟩⟩
      · rw [List.getElem?_set_self (by simp; omega)]
      · rw [List.getElem?_set_ne (by omega), List.getElem?_set_self (by omega)]
      · rw [List.getElem?_set_ne (by omega), List.getElem?_set_ne (by omega), e2]
        simp [List.take_succ_eq_append_getElem hk]
    · have hrn : rid ≠ 1 := by omega
      have g1 : (H1.set 1 (L .busy))[0]? = some (.box [.own rid v 0 k]) := by rw [hne _ (by omega)]; exact j4
      have g2 : (H1.set 1 (L .busy))[rid]? = some (.arr 1 v ((l.take k).map (AV.int .i64))) := by rw [hne _ hrn]; exact j5
      generalize (H1.set 1 (L .busy)) = G at hne hbz hlen g1 g2
      have hgl1 : 1 < G.length := lt_of_get hbz
      have hgr : rid < G.length := lt_of_get g2
      have g3 : (G ++ [Entry.arr 1 0 [AV.int .i64 l[k]]])[rid]? = some (.arr 1 v ((l.take k).map (AV.int .i64))) := by rw [List.getElem?_append_left hgr]; exact g2
      have happ := app_own (n := k) (ys := [AV.int .i64 l[k]]) (bytes := 8) g3 (by simp; omega) (by unfold maxRow; simp; omega) (by decide) (by decide) (by simp) (by simp [szOk, AV.cells, AV.oneIn])
      have htk : ((l.take k).map (AV.int .i64)).take k ++ [AV.int .i64 l[k]] = (l.take (k + 1)).map (AV.int .i64) := by
        rw [List.take_of_length_le (by simp; omega), List.take_succ_eq_append_getElem hk, List.map_append, List.map_take]; rfl
      rw [htk] at happ
      have hsn : seen (G ++ [Entry.arr 1 0 [AV.int .i64 l[k]]]) (.own G.length 0 0 1) = some [AV.int .i64 l[k]] := by simp [seen]
      simp only [load_box g1, hsn, go_sem, Nat.reduceEqDiff, reduceIte, Nat.reduceAdd, happ]
      generalize hm : ((G ++ [Entry.arr 1 0 [AV.int .i64 l[k]]]).set rid (.arr 1 (v + 1) ((l.take (k + 1)).map (AV.int .i64)))) = M
      have hlow : ∀ j, j < G.length → j ≠ rid → M[j]? = G[j]? := fun j hj hjr => by rw [← hm, List.getElem?_set_ne (Ne.symm hjr), List.getElem?_append_left hj]
      have e2 : M[rid]? = some (.arr 1 (v + 1) ((l.take (k + 1)).map (AV.int .i64))) := by rw [← hm, List.getElem?_set_self (by simp; omega)]
      have e1 : M[0]? = some (.box [.own rid v 0 k]) := by rw [hlow _ (by omega) (by omega)]; exact g1
      have hML : rid < M.length := lt_of_get e2
      have hML1 : G.length < M.length := by rw [← hm]; simp
      simp only [resW_some, W_store, evalOp, Opd.ev, updo_envL, setL_cons, setL_nil, envL_cons, Nat.reduceEqDiff, reduceIte, store_box e1 rfl (own_one e2), Option.map_some, updo_none, W_nil, blockQ_normal]
      refine ⟨by rw [List.getElem?_set_ne (by omega), hlow _ hgl1 (by omega)]; exact hbz, .inl ⟨trivial, ?_, .inr ⟨rid, v + 1, j3, ?_, ?_⟩⟩⟩
      · rw [List.getElem?_set_self (by simp; omega)]
      · rw [List.getElem?_set_ne (by omega), List.getElem?_set_self (by omega)]
      · rw [List.getElem?_set_ne (by omega), List.getElem?_set_ne (by omega), e2]
  · rintro r H' (⟨j2, j3⟩ | hf)
    · left
      refine ⟨j2, ?_⟩
      have hne : ∀ j, j ≠ 1 → (H'.set 1 .dead)[j]? = H'[j]? := fun j hj => List.getElem?_set_ne (Ne.symm hj)
      rw [List.length_map] at j3
      rcases j3 with ⟨h0, j3⟩ | ⟨rid, v, j3, j4, j5⟩
      · have hl0 : l = [] := List.eq_nil_of_length_eq_zero h0
        subst hl0
        have g1 : (H'.set 1 .dead)[0]? = some (.box [.list true []]) := by rw [hne _ (by omega)]; exact j3
        simp only [go_sem, Nat.reduceEqDiff, reduceIte, Nat.reduceAdd, load_box g1]
        exact .inr ⟨trivial, trivial⟩
      · have g1 : (H'.set 1 .dead)[0]? = some (.box [.own rid v 0 l.length]) := by rw [hne _ (by omega)]; exact j4
        have g2 : (H'.set 1 .dead)[rid]? = some (.arr 1 v ((l.take l.length).map (AV.int .i64))) := by rw [hne _ (by omega)]; exact j5
        rw [List.take_length] at g2
        simp only [go_sem, Nat.reduceEqDiff, reduceIte, Nat.reduceAdd, load_box g1]
        exact .inl ⟨rid, v, by simp, g2⟩
    · exact hf.elim

/-- slices.Collect. -/
theorem collect_spec (l : List Int) (hl : l.length ≤ 4294967295) (c : Nat) (f : IFn) (hc : trFn seat c = some f) (cap : List AV) (hcap : ∀ x ∈ cap, Idb 0 x) (hg : Gives seat c cap (l.map (AV.int .i64))) :
    FunOwn seat 40 [.func (.f c) [] cap] 1 (l.map (AV.int .i64)) := by
  refine FunOwn.of0 told40 (by simp [il40]) (by simpa  using hcap) (encI64.xs_idb l) ?_
  simp only [il40, List.zipIdx_cons, List.zipIdx_nil, Nat.zero_add, go_sem, Nat.reduceEqDiff, reduceIte, Nat.reduceAdd]
  refine Callee.own told47 (appendSeq_spec l hl c f hc cap hcap hg) ?_
  simp only [go_sem, Nat.reduceEqDiff, reduceIte, Nat.reduceAdd]
  exact ⟨_, _, rfl, rfl⟩

/-- slices.Sorted. -/
theorem sortedSeq_spec (l : List Int) (hl : l.length ≤ 4294967295) (c : Nat) (f : IFn) (hc : trFn seat c = some f) (cap : List AV) (hcap : ∀ x ∈ cap, Idb 0 x) (hg : Gives seat c cap (l.map (AV.int .i64))) :
    FunOwn seat 25 [.func (.f c) [] cap] 1 ((sorted l).map (AV.int .i64)) := by
  refine FunOwn.of0 told25 (by simp [il25]) (by simpa  using hcap) (encI64.xs_idb _) ?_
  simp only [il25, List.zipIdx_cons, List.zipIdx_nil, Nat.zero_add, go_sem, Nat.reduceEqDiff, reduceIte, Nat.reduceAdd]
  refine Callee.own told40 (collect_spec l hl c f hc cap hcap hg) ?_
  simp only [go_sem, Nat.reduceEqDiff, reduceIte, Nat.reduceAdd, List.length_map]
  refine Callee.plain (Callable.of told41) (sort_spec l rfl (by omega)) ?_
  rintro _ _ ⟨rfl, rfl⟩
  simp only [go_sem, Nat.reduceEqDiff, reduceIte, Nat.reduceAdd]
  exact ⟨_, _, by rw [sorted_length], rfl⟩

end Go.Proofs.YtihhinbjhiankaaGreatDoor.Al
