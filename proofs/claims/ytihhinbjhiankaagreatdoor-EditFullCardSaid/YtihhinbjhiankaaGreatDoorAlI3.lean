/-
  SPECS: what gathers the values of an iterator that writes into a box of its own.
-/
import Derived.Test.YtihhinbjhiankaaGreatDoorAlI2
set_option linter.unusedSimpArgs false
set_option linter.unusedVariables false
namespace Go.Proofs.YtihhinbjhiankaaGreatDoor.Al
open Go
attribute [local go_sem] W_mv W_pick W_alloc W_box W_build W_bslice W_load W_store W_nilck W_bin W_isnil W_un W_convI W_convS W_mkiface W_mkfunc W_mkslice W_slice W_faddr W_field W_iaddr W_iaddrA W_idxA W_extract W_len W_lenS W_lenA W_min W_max W_append W_appendZ W_copy W_clear W_tassert W_invoke thenQ_normal thenQ_exit thenQ_goto thenQ_ret blockQ_normal blockQ_ret blockQ_goto blockQ_exit wpc_skip wpc_region wpc_draw wpc_seq wpc_cond wpc_block wpc_exit wpc_goto wpc_label wpc_ret wpc_loop wpc_range wpc_scope condW_true condW_false condW_dec condW_any W_nil W_call resW_some evalOp Opd.ev updo_envL updo_none setL_cons setL_nil envL_cons Option.map_some Option.bind_some evBin evInt List.map_cons List.map_nil Option.pure_def Option.bind_eq_bind W_grd' grdW_tt grdW_ff grdW_tf grdW_ft grdW_tup grdW_dt grdW_df lgrdW_tt lgrdW_ff lgrdW_tf lgrdW_ft lgrdW_tup lgrdW_dt lgrdW_df L_mv L_pick L_alloc L_box L_build L_bslice L_load L_store L_nilck L_bin L_isnil L_un L_convI L_convS L_mkiface L_mkfunc L_mkslice L_slice L_faddr L_field L_iaddr L_iaddrA L_idxA L_extract L_len L_lenS L_lenA L_min L_max L_append L_appendZ L_copy L_clear L_tassert L_nil L_call L_grd lresW_some upd_envL evUn beq_dec bne_dec leaves_ret1 leaves_end1 leaves_ret0 leaves_end0 leaves_ret2 leaves_ret3 rowLen_ints load_iptr0 not_dec heap_get0 heap_get1 heap_set0 heap_set1 heap_len1 heap_len2 heap_app heap_app2 bslice1_int seen_ints seen_one0 seen_one1 seen_one2 rowLen_own0 bslice0_int rowLen_own1 Nat.sub_zero Bool.not_true Bool.not_false List.length_nil List.length_cons List.nil_append List.cons_append Nat.zero_add load_iptrA canon_ptrI canon_bool canon_tup canon_agg canon_leafA canon_innerA canon_nodeA canon_ints' rowLen_ints0 seen_ints0 canon_ints0 rowLen_ints1 seen_ints1 canon_ints1 rowLen_ints2 seen_ints2 canon_ints2 rowLen_ints3 seen_ints3 canon_ints3 rowLen_octs seen_octs canon_octs' szOk_octs rowLen_octs0 seen_octs0 canon_octs0 rowLen_octs1 seen_octs1 canon_octs1 rowLen_octs2 seen_octs2 canon_octs2 rowLen_octs3 seen_octs3 canon_octs3 rowLen_intss seen_intss canon_intss' szOk_intss rowLen_intss0 seen_intss0 canon_intss0 rowLen_intss1 seen_intss1 canon_intss1 rowLen_intss2 seen_intss2 canon_intss2 rowLen_intss3 seen_intss3 canon_intss3 rowLen_octss seen_octss canon_octss' szOk_octss rowLen_octss0 seen_octss0 canon_octss0 rowLen_octss1 seen_octss1 canon_octss1 rowLen_octss2 seen_octss2 canon_octss2 rowLen_octss3 seen_octss3 canon_octss3 rowLen_nodes seen_nodes canon_nodes' szOk_nodes rowLen_nodes0 seen_nodes0 canon_nodes0 rowLen_nodes1 seen_nodes1 canon_nodes1 rowLen_nodes2 seen_nodes2 canon_nodes2 rowLen_nodes3 seen_nodes3 canon_nodes3

/-- The heap of AppendSeq behind k rounds. -/
def SeqO (e : Entry) (l : List Int) (k : Nat) (G : List Entry) : Prop :=
  G[3]? = some e ∧ ((k = 0 ∧ G[2]? = some (.box [.list true []])) ∨ ∃ rid v, 4 ≤ rid ∧ G[2]? = some (.box [.own rid v 0 k]) ∧ G[rid]? = some (.arr 1 v ((l.take k).map (AV.int .i64))))

theorem appendSeqO_spec (l : List Int) (hl : l.length ≤ 4294967295) (c : Nat) (f : IFn) (hc : trFn seat c = some f) (cap : List AV) (st e0 : Entry) (hg : GivesO seat c cap 0 st (l.map fun y => [.int .i64 y])) :
    ACall seat 47 [.list true [], .func (.f c) [] cap] [st, e0] (fun r H' => (l = [] ∧ r = .list true []) ∨ ∃ rid v, r = .own rid v 0 l.length ∧ H'[rid]? = some (.arr 1 v (l.map (AV.int .i64)))) := by
  refine ACall.of_wp told47 (by simp [il47]) (wpc_sound ?_)
  rw [start_env]
  simp only [il47, List.zipIdx_cons, List.zipIdx_nil, Nat.zero_add, go_sem, Nat.reduceEqDiff, reduceIte, Nat.reduceAdd, AV.cells, List.all_cons, List.all_nil, AV.oneIn, Bool.and_self, List.length_nil, List.nil_append]
  refine WP.range (c := c) (first := []) (captured := cap) (by simp only [go_sem, Nat.reduceEqDiff, reduceIte, Nat.reduceAdd]) (Callable.of hc) (fun L hy => ?_)
  simp only [List.nil_append, List.cons_append, List.length_cons, List.length_nil, Nat.zero_add] at hy ⊢
  refine (hg 3 _ (SeqO (L .ready) l) (fun _ => False) rfl ⟨rfl, .inl ⟨rfl, rfl⟩⟩ ?_ ?_).mono ?_
  · rintro k H e ⟨j2, j3⟩
    have hne : ∀ j, j ≠ 0 → (H.set 0 e)[j]? = H[j]? := fun j hj => List.getElem?_set_ne (Ne.symm hj)
    refine ⟨by rw [hne _ (by omega)]; exact j2, ?_⟩
    rcases j3 with ⟨a, j3⟩ | ⟨rid, v, j3, j4, j5⟩
    · exact .inl ⟨a, by rw [hne _ (by omega)]; exact j3⟩
    · exact .inr ⟨rid, v, j3, by rw [hne _ (by omega)]; exact j4, by rw [hne _ (by omega)]; exact j5⟩
  · rintro k hk H1 ⟨j2, j3⟩
    have hk : k < l.length := by simpa using hk
    rw [List.getElem_map]
    refine hy _ _ _ ⟨j2, rfl, fun lp => wpc_sound ?_⟩
    simp only [go_sem, Nat.reduceEqDiff, reduceIte, Nat.reduceAdd, setPs]
    refine ⟨trivial, j2, wpc_sound ?_⟩
    have hn1 : 3 < H1.length := lt_of_get j2
    have hne : ∀ j, j ≠ 3 → (H1.set 3 (L .busy))[j]? = H1[j]? := fun j hj => List.getElem?_set_ne (Ne.symm hj)
    have hbz : (H1.set 3 (L .busy))[3]? = some (L .busy) := List.getElem?_set_self hn1
    have hlen : (H1.set 3 (L .busy)).length = H1.length := by simp
    have hz : (H1.set 3 (L .busy))[0]? = H1[0]? := hne 0 (by omega)
    rcases j3 with ⟨rfl, j3⟩ | ⟨rid, v, j3, j4, j5⟩
    · have g1 : (H1.set 3 (L .busy))[2]? = some (.box [.list true []]) := by rw [hne _ (by omega)]; exact j3
      generalize (H1.set 3 (L .busy)) = G at hne hbz hlen g1 hz
      simp only [load_box g1, go_sem, Nat.reduceEqDiff, reduceIte, Nat.reduceAdd]
      have hgl1 : 3 < G.length := lt_of_get hbz
      have e1 : (G ++ [Entry.arr 1 0 [AV.int .i64 l[0]]] ++ [Entry.arr 1 0 [AV.int .i64 l[0]]])[2]? = some (.box [.list true []]) := by
        rw [List.append_assoc, List.getElem?_append_left (by omega)]; exact g1
      have e2 : (G ++ [Entry.arr 1 0 [AV.int .i64 l[0]]] ++ [Entry.arr 1 0 [AV.int .i64 l[0]]])[(G ++ [Entry.arr 1 0 [AV.int .i64 l[0]]]).length]? = some (.arr 1 0 [AV.int .i64 l[0]]) := by simp
      rw [app_nil_int]
      simp only [resW_some, W_store, evalOp, Opd.ev, updo_envL, setL_cons, setL_nil, envL_cons, Nat.reduceEqDiff, reduceIte, store_box e1 rfl (own_one e2), Option.map_some, updo_none, W_nil, blockQ_normal]
      generalize hm : (G ++ [Entry.arr 1 0 [AV.int .i64 l[0]]] ++ [Entry.arr 1 0 [AV.int .i64 l[0]]]) = M at e1 e2 ⊢
      generalize hrid : (G ++ [Entry.arr 1 0 [AV.int .i64 l[0]]]).length = rid at e2 ⊢
      have hlow : ∀ j, j < G.length → M[j]? = G[j]? := fun j hj => by rw [← hm, List.append_assoc, List.getElem?_append_left hj]
      have hr2 : 4 ≤ rid := by rw [← hrid]; simp; omega
      have hML : rid < M.length := lt_of_get e2
      refine ⟨by rw [List.getElem?_set_ne (by omega), hlow _ hgl1]; exact hbz, .inl ⟨trivial, ?_, ?_, .inr ⟨rid, 0, hr2, ?_, ?_⟩⟩⟩
      · rw [List.getElem?_set_ne (by omega), List.getElem?_set_ne (by omega), hlow _ (by omega), hz]
      · rw [List.getElem?_set_self (by simp; omega)]
      · rw [List.getElem?_set_ne (by omega), List.getElem?_set_self (by omega)]
      · rw [List.getElem?_set_ne (by omega), List.getElem?_set_ne (by omega), e2]
        simp [List.take_succ_eq_append_getElem hk]
    · have hrn : rid ≠ 3 := by omega
      have g1 : (H1.set 3 (L .busy))[2]? = some (.box [.own rid v 0 k]) := by rw [hne _ (by omega)]; exact j4
      have g2 : (H1.set 3 (L .busy))[rid]? = some (.arr 1 v ((l.take k).map (AV.int .i64))) := by rw [hne _ hrn]; exact j5
      generalize (H1.set 3 (L .busy)) = G at hne hbz hlen g1 g2 hz
      have hgl1 : 3 < G.length := lt_of_get hbz
      have hgr : rid < G.length := lt_of_get g2
      have g3 : (G ++ [Entry.arr 1 0 [AV.int .i64 l[k]]])[rid]? = some (.arr 1 v ((l.take k).map (AV.int .i64))) := by rw [List.getElem?_append_left hgr]; exact g2
      have happ := app_own (n := k) (ys := [AV.int .i64 l[k]]) (bytes := 8) g3 (by simp; omega) (by unfold maxRow; simp; omega) (by decide) (by decide) (by simp) (by simp [szOk, AV.cells, AV.oneIn])
      have htk : ((l.take k).map (AV.int .i64)).take k ++ [AV.int .i64 l[k]] = (l.take (k + 1)).map (AV.int .i64) := by
        rw [List.take_of_length_le (by simp; omega), List.take_succ_eq_append_getElem hk, List.map_append, List.map_take]; rfl
      rw [htk] at happ
      have hsn : seen (G ++ [Entry.arr 1 0 [AV.int .i64 l[k]]]) (.own G.length 0 0 1) = some [AV.int .i64 l[k]] := by simp [seen]
      simp only [load_box g1, hsn, go_sem, Nat.reduceEqDiff, reduceIte, Nat.reduceAdd, happ]
      generalize hm : ((G ++ [Entry.arr 1 0 [AV.int .i64 l[k]]]).set rid (.arr 1 (v + 1) ((l.take (k + 1)).map (AV.int .i64)))) = M
      have hlow : ∀ j, j < G.length → j ≠ rid → M[j]? = G[j]? := fun j hj hjr => by rw [← hm, List.getElem?_set_ne (Ne.symm hjr), List.getElem?_append_left hj]
      have e2 : M[rid]? = some (.arr 1 (v + 1) ((l.take (k + 1)).map (AV.int .i64))) := by rw [← hm, List.getElem?_set_self (by simp; omega)]
      have e1 : M[2]? = some (.box [.own rid v 0 k]) := by rw [hlow _ (by omega) (by omega)]; exact g1
      have hML : rid < M.length := lt_of_get e2
      have hML1 : G.length < M.length := by rw [← hm]; simp
      simp only [resW_some, W_store, evalOp, Opd.ev, updo_envL, setL_cons, setL_nil, envL_cons, Nat.reduceEqDiff, reduceIte, store_box e1 rfl (own_one e2), Option.map_some, updo_none, W_nil, blockQ_normal]
      refine ⟨by rw [List.getElem?_set_ne (by omega), hlow _ hgl1 (by omega)]; exact hbz, .inl ⟨trivial, ?_, ?_, .inr ⟨rid, v + 1, j3, ?_, ?_⟩⟩⟩
      · rw [List.getElem?_set_ne (by omega), List.getElem?_set_ne (by omega), hlow _ (by omega) (by omega), hz]
      · rw [List.getElem?_set_self (by simp; omega)]
      · rw [List.getElem?_set_ne (by omega), List.getElem?_set_self (by omega)]
      · rw [List.getElem?_set_ne (by omega), List.getElem?_set_ne (by omega), e2]
  · rintro r H' (⟨j2, j3⟩ | hf)
    · left
      refine ⟨j2, ?_⟩
      have hne : ∀ j, j ≠ 3 → (H'.set 3 .dead)[j]? = H'[j]? := fun j hj => List.getElem?_set_ne (Ne.symm hj)
      rw [List.length_map] at j3
      rcases j3 with ⟨h0, j3⟩ | ⟨rid, v, j3, j4, j5⟩
      · have hl0 : l = [] := List.eq_nil_of_length_eq_zero h0
        subst hl0
        have g1 : (H'.set 3 .dead)[2]? = some (.box [.list true []]) := by rw [hne _ (by omega)]; exact j3
        simp only [go_sem, Nat.reduceEqDiff, reduceIte, Nat.reduceAdd, load_box g1]
        exact .inl ⟨trivial, trivial⟩
      · have g1 : (H'.set 3 .dead)[2]? = some (.box [.own rid v 0 l.length]) := by rw [hne _ (by omega)]; exact j4
        have g2 : (H'.set 3 .dead)[rid]? = some (.arr 1 v ((l.take l.length).map (AV.int .i64))) := by rw [hne _ (by omega)]; exact j5
        rw [List.take_length] at g2
        simp only [go_sem, Nat.reduceEqDiff, reduceIte, Nat.reduceAdd, load_box g1]
        exact .inr ⟨rid, v, rfl, g2⟩
    · exact hf.elim

theorem collectO_spec (l : List Int) (hl : l.length ≤ 4294967295) (c : Nat) (f : IFn) (hc : trFn seat c = some f) (cap : List AV) (st e0 : Entry) (hg : GivesO seat c cap 0 st (l.map fun y => [.int .i64 y])) :
    ACall seat 40 [.func (.f c) [] cap] [st, e0] (fun r H' => (l = [] ∧ r = .list true []) ∨ ∃ rid v, r = .own rid v 0 l.length ∧ H'[rid]? = some (.arr 1 v (l.map (AV.int .i64)))) := by
  refine ACall.of_wp told40 (by simp [il40]) (wpc_sound ?_)
  rw [start_env]
  simp only [il40, List.zipIdx_cons, List.zipIdx_nil, Nat.zero_add, go_sem, Nat.reduceEqDiff, reduceIte, Nat.reduceAdd]
  refine Callee.plain (Callable.of told47) (appendSeqO_spec l hl c f hc cap st e0 hg) ?_
  rintro r H' hr
  simp only [go_sem, Nat.reduceEqDiff, reduceIte, Nat.reduceAdd]
  exact hr

end Go.Proofs.YtihhinbjhiankaaGreatDoor.Al
