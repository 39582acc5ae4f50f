/-
  JOINED: V2, V3, V4, V5, U1, U2, U3, V6, V7
-/
import Derived.Test.YtfifhibajpgpmaaAlV1
import Derived.Test.YtfifhibajpgpmaaAlP
set_option linter.unusedSimpArgs false
set_option linter.unusedVariables false
/- SPECS: numbers as a heap. -/
namespace Go.Proofs.Ytfifhibajpgpmaa.Al
open Go
attribute [local go_sem] W_mv W_pick W_alloc W_box W_build W_bslice W_load W_store W_nilck W_bin W_isnil W_un W_convI W_convS W_mkiface W_mkfunc W_mkslice W_slice W_faddr W_field W_iaddr W_iaddrA W_idxA W_extract W_len W_lenS W_lenA W_min W_max W_append W_appendZ W_copy W_clear W_tassert W_invoke thenQ_normal thenQ_exit thenQ_goto thenQ_ret blockQ_normal blockQ_ret blockQ_goto blockQ_exit wpc_skip wpc_region wpc_draw wpc_seq wpc_cond wpc_block wpc_exit wpc_goto wpc_label wpc_ret wpc_loop wpc_range wpc_scope condW_true condW_false condW_dec condW_any W_nil W_call resW_some evalOp Opd.ev updo_envL updo_none setL_cons setL_nil envL_cons Option.map_some Option.bind_some evBin evInt List.map_cons List.map_nil Option.pure_def Option.bind_eq_bind W_grd' grdW_tt grdW_ff grdW_tf grdW_ft grdW_tup grdW_dt grdW_df lgrdW_tt lgrdW_ff lgrdW_tf lgrdW_ft lgrdW_tup lgrdW_dt lgrdW_df L_mv L_pick L_alloc L_box L_build L_bslice L_load L_store L_nilck L_bin L_isnil L_un L_convI L_convS L_mkiface L_mkfunc L_mkslice L_slice L_faddr L_field L_iaddr L_iaddrA L_idxA L_extract L_len L_lenS L_lenA L_min L_max L_append L_appendZ L_copy L_clear L_tassert L_nil L_call L_grd lresW_some upd_envL evUn beq_dec bne_dec leaves_ret1 leaves_end1 leaves_ret0 leaves_end0 leaves_ret2 leaves_ret3 rowLen_ints load_iptr0 not_dec heap_get0 heap_get1 heap_set0 heap_set1 heap_len1 heap_len2 heap_app heap_app2 bslice1_int seen_ints seen_one0 seen_one1 seen_one2 rowLen_own0 bslice0_int rowLen_own1 Nat.sub_zero Bool.not_true Bool.not_false List.length_nil List.length_cons List.nil_append List.cons_append Nat.zero_add load_iptrA canon_ptrI canon_bool canon_tup canon_agg canon_leafA canon_innerA canon_nodeA canon_ints' rowLen_ints0 seen_ints0 canon_ints0 rowLen_ints1 seen_ints1 canon_ints1 rowLen_ints2 seen_ints2 canon_ints2 rowLen_ints3 seen_ints3 canon_ints3 rowLen_octs seen_octs canon_octs' szOk_octs rowLen_octs0 seen_octs0 canon_octs0 rowLen_octs1 seen_octs1 canon_octs1 rowLen_octs2 seen_octs2 canon_octs2 rowLen_octs3 seen_octs3 canon_octs3 rowLen_intss seen_intss canon_intss' szOk_intss rowLen_intss0 seen_intss0 canon_intss0 rowLen_intss1 seen_intss1 canon_intss1 rowLen_intss2 seen_intss2 canon_intss2 rowLen_intss3 seen_intss3 canon_intss3 rowLen_octss seen_octss canon_octss' szOk_octss rowLen_octss0 seen_octss0 canon_octss0 rowLen_octss1 seen_octss1 canon_octss1 rowLen_octss2 seen_octss2 canon_octss2 rowLen_octss3 seen_octss3 canon_octss3 rowLen_nodes seen_nodes canon_nodes' szOk_nodes rowLen_nodes0 seen_nodes0 canon_nodes0 rowLen_nodes1 seen_nodes1 canon_nodes1 rowLen_nodes2 seen_nodes2 canon_nodes2 rowLen_nodes3 seen_nodes3 canon_nodes3

theorem tyOk_of {P : Program} {t : Nat} {agg : Bool} {n : Nat} (h1 : (P.underlying t).map (fun d => match d with | .struct _ | .array _ _ => true | _ => false) = some agg) (h2 : (P.info? t).map (·.size) = some n) : TyOk P t agg n := by
  obtain ⟨d, hd, e1⟩ := Option.map_eq_some_iff.1 h1
  obtain ⟨i, hi, e2⟩ := Option.map_eq_some_iff.1 h2
  exact ⟨⟨d, hd, e1⟩, ⟨i, hi, e2⟩⟩
theorem ok24 : TyOk seat.P (seat.ty 24) false 1 := tyOk_of (by kernel_rfl) (by kernel_rfl)
theorem methPop : MethP seat 52 "Pop" 87 := fun v w => by kernel_rfl
theorem methPush : MethP seat 52 "Push" 88 := fun v w => by kernel_rfl
theorem methV {name : String} {c : Nat} (h : ∀ a w, (method (seat.P.types.size + Made.depth) (seat.ty 52) (.pointer (some a)) name).run seat.P w = (do let x ← Instr.loadAt (seat.ty 24) (.pointer (some a)); pure (seat.fn c, x) : Sem (FuncId × Value)).run seat.P w) : MethV seat 52 name c false 1 :=
  ⟨seat.ty 24, ok24, fun a w x hx => by rw [h, Sem.run_bind, hx]; rfl⟩
theorem methLen : MethV seat 52 "Len" 84 false 1 := methV fun a w => by kernel_rfl
theorem methLess : MethV seat 52 "Less" 85 false 1 := methV fun a w => by kernel_rfl
theorem methSwap : MethV seat 52 "Swap" 86 false 1 := methV fun a w => by kernel_rfl

theorem Invoked.v {bid c : Nat} {f : IFn} {name : String} {x : AV} {args : List AV} {H : List Entry} {R K : AV → List Entry → Prop} (hm : MethV seat 52 name c false 1) (ht : trFn seat c = some f) (hb : H[bid]? = some (.box [x]))
    (h : ACall seat c (x :: args) H R) (k : ∀ v H', R v H' → K v H') : Invoked seat (.iface 52 (.ptr bid 0)) name args H K :=
  ⟨52, _, c, R, x, rfl, Callable.of ht, .inr ⟨false, 1, hm, load_box hb⟩, h, k⟩
theorem Invoked.p {bid c : Nat} {f : IFn} {name : String} {args : List AV} {H : List Entry} {R K : AV → List Entry → Prop} (hm : MethP seat 52 name c) (ht : trFn seat c = some f)
    (h : ACall seat c (.ptr bid 0 :: args) H R) (k : ∀ v H', R v H' → K v H') : Invoked seat (.iface 52 (.ptr bid 0)) name args H K :=
  ⟨52, _, c, R, _, rfl, Callable.of ht, .inl ⟨hm, rfl⟩, h, k⟩

theorem indexN_own {H : List Entry} {id ver : Nat} {k : Nat} {l : List Int} (h : H[id]? = some (.arr 1 ver (l.map (AV.int .i64)))) (hk : k < l.length) : evIndex H 1 (.own id ver 0 l.length) (.int .i64 (k : Int)) = some (.eptr id ver k 0) := encI64.index_own h hk
theorem loadN_own {H : List Entry} {id ver : Nat} {k : Nat} {l : List Int} (h : H[id]? = some (.arr 1 ver (l.map (AV.int .i64)))) (hk : k < l.length) : evLoad H false 1 (.eptr id ver k 0) = some (.int .i64 (at' l k)) := by
  simp [evLoad, window, h, hk, AV.cells, at_eq]
theorem storeN_own {H : List Entry} {id ver : Nat} {k : Nat} {l : List Int} (x : Int) (h : H[id]? = some (.arr 1 ver (l.map (AV.int .i64)))) (hk : k < l.length) :
    evStore H 1 (.eptr id ver k 0) (.int .i64 x) = some (H.set id (.arr 1 ver ((l.set k x).map (AV.int .i64)))) := by
  simp [evStore, h, hk, AV.cells, AV.oneIn, setPart]

theorem len84_spec (l : List Int) {H : List Entry} {id ver : Nat} (h : H[id]? = some (.arr 1 ver (l.map (AV.int .i64)))) :
    ACall seat 84 [.own id ver 0 l.length] H fun r H' => r = .int .i64 l.length ∧ H' = H := by
  refine ACall.of_wp told84 (by simp [il84]) (wpc_sound ?_)
  rw [start_env]
  simp only [il84, List.zipIdx_cons, List.zipIdx_nil, Nat.zero_add, go_sem, Nat.reduceEqDiff, reduceIte, Nat.reduceAdd, encI64.rowLen_own h]
  exact ⟨trivial, trivial⟩

theorem less85_spec (l : List Int) (i j : Nat) (hi : i < l.length) (hj : j < l.length) {H : List Entry} {id ver : Nat} (h : H[id]? = some (.arr 1 ver (l.map (AV.int .i64)))) :
    ACall seat 85 [.own id ver 0 l.length, .int .i64 i, .int .i64 j] H fun r H' => r = .bool (decide (at' l i < at' l j)) ∧ H' = H := by
  refine ACall.of_wp told85 (by simp [il85]) (wpc_sound ?_)
  rw [start_env]
  simp only [il85, List.zipIdx_cons, List.zipIdx_nil, Nat.zero_add, go_sem, Nat.reduceEqDiff, reduceIte, Nat.reduceAdd]
  refine WP.drawL mixed (by decide) ?_
  simp only [go_sem, Nat.reduceEqDiff, reduceIte, Nat.reduceAdd, indexN_own h hi, indexN_own h hj, loadN_own h hi, loadN_own h hj]
  exact ⟨trivial, trivial⟩

theorem swap86_spec (l : List Int) (i j : Nat) (hi : i < l.length) (hj : j < l.length) {H : List Entry} {id ver : Nat} (h : H[id]? = some (.arr 1 ver (l.map (AV.int .i64)))) :
    ACall seat 86 [.own id ver 0 l.length, .int .i64 i, .int .i64 j] H fun r H' => r = .tup [] ∧ H' = H.set id (.arr 1 ver ((swapL l i j).map (AV.int .i64))) := by
  refine ACall.of_wp told86 (by simp [il86]) ?_
  rw [start_env]
  simp only [il86, List.zipIdx_cons, List.zipIdx_nil, Nat.zero_add, List.map_cons, List.map_nil, Nat.reduceAdd]
  have hid := lt_of_get h
  let H1 := H.set id (.arr 1 ver ((l.set i (at' l j)).map (AV.int .i64)))
  have h1 : H1[id]? = some (.arr 1 ver ((l.set i (at' l j)).map (AV.int .i64))) := List.getElem?_set_self hid
  let H2 := H.set id (.arr 1 ver ((swapL l i j).map (AV.int .i64)))
  have h2 : H2[id]? = some (.arr 1 ver ((swapL l i j).map (AV.int .i64))) := List.getElem?_set_self hid
  let Hs : Nat → List Entry := fun k => if k = 0 then H else if k = 1 then H1 else H2
  have hx : ∀ k (m : Nat), m < l.length → evIndex (Hs k) 1 (.own id ver 0 l.length) (.int .i64 (m : Int)) = some (.eptr id ver m 0) := by
    intro k m hm
    simp only [Hs]
    split
    · exact indexN_own h hm
    · split
      · have := indexN_own h1 (k := m) (by simpa using hm)
        simpa using this
      · have := indexN_own h2 (k := m) (by simpa [swapL_length] using hm)
        simpa [swapL_length] using this
  have hs1 : evStore (Hs 0) 1 (.eptr id ver i 0) (.int .i64 (at' l j)) = some (Hs 1) := storeN_own _ h hi
  have hs2 : evStore (Hs 1) 1 (.eptr id ver j 0) (.int .i64 (at' l i)) = some (Hs 2) := by
    have := storeN_own (at' l i) h1 (k := j) (by simpa using hj)
    simp only [H1, List.set_set] at this
    exact this
  have hl1 : evLoad (Hs 0) false 1 (.eptr id ver j 0) = some (.int .i64 (at' l j)) := loadN_own h hj
  have hl2 : evLoad (Hs 0) false 1 (.eptr id ver i 0) = some (.int .i64 (at' l i)) := loadN_own h hi
  refine WP.drawE mixed [.l, .l, .l, .l, .l, .l, .l, .g 0 0, .l, .l, .l, .g 0 0, .l, .h 0, .l, .h 1] (by decide) Hs 2 (E := envL [(19, .eptr id ver j 0), (18, .eptr id ver i 0), (17, .int .i64 (at' l i)), (16, .eptr id ver i 0), (15, .int .i64 i), (14, .own id ver 0 l.length), (13, .int .i64 (at' l j)), (12, .eptr id ver j 0), (11, .int .i64 j), (10, .own id ver 0 l.length), (9, .int .i64 j), (8, .own id ver 0 l.length), (7, .int .i64 i), (6, .own id ver 0 l.length), (0, .own id ver 0 l.length), (1, .int .i64 i), (2, .int .i64 j)]) rfl ⟨.inl rfl, .tup [], rfl, rfl, rfl⟩ ?_
  iterate 7 (refine .light rfl (fun k _ => (by simp only [evalOp, Opd.ev, envL_cons, Nat.reduceEqDiff, reduceIte, hx k j hj, Option.map_some]; rfl)) ?_; simp only [updo_envL, setL_cons, setL_nil, Nat.reduceEqDiff, reduceIte])
  refine .fixed rfl (Nat.le_refl _) (Nat.le_refl _) (fun k a b => (by have hk0 : k = 0 := (by omega); subst hk0; simp only [evalOp, Opd.ev, envL_cons, Nat.reduceEqDiff, reduceIte, hl1, Option.map_some]; rfl)) ?_; simp only [updo_envL, setL_cons, setL_nil, Nat.reduceEqDiff, reduceIte]
  iterate 3 (refine .light rfl (fun k _ => (by simp only [evalOp, Opd.ev, envL_cons, Nat.reduceEqDiff, reduceIte, hx k i hi, Option.map_some]; rfl)) ?_; simp only [updo_envL, setL_cons, setL_nil, Nat.reduceEqDiff, reduceIte])
  refine .fixed rfl (Nat.le_refl _) (Nat.le_refl _) (fun k a b => (by have hk0 : k = 0 := (by omega); subst hk0; simp only [evalOp, Opd.ev, envL_cons, Nat.reduceEqDiff, reduceIte, hl2, Option.map_some]; rfl)) ?_; simp only [updo_envL, setL_cons, setL_nil, Nat.reduceEqDiff, reduceIte]
  refine .light rfl (fun k _ => (by simp only [evalOp, Opd.ev, envL_cons, Nat.reduceEqDiff, reduceIte, hx k i hi, Option.map_some]; rfl)) ?_; simp only [updo_envL, setL_cons, setL_nil, Nat.reduceEqDiff, reduceIte]
  refine .heavy rfl ((by simp only [evalOp, Opd.ev, envL_cons, Nat.reduceEqDiff, reduceIte, hs1, Option.map_some]; rfl)) ?_; simp only [updo_none]
  refine .light rfl (fun k _ => (by simp only [evalOp, Opd.ev, envL_cons, Nat.reduceEqDiff, reduceIte, hx k j hj, Option.map_some]; rfl)) ?_; simp only [updo_envL, setL_cons, setL_nil, Nat.reduceEqDiff, reduceIte]
  refine .heavy rfl ((by simp only [evalOp, Opd.ev, envL_cons, Nat.reduceEqDiff, reduceIte, hs2, Option.map_some]; rfl)) ?_; simp only [updo_none]
  exact .nil

end Go.Proofs.Ytfifhibajpgpmaa.Al

/- SPECS: container/heap over numbers. -/
namespace Go.Proofs.Ytfifhibajpgpmaa.Al
open Go
attribute [local go_sem] W_mv W_pick W_alloc W_box W_build W_bslice W_load W_store W_nilck W_bin W_isnil W_un W_convI W_convS W_mkiface W_mkfunc W_mkslice W_slice W_faddr W_field W_iaddr W_iaddrA W_idxA W_extract W_len W_lenS W_lenA W_min W_max W_append W_appendZ W_copy W_clear W_tassert W_invoke thenQ_normal thenQ_exit thenQ_goto thenQ_ret blockQ_normal blockQ_ret blockQ_goto blockQ_exit wpc_skip wpc_region wpc_draw wpc_seq wpc_cond wpc_block wpc_exit wpc_goto wpc_label wpc_ret wpc_loop wpc_range wpc_scope condW_true condW_false condW_dec condW_any W_nil W_call resW_some evalOp Opd.ev updo_envL updo_none setL_cons setL_nil envL_cons Option.map_some Option.bind_some evBin evInt List.map_cons List.map_nil Option.pure_def Option.bind_eq_bind W_grd' grdW_tt grdW_ff grdW_tf grdW_ft grdW_tup grdW_dt grdW_df lgrdW_tt lgrdW_ff lgrdW_tf lgrdW_ft lgrdW_tup lgrdW_dt lgrdW_df L_mv L_pick L_alloc L_box L_build L_bslice L_load L_store L_nilck L_bin L_isnil L_un L_convI L_convS L_mkiface L_mkfunc L_mkslice L_slice L_faddr L_field L_iaddr L_iaddrA L_idxA L_extract L_len L_lenS L_lenA L_min L_max L_append L_appendZ L_copy L_clear L_tassert L_nil L_call L_grd lresW_some upd_envL evUn beq_dec bne_dec leaves_ret1 leaves_end1 leaves_ret0 leaves_end0 leaves_ret2 leaves_ret3 rowLen_ints load_iptr0 not_dec heap_get0 heap_get1 heap_set0 heap_set1 heap_len1 heap_len2 heap_app heap_app2 bslice1_int seen_ints seen_one0 seen_one1 seen_one2 rowLen_own0 bslice0_int rowLen_own1 Nat.sub_zero Bool.not_true Bool.not_false List.length_nil List.length_cons List.nil_append List.cons_append Nat.zero_add load_iptrA canon_ptrI canon_bool canon_tup canon_agg canon_leafA canon_innerA canon_nodeA canon_ints' rowLen_ints0 seen_ints0 canon_ints0 rowLen_ints1 seen_ints1 canon_ints1 rowLen_ints2 seen_ints2 canon_ints2 rowLen_ints3 seen_ints3 canon_ints3 rowLen_octs seen_octs canon_octs' szOk_octs rowLen_octs0 seen_octs0 canon_octs0 rowLen_octs1 seen_octs1 canon_octs1 rowLen_octs2 seen_octs2 canon_octs2 rowLen_octs3 seen_octs3 canon_octs3 rowLen_intss seen_intss canon_intss' szOk_intss rowLen_intss0 seen_intss0 canon_intss0 rowLen_intss1 seen_intss1 canon_intss1 rowLen_intss2 seen_intss2 canon_intss2 rowLen_intss3 seen_intss3 canon_intss3 rowLen_octss seen_octss canon_octss' szOk_octss rowLen_octss0 seen_octss0 canon_octss0 rowLen_octss1 seen_octss1 canon_octss1 rowLen_octss2 seen_octss2 canon_octss2 rowLen_octss3 seen_octss3 canon_octss3 rowLen_nodes seen_nodes canon_nodes' szOk_nodes rowLen_nodes0 seen_nodes0 canon_nodes0 rowLen_nodes1 seen_nodes1 canon_nodes1 rowLen_nodes2 seen_nodes2 canon_nodes2 rowLen_nodes3 seen_nodes3 canon_nodes3
attribute [local simp] envL_cons envL_nil idb_int idb_bool idb_str idb_ints idb_nil idb_own idb_ptr entB_ints' idb_octs entB_octs idb_intss entB_intss idb_octss entB_octss idb_nodes entB_nodes idb_leafA idb_innerA idb_nodeA idb_agg idb_tup idb_iptr idb_fn idb_undef entB_dead entB_box

structure HB (H : List Entry) (bid rid ver : Nat) (l : List Int) : Prop where
  box : H[bid]? = some (.box [.own rid ver 0 l.length])
  row : H[rid]? = some (.arr 1 ver (l.map (AV.int .i64)))
def setRow (H : List Entry) (rid ver : Nat) (l : List Int) : List Entry := H.set rid (.arr 1 ver (l.map (AV.int .i64)))
theorem HB.ne {H : List Entry} {bid rid ver : Nat} {l : List Int} (h : HB H bid rid ver l) : bid ≠ rid := fun e => by
  have := h.row; rw [← e, h.box] at this; cases this
theorem HB.set {H : List Entry} {bid rid ver : Nat} {l l' : List Int} (h : HB H bid rid ver l) (hl : l'.length = l.length) : HB (setRow H rid ver l') bid rid ver l' :=
  ⟨by rw [setRow, List.getElem?_set_ne h.ne.symm, hl]; exact h.box, List.getElem?_set_self (lt_of_get h.row)⟩
theorem setRow_setRow (H : List Entry) (rid ver : Nat) (l l' : List Int) : setRow (setRow H rid ver l) rid ver l' = setRow H rid ver l' := by simp [setRow]
theorem HB.self {H : List Entry} {bid rid ver : Nat} {l : List Int} (h : HB H bid rid ver l) : setRow H rid ver l = H := set_self h.row

variable {K : AV → List Entry → Prop}
theorem inv_len {H : List Entry} {bid rid ver : Nat} {l : List Int} (h : HB H bid rid ver l) (k : K (.int .i64 l.length) H) : Invoked seat (.iface 52 (.ptr bid 0)) "Len" [] H K :=
  .v methLen told84 h.box (len84_spec l h.row) (by rintro _ _ ⟨rfl, rfl⟩; exact k)
theorem inv_less {H : List Entry} {bid rid ver : Nat} {l : List Int} (h : HB H bid rid ver l) {i j : Nat} (hi : i < l.length) (hj : j < l.length) (k : K (.bool (decide (at' l i < at' l j))) H) :
    Invoked seat (.iface 52 (.ptr bid 0)) "Less" [.int .i64 i, .int .i64 j] H K :=
  .v methLess told85 h.box (less85_spec l i j hi hj h.row) (by rintro _ _ ⟨rfl, rfl⟩; exact k)
theorem inv_swap {H : List Entry} {bid rid ver : Nat} {l : List Int} (h : HB H bid rid ver l) {i j : Nat} (hi : i < l.length) (hj : j < l.length) (k : K (.tup []) (setRow H rid ver (swapL l i j))) :
    Invoked seat (.iface 52 (.ptr bid 0)) "Swap" [.int .i64 i, .int .i64 j] H K :=
  .v methSwap told86 h.box (swap86_spec l i j hi hj h.row) (by rintro _ _ ⟨rfl, rfl⟩; exact k)

theorem down43_spec (l : List Int) (i0 n : Nat) (hn : n ≤ l.length) (hi0 : i0 ≤ l.length) (hlen : l.length ≤ 4294967296) {H : List Entry} {bid rid ver : Nat} (hb : HB H bid rid ver l) :
    ACall seat 43 [.iface 52 (.ptr bid 0), .int .i64 i0, .int .i64 n] H (fun r H' => r = .bool (decide (i0 < (downF n n l i0).2)) ∧ H' = setRow H rid ver (downF n n l i0).1) := by
  refine ACall.of_wp told43 (by simp [il43]) (wpc_sound ?_)
  rw [start_env]
  simp only [il43, List.zipIdx_cons, List.zipIdx_nil, Nat.zero_add, go_sem, Nat.reduceEqDiff, reduceIte, Nat.reduceAdd]
  refine WP.loopJ (fun a : List Int × Nat => [(0, .iface 52 (.ptr bid 0)), (1, .int .i64 i0), (2, .int .i64 n), (6, .bool false), (7, .int .i64 a.2)])
    (fun a G => G = setRow H rid ver a.1 ∧ a.1.length = l.length ∧ a.2 ≤ l.length ∧ ∃ f, downF n n l i0 = downF n f a.1 a.2 ∧ n - a.2 ≤ f)
    (fun a => n - a.2) (l, i0) (by simp ) ⟨hb.self.symm, rfl, hi0, n, rfl, by omega⟩ ?_
  rintro ⟨s, i⟩ G ⟨rfl, hsl, hil, f, hf, hfn⟩
  simp only at hsl hil hf hfn
  have hb' : HB (setRow H rid ver s) bid rid ver s := hb.set hsl
  have w1 : IntKind.i64.wrap (2 * (i : Int)) = 2 * (i : Int) := wrap64 _ (by omega) (by omega)
  have w2 : IntKind.i64.wrap (2 * (i : Int) + 1) = ((2 * i + 1 : Nat) : Int) := by rw [wrap64 _ (by omega) (by omega)]; omega
  have w3 : IntKind.i64.wrap (((2 * i + 1 : Nat) : Int) + 1) = ((2 * i + 2 : Nat) : Int) := by rw [wrap64 _ (by omega) (by omega)]; omega
  -- the end
  have fin : downF n f s i = (s, i) → AV.bool (decide ((i : Int) > (i0 : Int))) = .bool (decide (i0 < (downF n n l i0).2)) ∧ setRow H rid ver s = setRow H rid ver (downF n n l i0).1 := by
    intro e
    rw [hf, e]
    exact ⟨by congr 1; simp, rfl⟩
  have stop : ¬ (2 * i + 1 < n) → downF n f s i = (s, i) := by
    intro h
    cases f with
    | zero => rfl
    | succ f => unfold downF; rw [if_pos (by omega)]
  have less : ∀ c, 2 * i + 1 < n → lesser n s i = c → ¬ (at' s c < at' s i) → downF n f s i = (s, i) := by
    intro c h hc hlt
    cases f with
    | zero => rfl
    | succ f => unfold downF; rw [if_neg (by omega), hc, if_neg hlt]
  have more : ∀ c, 2 * i + 1 < n → lesser n s i = c → at' s c < at' s i → (setRow H rid ver (swapL s i c) = setRow H rid ver (swapL s i c) ∧ (swapL s i c).length = l.length ∧ c ≤ l.length ∧ ∃ f, downF n n l i0 = downF n f (swapL s i c) c ∧ n - c ≤ f) := by
    intro c h hc hlt
    have hcn : c < n := by rw [← hc]; exact lesser_lt h
    have hic : i < c := by rcases lesser_cases n s i with e | e <;> omega
    cases f with
    | zero => omega
    | succ f =>
      refine ⟨rfl, by rw [swapL_length]; exact hsl, by omega, f, ?_, by omega⟩
      rw [hf]
      conv => lhs; unfold downF
      rw [if_neg (by omega), hc, if_pos hlt]
  refine wpc_sound ?_
  simp only [go_sem, Nat.reduceEqDiff, reduceIte, Nat.reduceAdd, w1, w2]
  refine ⟨fun hlt => ⟨fun h0 => by omega, fun _ => ⟨fun hj2 => ?_, fun hj2 => ?_⟩⟩, fun hge => fin (stop (by omega))⟩
  · rw [w3] at hj2 ⊢
    refine inv_less hb' (by omega) (by omega) ?_
    simp only [go_sem, Nat.reduceEqDiff, reduceIte, Nat.reduceAdd]
    refine ⟨fun hless => ?_, fun hless => ?_⟩
    · have hc : lesser n s i = 2 * i + 2 := by unfold lesser; rw [if_pos ⟨by omega, hless⟩]
      refine inv_less hb' (by omega) (by omega) ?_
      simp only [go_sem, Nat.reduceEqDiff, reduceIte, Nat.reduceAdd]
      refine ⟨fun hno => fin (less _ (by omega) hc hno), fun hyes => ?_⟩
      refine inv_swap hb' (by omega) (by omega) ?_
      simp only [go_sem, Nat.reduceEqDiff, reduceIte, Nat.reduceAdd, setRow_setRow]
      exact ⟨(_, 2 * i + 2), more _ (by omega) hc (by omega), by simp; omega, by simp ⟩
    · have hc : lesser n s i = 2 * i + 1 := by unfold lesser; rw [if_neg (fun h => hless h.2)]
      refine inv_less hb' (by omega) (by omega) ?_
      simp only [go_sem, Nat.reduceEqDiff, reduceIte, Nat.reduceAdd]
      refine ⟨fun hno => fin (less _ (by omega) hc hno), fun hyes => ?_⟩
      refine inv_swap hb' (by omega) (by omega) ?_
      simp only [go_sem, Nat.reduceEqDiff, reduceIte, Nat.reduceAdd, setRow_setRow]
      exact ⟨(_, 2 * i + 1), more _ (by omega) hc (by omega), by simp; omega, by simp ⟩
  · have hc : lesser n s i = 2 * i + 1 := by unfold lesser; rw [if_neg (fun h => by omega)]
    refine inv_less hb' (by omega) (by omega) ?_
    simp only [go_sem, Nat.reduceEqDiff, reduceIte, Nat.reduceAdd]
    refine ⟨fun hno => fin (less _ (by omega) hc hno), fun hyes => ?_⟩
    refine inv_swap hb' (by omega) (by omega) ?_
    simp only [go_sem, Nat.reduceEqDiff, reduceIte, Nat.reduceAdd, setRow_setRow]
    exact ⟨(_, 2 * i + 1), more _ (by omega) hc (by omega), by simp; omega, by simp ⟩
end Go.Proofs.Ytfifhibajpgpmaa.Al

/- SPECS: container/heap over numbers: up, Init, Push, Pop, Remove. -/
namespace Go.Proofs.Ytfifhibajpgpmaa.Al
open Go
attribute [local go_sem] W_mv W_pick W_alloc W_box W_build W_bslice W_load W_store W_nilck W_bin W_isnil W_un W_convI W_convS W_mkiface W_mkfunc W_mkslice W_slice W_faddr W_field W_iaddr W_iaddrA W_idxA W_extract W_len W_lenS W_lenA W_min W_max W_append W_appendZ W_copy W_clear W_tassert W_invoke thenQ_normal thenQ_exit thenQ_goto thenQ_ret blockQ_normal blockQ_ret blockQ_goto blockQ_exit wpc_skip wpc_region wpc_draw wpc_seq wpc_cond wpc_block wpc_exit wpc_goto wpc_label wpc_ret wpc_loop wpc_range wpc_scope condW_true condW_false condW_dec condW_any W_nil W_call resW_some evalOp Opd.ev updo_envL updo_none setL_cons setL_nil envL_cons Option.map_some Option.bind_some evBin evInt List.map_cons List.map_nil Option.pure_def Option.bind_eq_bind W_grd' grdW_tt grdW_ff grdW_tf grdW_ft grdW_tup grdW_dt grdW_df lgrdW_tt lgrdW_ff lgrdW_tf lgrdW_ft lgrdW_tup lgrdW_dt lgrdW_df L_mv L_pick L_alloc L_box L_build L_bslice L_load L_store L_nilck L_bin L_isnil L_un L_convI L_convS L_mkiface L_mkfunc L_mkslice L_slice L_faddr L_field L_iaddr L_iaddrA L_idxA L_extract L_len L_lenS L_lenA L_min L_max L_append L_appendZ L_copy L_clear L_tassert L_nil L_call L_grd lresW_some upd_envL evUn beq_dec bne_dec leaves_ret1 leaves_end1 leaves_ret0 leaves_end0 leaves_ret2 leaves_ret3 rowLen_ints load_iptr0 not_dec heap_get0 heap_get1 heap_set0 heap_set1 heap_len1 heap_len2 heap_app heap_app2 bslice1_int seen_ints seen_one0 seen_one1 seen_one2 rowLen_own0 bslice0_int rowLen_own1 Nat.sub_zero Bool.not_true Bool.not_false List.length_nil List.length_cons List.nil_append List.cons_append Nat.zero_add load_iptrA canon_ptrI canon_bool canon_tup canon_agg canon_leafA canon_innerA canon_nodeA canon_ints' rowLen_ints0 seen_ints0 canon_ints0 rowLen_ints1 seen_ints1 canon_ints1 rowLen_ints2 seen_ints2 canon_ints2 rowLen_ints3 seen_ints3 canon_ints3 rowLen_octs seen_octs canon_octs' szOk_octs rowLen_octs0 seen_octs0 canon_octs0 rowLen_octs1 seen_octs1 canon_octs1 rowLen_octs2 seen_octs2 canon_octs2 rowLen_octs3 seen_octs3 canon_octs3 rowLen_intss seen_intss canon_intss' szOk_intss rowLen_intss0 seen_intss0 canon_intss0 rowLen_intss1 seen_intss1 canon_intss1 rowLen_intss2 seen_intss2 canon_intss2 rowLen_intss3 seen_intss3 canon_intss3 rowLen_octss seen_octss canon_octss' szOk_octss rowLen_octss0 seen_octss0 canon_octss0 rowLen_octss1 seen_octss1 canon_octss1 rowLen_octss2 seen_octss2 canon_octss2 rowLen_octss3 seen_octss3 canon_octss3 rowLen_nodes seen_nodes canon_nodes' szOk_nodes rowLen_nodes0 seen_nodes0 canon_nodes0 rowLen_nodes1 seen_nodes1 canon_nodes1 rowLen_nodes2 seen_nodes2 canon_nodes2 rowLen_nodes3 seen_nodes3 canon_nodes3
attribute [local simp] envL_cons envL_nil idb_int idb_bool idb_str idb_ints idb_nil idb_own idb_ptr entB_ints' idb_octs entB_octs idb_intss entB_intss idb_octss entB_octss idb_nodes entB_nodes idb_leafA idb_innerA idb_nodeA idb_agg idb_tup idb_iptr idb_fn idb_undef entB_dead entB_box

theorem tdiv_par (j : Nat) : ((j : Int) - 1).tdiv 2 = (par j : Int) := by
  unfold par
  rcases Nat.eq_zero_or_pos j with h | h
  · subst h; rfl
  · rw [show (j : Int) - 1 = ((j - 1 : Nat) : Int) by omega]; rfl

theorem up46_spec (l : List Int) (j0 : Nat) (hj0 : j0 < l.length) (hlen : l.length ≤ 4294967296) {H : List Entry} {bid rid ver : Nat} (hb : HB H bid rid ver l) :
    ACall seat 46 [.iface 52 (.ptr bid 0), .int .i64 j0] H (fun r H' => r = .tup [] ∧ H' = setRow H rid ver (upF j0 l j0)) := by
  refine ACall.of_wp told46 (by simp [il46]) (wpc_sound ?_)
  rw [start_env]
  simp only [il46, List.zipIdx_cons, List.zipIdx_nil, Nat.zero_add, go_sem, Nat.reduceEqDiff, reduceIte, Nat.reduceAdd]
  refine WP.loopJ (fun a : List Int × Nat => [(0, .iface 52 (.ptr bid 0)), (1, .int .i64 a.2)])
    (fun a G => G = setRow H rid ver a.1 ∧ a.1.length = l.length ∧ a.2 < l.length ∧ ∃ f, upF j0 l j0 = upF f a.1 a.2 ∧ a.2 ≤ f)
    (fun a => a.2) (l, j0) (by simp ) ⟨hb.self.symm, rfl, hj0, j0, rfl, Nat.le_refl _⟩ ?_
  rintro ⟨s, j⟩ G ⟨rfl, hsl, hjn, f, hf, hfn⟩
  simp only at hsl hjn hf hfn
  have hb' : HB (setRow H rid ver s) bid rid ver s := hb.set hsl
  have w1 : IntKind.i64.wrap ((j : Int) - 1) = (j : Int) - 1 := wrap64 _ (by omega) (by omega)
  have hpj : par j ≤ j := by unfold par; omega
  have w2 : IntKind.i64.wrap ((par j : Nat) : Int) = ((par j : Nat) : Int) := wrap64 _ (by omega) (by omega)
  have fin : ¬ at' s j < at' s (par j) → setRow H rid ver s = setRow H rid ver (upF j0 l j0) := by
    intro h
    rw [hf]
    cases f with
    | zero => rfl
    | succ f => unfold upF; rw [if_neg h]
  refine wpc_sound ?_
  simp only [go_sem, Nat.reduceEqDiff, reduceIte, Nat.reduceAdd, w1, tdiv_par, w2, Int.reduceEq, reduceIte]
  refine ⟨fun hne => ?_, fun he => ?_⟩
  · have hj0 : 0 < j := by
      rcases Nat.eq_zero_or_pos j with h | h
      · subst h; exact absurd rfl hne
      · exact h
    have hp := par_lt hj0
    refine inv_less hb' (by omega) (by omega) ?_
    simp only [go_sem, Nat.reduceEqDiff, reduceIte, Nat.reduceAdd]
    refine ⟨fun hno => ?_, fun hyes => ?_⟩
    · exact ⟨trivial, fin hno⟩
    · refine inv_swap hb' (by omega) (by omega) ?_
      simp only [go_sem, Nat.reduceEqDiff, reduceIte, Nat.reduceAdd, setRow_setRow]
      cases f with
      | zero => omega
      | succ f =>
        refine ⟨(swapL s (par j) j, par j), ⟨rfl, by rw [swapL_length]; exact hsl, by omega, f, ?_, by omega⟩, by simpa using hp, by simp ⟩
        rw [hf]
        conv => lhs; unfold upF
        rw [if_pos (by omega)]
  · refine ⟨trivial, fin ?_⟩
    have : par j = j := by omega
    rw [this]; omega

theorem init27_spec (l : List Int) (hlen : l.length ≤ 4294967296) (hh : HeapN l.length l) {H : List Entry} {bid rid ver : Nat} (hb : HB H bid rid ver l) :
    ACall seat 27 [.iface 52 (.ptr bid 0)] H (fun r H' => r = .tup [] ∧ H' = H) := by
  refine ACall.of_wp told27 (by simp [il27]) (wpc_sound ?_)
  rw [start_env]
  simp only [il27, List.zipIdx_cons, List.zipIdx_nil, Nat.zero_add, go_sem, Nat.reduceEqDiff, reduceIte, Nat.reduceAdd]
  refine inv_len hb ?_
  simp only [go_sem, Nat.reduceEqDiff, reduceIte, Nat.reduceAdd, Int.reduceEq, reduceIte]
  have h2 : (l.length : Int).tdiv 2 = ((l.length / 2 : Nat) : Int) := rfl
  have w1 : IntKind.i64.wrap ((l.length : Int).tdiv 2) = ((l.length / 2 : Nat) : Int) := by rw [h2]; exact wrap64 _ (by omega) (by omega)
  have w2 : IntKind.i64.wrap (((l.length / 2 : Nat) : Int) - 1) = ((l.length / 2 : Nat) : Int) - 1 := wrap64 _ (by omega) (by omega)
  simp only [w1, w2]
  refine WP.loopJ (fun a : Nat => [(0, .iface 52 (.ptr bid 0)), (2, .int .i64 l.length), (3, .int .i64 ((a : Int) - 1))]) (fun a G => G = H ∧ a ≤ l.length / 2) (fun a => a) (l.length / 2) (by simp ) ⟨rfl, Nat.le_refl _⟩ ?_
  rintro a G ⟨rfl, ha⟩
  refine wpc_sound ?_
  simp only [go_sem, Nat.reduceEqDiff, reduceIte, Nat.reduceAdd]
  refine ⟨fun hge => ?_, fun hlt => by simp⟩
  have e : (a : Int) - 1 = ((a - 1 : Nat) : Int) := by omega
  rw [e]
  have hole : Hole l.length l (a - 1) := ⟨fun j h0 hj _ _ => hh j h0 hj, fun h0 c hc0 hc hp => by
    have := hh (a - 1) h0 (by omega)
    have := hh c hc0 hc
    rw [hp] at this; omega⟩
  have hst : downF l.length l.length l (a - 1) = (l, a - 1) := by
    cases hl : l.length with
    | zero => rfl
    | succ f =>
      unfold downF
      split
      · rfl
      · rename_i h1
        rw [if_neg]
        rw [← hl] at h1 ⊢
        have hc := lesser_lt (l := l) (show 2 * (a - 1) + 1 < l.length by omega)
        have := hh (lesser l.length l (a - 1)) (by rcases lesser_cases l.length l (a - 1) with h | h <;> omega) hc
        rw [par_lesser] at this
        omega
  refine Callee.plain (Callable.of told43) (down43_spec l (a - 1) l.length (Nat.le_refl _) (by omega) hlen hb) ?_
  rintro _ _ ⟨rfl, rfl⟩
  rw [hst, hb.self]
  have w3 : IntKind.i64.wrap (((a - 1 : Nat) : Int) - 1) = ((a - 1 : Nat) : Int) - 1 := wrap64 _ (by omega) (by omega)
  simp only [go_sem, Nat.reduceEqDiff, reduceIte, Nat.reduceAdd, w3]
  exact ⟨a - 1, ⟨trivial, by omega⟩, by omega, by simp ⟩

theorem tassert_int (x : Int) : (match AV.iface 3 (.int .i64 x) with | .iface t' v => if t' = 3 then some (v, ([] : List Entry)) else none | _ => none) = some (.int .i64 x, []) := rfl

/-- What (*numbers).Push leaves: a new row behind, the box with the longer one. -/
theorem push88_spec (l : List Int) (x : Int) (hlen : l.length + 1 ≤ 4294967295) {H : List Entry} {bid rid ver : Nat} (hb : HB H bid rid ver l) :
    ACall seat 88 [.ptr bid 0, .iface 3 (.int .i64 x)] H (fun r H' => r = .tup [] ∧ H'.length = H.length + 1 ∧ HB H' bid rid (ver + 1) (l ++ [x]) ∧ ∀ j, j < H.length → j ≠ bid → j ≠ rid → H'[j]? = H[j]?) := by
  refine ACall.of_wp told88 (by simp [il88]) ?_
  rw [start_env]
  simp only [il88, List.zipIdx_cons, List.zipIdx_nil, Nat.zero_add, List.map_cons, List.map_nil, Nat.reduceAdd]
  have hbl := lt_of_get hb.box
  have hrl := lt_of_get hb.row
  let H1 := H ++ [Entry.arr 1 0 [.int .i64 x]]
  have r1 : H1[rid]? = some (.arr 1 ver (l.map (AV.int .i64))) := by simp only [H1]; rw [List.getElem?_append_left hrl]; exact hb.row
  have b1 : H1[bid]? = some (.box [.own rid ver 0 l.length]) := by simp only [H1]; rw [List.getElem?_append_left hbl]; exact hb.box
  let H2 := H1.set rid (.arr 1 (ver + 1) ((l ++ [x]).map (AV.int .i64)))
  have r2 : H2[rid]? = some (.arr 1 (ver + 1) ((l ++ [x]).map (AV.int .i64))) := List.getElem?_set_self (lt_of_get r1)
  have b2 : H2[bid]? = some (.box [.own rid ver 0 l.length]) := by simp only [H2]; rw [List.getElem?_set_ne hb.ne.symm]; exact b1
  let H3 := H2.set bid (.box [.own rid (ver + 1) 0 (l ++ [x]).length])
  let Hs : Nat → List Entry := fun k => if k = 0 then H else if k = 1 then H1 else if k = 2 then H2 else H3
  have box : ∀ k, ∃ y, (Hs k)[bid]? = some (.box [y]) := by
    intro k
    simp only [Hs]
    split
    · exact ⟨_, hb.box⟩
    split
    · exact ⟨_, b1⟩
    split
    · exact ⟨_, b2⟩
    · exact ⟨_, List.getElem?_set_self (lt_of_get b2)⟩
  have hnil : ∀ k, (match (Hs k)[bid]? with | some (.box _) => some (AV.ptr bid 0, Hs k) | _ => none) = some (.ptr bid 0, Hs k) := by
    intro k
    obtain ⟨y, hy⟩ := box k
    rw [hy]
  have hload : ∀ j, j ≤ 2 → evLoad (Hs j) false 1 (.ptr bid 0) = some (.own rid ver 0 l.length) := by
    intro j hj
    have : j = 0 ∨ j = 1 ∨ j = 2 := by omega
    rcases this with rfl | rfl | rfl
    · exact load_box hb.box
    · exact load_box b1
    · exact load_box b2
  have hbs : evBslice (Hs 0) 1 1 (.int .i64 0) [(0, .int .i64 x)] = some (.own H.length 0 0 1, Hs 1) := bslice1_int H .i64 .i64 0 x
  have hseen : seen (Hs 1) (.own H.length 0 0 1) = some [.int .i64 x] := by simp [seen, Hs, H1]
  have happ : evAppend (Hs 1) 1 8 (.own rid ver 0 l.length) [.int .i64 x] = some (.own rid (ver + 1) 0 (l ++ [x]).length, Hs 2) := encI64.app_own r1 (by unfold maxRow; omega) (by decide)
  have hst : evStore (Hs 2) 1 (.ptr bid 0) (.own rid (ver + 1) 0 (l ++ [x]).length) = some (Hs 3) := store_box b2 rfl (own_one r2)
  refine WP.drawE mixed [.l, .l, .l, .g 0 2, .l, .l, .h 0, .h 1, .l, .h 2] (by decide) Hs 3 (E := envL [(12, .ptr bid 0), (11, .own rid (ver + 1) 0 (l ++ [x]).length), (10, .own H.length 0 0 1), (9, .int .i64 x), (8, .iface 3 (.int .i64 x)), (7, .own rid ver 0 l.length), (6, .ptr bid 0), (5, .ptr bid 0), (4, .ptr bid 0), (0, .ptr bid 0), (1, .iface 3 (.int .i64 x))]) rfl ⟨.inl rfl, .tup [], rfl, rfl, ?_, ⟨?_, ?_⟩, ?_⟩ ?_
  · simp [Hs, H3, H2, H1]
  · exact List.getElem?_set_self (lt_of_get b2)
  · show H3[rid]? = _
    simp only [H3]; rw [List.getElem?_set_ne hb.ne]; exact r2
  · intro j hj h1 h2
    show H3[j]? = _
    simp only [H3, H2, H1]
    rw [List.getElem?_set_ne (Ne.symm h1), List.getElem?_set_ne (Ne.symm h2), List.getElem?_append_left hj]
  iterate 3 (refine .light rfl (fun k _ => (by simp only [evalOp, Opd.ev, envL_cons, Nat.reduceEqDiff, reduceIte, Option.map_some]; first | rfl | exact hnil k)) ?_; simp only [updo_envL, setL_cons, setL_nil, Nat.reduceEqDiff, reduceIte])
  refine .fixed rfl (Nat.le_refl _) (by decide) (fun k a b => (by simp only [evalOp, Opd.ev, envL_cons, Nat.reduceEqDiff, reduceIte, hload k b, Option.map_some]; rfl)) ?_; simp only [updo_envL, setL_cons, setL_nil, Nat.reduceEqDiff, reduceIte]
  iterate 2 (refine .light rfl (fun k _ => (by simp only [evalOp, Opd.ev, envL_cons, Nat.reduceEqDiff, reduceIte, Option.map_some]; rfl)) ?_; simp only [updo_envL, setL_cons, setL_nil, Nat.reduceEqDiff, reduceIte])
  refine .heavy rfl ((by simp only [evalOp, Opd.ev, envL_cons, Nat.reduceEqDiff, reduceIte, List.map_cons, List.map_nil, hbs]; rfl)) ?_; simp only [updo_envL, setL_cons, setL_nil, Nat.reduceEqDiff, reduceIte]
  refine .heavy rfl ((by simp only [evalOp, Opd.ev, envL_cons, Nat.reduceEqDiff, reduceIte, hseen, Option.bind_some, happ]; rfl)) ?_; simp only [updo_envL, setL_cons, setL_nil, Nat.reduceEqDiff, reduceIte]
  refine .light rfl (fun k _ => (by simp only [evalOp, Opd.ev, envL_cons, Nat.reduceEqDiff, reduceIte, Option.map_some]; first | rfl | exact hnil k)) ?_; simp only [updo_envL, setL_cons, setL_nil, Nat.reduceEqDiff, reduceIte]
  refine .heavy rfl ((by simp only [evalOp, Opd.ev, envL_cons, Nat.reduceEqDiff, reduceIte, hst, Option.map_some]; rfl)) ?_; simp only [updo_none]
  exact .nil

theorem pop87_spec (l : List Int) (hne : 0 < l.length) (hlen : l.length ≤ 4294967296) {H : List Entry} {bid rid ver : Nat} (hb : HB H bid rid ver l) :
    ACall seat 87 [.ptr bid 0] H (fun r H' => r = .iface 3 (.int .i64 (at' l (l.length - 1))) ∧ H' = H.set bid (.box [.own rid ver 0 (l.length - 1)])) := by
  refine ACall.of_wp told87 (by simp [il87]) (wpc_sound ?_)
  rw [start_env]
  have e1 : IntKind.i64.wrap ((l.length : Int) - 1) = ((l.length - 1 : Nat) : Int) := by rw [wrap64 _ (by omega) (by omega)]; omega
  have e2 : evSlice H 1 (.own rid ver 0 l.length) none (some (.int .i64 ((l.length - 1 : Nat) : Int))) none = some (.own rid ver 0 (l.length - 1)) := by
    simp [evSlice, hb.row, evBound]
  simp only [il87, List.zipIdx_cons, List.zipIdx_nil, Nat.zero_add, go_sem, Nat.reduceEqDiff, reduceIte, Nat.reduceAdd, hb.box, load_box hb.box, encI64.rowLen_own hb.row, e1, indexN_own hb.row (show l.length - 1 < l.length by omega), loadN_own hb.row (show l.length - 1 < l.length by omega), Option.map_none, e2, store_box hb.box (show (AV.own rid ver 0 (l.length - 1)).cells = _ from rfl) (own_one hb.row)]
  exact ⟨trivial, trivial⟩

end Go.Proofs.Ytfifhibajpgpmaa.Al

/- SPECS: container/heap over numbers: Push, Pop, Remove; what is done to a set in memory of its own. -/
namespace Go.Proofs.Ytfifhibajpgpmaa.Al
open Go
attribute [local go_sem] W_mv W_pick W_alloc W_box W_build W_bslice W_load W_store W_nilck W_bin W_isnil W_un W_convI W_convS W_mkiface W_mkfunc W_mkslice W_slice W_faddr W_field W_iaddr W_iaddrA W_idxA W_extract W_len W_lenS W_lenA W_min W_max W_append W_appendZ W_copy W_clear W_tassert W_invoke thenQ_normal thenQ_exit thenQ_goto thenQ_ret blockQ_normal blockQ_ret blockQ_goto blockQ_exit wpc_skip wpc_region wpc_draw wpc_seq wpc_cond wpc_block wpc_exit wpc_goto wpc_label wpc_ret wpc_loop wpc_range wpc_scope condW_true condW_false condW_dec condW_any W_nil W_call resW_some evalOp Opd.ev updo_envL updo_none setL_cons setL_nil envL_cons Option.map_some Option.bind_some evBin evInt List.map_cons List.map_nil Option.pure_def Option.bind_eq_bind W_grd' grdW_tt grdW_ff grdW_tf grdW_ft grdW_tup grdW_dt grdW_df lgrdW_tt lgrdW_ff lgrdW_tf lgrdW_ft lgrdW_tup lgrdW_dt lgrdW_df L_mv L_pick L_alloc L_box L_build L_bslice L_load L_store L_nilck L_bin L_isnil L_un L_convI L_convS L_mkiface L_mkfunc L_mkslice L_slice L_faddr L_field L_iaddr L_iaddrA L_idxA L_extract L_len L_lenS L_lenA L_min L_max L_append L_appendZ L_copy L_clear L_tassert L_nil L_call L_grd lresW_some upd_envL evUn beq_dec bne_dec leaves_ret1 leaves_end1 leaves_ret0 leaves_end0 leaves_ret2 leaves_ret3 rowLen_ints load_iptr0 not_dec heap_get0 heap_get1 heap_set0 heap_set1 heap_len1 heap_len2 heap_app heap_app2 bslice1_int seen_ints seen_one0 seen_one1 seen_one2 rowLen_own0 bslice0_int rowLen_own1 Nat.sub_zero Bool.not_true Bool.not_false List.length_nil List.length_cons List.nil_append List.cons_append Nat.zero_add load_iptrA canon_ptrI canon_bool canon_tup canon_agg canon_leafA canon_innerA canon_nodeA canon_ints' rowLen_ints0 seen_ints0 canon_ints0 rowLen_ints1 seen_ints1 canon_ints1 rowLen_ints2 seen_ints2 canon_ints2 rowLen_ints3 seen_ints3 canon_ints3 rowLen_octs seen_octs canon_octs' szOk_octs rowLen_octs0 seen_octs0 canon_octs0 rowLen_octs1 seen_octs1 canon_octs1 rowLen_octs2 seen_octs2 canon_octs2 rowLen_octs3 seen_octs3 canon_octs3 rowLen_intss seen_intss canon_intss' szOk_intss rowLen_intss0 seen_intss0 canon_intss0 rowLen_intss1 seen_intss1 canon_intss1 rowLen_intss2 seen_intss2 canon_intss2 rowLen_intss3 seen_intss3 canon_intss3 rowLen_octss seen_octss canon_octss' szOk_octss rowLen_octss0 seen_octss0 canon_octss0 rowLen_octss1 seen_octss1 canon_octss1 rowLen_octss2 seen_octss2 canon_octss2 rowLen_octss3 seen_octss3 canon_octss3 rowLen_nodes seen_nodes canon_nodes' szOk_nodes rowLen_nodes0 seen_nodes0 canon_nodes0 rowLen_nodes1 seen_nodes1 canon_nodes1 rowLen_nodes2 seen_nodes2 canon_nodes2 rowLen_nodes3 seen_nodes3 canon_nodes3

theorem push34_spec (l : List Int) (x : Int) (hlen : l.length + 1 ≤ 4294967295) {H : List Entry} {bid rid ver : Nat} (hb : HB H bid rid ver l) :
    ACall seat 34 [.iface 52 (.ptr bid 0), .iface 3 (.int .i64 x)] H (fun _ H' => H'.length = H.length + 1 ∧ HB H' bid rid (ver + 1) (pushF l x) ∧ ∀ j, j < H.length → j ≠ bid → j ≠ rid → H'[j]? = H[j]?) := by
  refine ACall.of_wp told34 (by simp [il34]) (wpc_sound ?_)
  rw [start_env]
  simp only [il34, List.zipIdx_cons, List.zipIdx_nil, Nat.zero_add, go_sem, Nat.reduceEqDiff, reduceIte, Nat.reduceAdd]
  refine .p methPush told88 (push88_spec l x hlen hb) ?_
  rintro _ H' ⟨rfl, h1, h2, h3⟩
  simp only [go_sem, Nat.reduceEqDiff, reduceIte, Nat.reduceAdd]
  refine inv_len h2 ?_
  have w : IntKind.i64.wrap (((l ++ [x]).length : Int) - 1) = (l.length : Int) := by rw [wrap64 _ (by simp only [List.length_append, List.length_cons, List.length_nil]; omega) (by simp only [List.length_append, List.length_cons, List.length_nil]; omega)]; simp
  simp only [go_sem, Nat.reduceEqDiff, reduceIte, Nat.reduceAdd, w]
  refine Callee.plain (Callable.of told46) (up46_spec (l ++ [x]) l.length (by simp) (by simp only [List.length_append, List.length_cons, List.length_nil]; omega) h2) ?_
  rintro _ _ ⟨rfl, rfl⟩
  simp only [go_sem, Nat.reduceEqDiff, reduceIte, Nat.reduceAdd]
  refine ⟨by rw [setRow, List.length_set, h1], h2.set (upF_len _ _ _), fun j hj hn1 hn2 => ?_⟩
  rw [setRow, List.getElem?_set_ne (Ne.symm hn2)]; exact h3 j hj hn1 hn2

/-- What Pop and Remove leave. -/
def Left (H : List Entry) (bid rid : Nat) (q : List Int) (H' : List Entry) : Prop := ∃ ver, H'.length = H.length ∧ HB H' bid rid ver q ∧ ∀ j, j < H.length → j ≠ bid → j ≠ rid → H'[j]? = H[j]?

theorem inv_pop {K : AV → List Entry → Prop} {s : List Int} (hne : 0 < s.length) (hlen : s.length ≤ 4294967296) {H : List Entry} {bid rid ver : Nat} (hb : HB H bid rid ver s)
    (k : ∀ H', Left H bid rid (s.take (s.length - 1)) H' → K (.iface 3 (.int .i64 (at' s (s.length - 1)))) H') : Invoked seat (.iface 52 (.ptr bid 0)) "Pop" [] H K := by
  refine .p methPop told87 (ACall.shrink (R' := fun r H' => r = .iface 3 (.int .i64 (at' s (s.length - 1))) ∧ Left H bid rid (s.take (s.length - 1)) H') (pop87_spec s hne hlen hb) ?_) ?_
  · rintro _ _ ⟨rfl, rfl⟩
    have hr : (H.set bid (.box [.own rid ver 0 (s.length - 1)]))[rid]? = some (.arr 1 ver (s.map (AV.int .i64))) := by rw [List.getElem?_set_ne hb.ne]; exact hb.row
    refine ⟨rid, 1, ver, _, s.length - 1, hr, rfl, ver, by simp, ⟨?_, ?_⟩, fun j hj h1 h2 => ?_⟩
    · rw [List.getElem?_set_ne hb.ne.symm, List.getElem?_set_self (lt_of_get hb.box)]
      simp
    · rw [List.getElem?_set_self (lt_of_get hr), List.map_take]
    · rw [List.getElem?_set_ne (Ne.symm h2), List.getElem?_set_ne (Ne.symm h1)]
  · rintro _ H' ⟨rfl, h⟩; exact k H' h

theorem Left.of_setRow {H H' : List Entry} {bid rid ver : Nat} {s q : List Int} (h : Left (setRow H rid ver s) bid rid q H') : Left H bid rid q H' := by
  obtain ⟨v, h1, h2, h3⟩ := h
  refine ⟨v, by rw [h1, setRow, List.length_set], h2, fun j hj n1 n2 => ?_⟩
  rw [h3 j (by rw [setRow, List.length_set]; exact hj) n1 n2, setRow, List.getElem?_set_ne (Ne.symm n2)]

theorem pop31_spec (l : List Int) (hne : 0 < l.length) (hlen : l.length ≤ 4294967296) {H : List Entry} {bid rid ver : Nat} (hb : HB H bid rid ver l) :
    ACall seat 31 [.iface 52 (.ptr bid 0)] H (fun _ H' => Left H bid rid (popF l) H') := by
  refine ACall.of_wp told31 (by simp [il31]) (wpc_sound ?_)
  rw [start_env]
  simp only [il31, List.zipIdx_cons, List.zipIdx_nil, Nat.zero_add, go_sem, Nat.reduceEqDiff, reduceIte, Nat.reduceAdd]
  refine inv_len hb ?_
  have w : IntKind.i64.wrap ((l.length : Int) - 1) = ((l.length - 1 : Nat) : Int) := by rw [wrap64 _ (by omega) (by omega)]; omega
  simp only [go_sem, Nat.reduceEqDiff, reduceIte, Nat.reduceAdd, w]
  refine inv_swap (i := 0) hb (by omega) (by omega) ?_
  simp only [go_sem, Nat.reduceEqDiff, reduceIte, Nat.reduceAdd]
  have hb1 := hb.set (swapL_length l 0 (l.length - 1))
  refine Callee.plain (Callable.of told43) (down43_spec _ 0 (l.length - 1) (by rw [swapL_length]; omega) (by omega) (by rw [swapL_length]; exact hlen) hb1) ?_
  rintro _ _ ⟨rfl, rfl⟩
  simp only [go_sem, Nat.reduceEqDiff, reduceIte, Nat.reduceAdd, setRow_setRow]
  have hlen2 : (downF (l.length - 1) (l.length - 1) (swapL l 0 (l.length - 1)) 0).1.length = l.length := by rw [downF_len, swapL_length]
  refine inv_pop (by omega) (by omega) (hb.set hlen2) fun H' h => ?_
  simp only [go_sem, Nat.reduceEqDiff, reduceIte, Nat.reduceAdd]
  rw [hlen2] at h
  exact h.of_setRow

theorem remove38_spec (l : List Int) (k : Nat) (hk : k < l.length) (hlen : l.length ≤ 4294967296) {H : List Entry} {bid rid ver : Nat} (hb : HB H bid rid ver l) :
    ACall seat 38 [.iface 52 (.ptr bid 0), .int .i64 k] H (fun _ H' => Left H bid rid (cutF l k) H') := by
  refine ACall.of_wp told38 (by simp [il38]) (wpc_sound ?_)
  rw [start_env]
  simp only [il38, List.zipIdx_cons, List.zipIdx_nil, Nat.zero_add, go_sem, Nat.reduceEqDiff, reduceIte, Nat.reduceAdd]
  refine inv_len hb ?_
  have w : IntKind.i64.wrap ((l.length : Int) - 1) = ((l.length - 1 : Nat) : Int) := by rw [wrap64 _ (by omega) (by omega)]; omega
  simp only [go_sem, Nat.reduceEqDiff, reduceIte, Nat.reduceAdd, w]
  refine ⟨fun hne => ?_, fun he => ?_⟩
  · have hne' : k ≠ l.length - 1 := by omega
    refine inv_swap hb (by omega) (by omega) ?_
    simp only [go_sem, Nat.reduceEqDiff, reduceIte, Nat.reduceAdd]
    have hb1 := hb.set (swapL_length l k (l.length - 1))
    have hlen2 : (downF (l.length - 1) (l.length - 1) (swapL l k (l.length - 1)) k).1.length = l.length := by rw [downF_len, swapL_length]
    refine Callee.plain (Callable.of told43) (down43_spec _ k (l.length - 1) (by rw [swapL_length]; omega) (by rw [swapL_length]; omega) (by rw [swapL_length]; exact hlen) hb1) ?_
    rintro _ _ ⟨rfl, rfl⟩
    simp only [go_sem, Nat.reduceEqDiff, reduceIte, Nat.reduceAdd, setRow_setRow]
    refine ⟨fun hno => ?_, fun hyes => ?_⟩
    · refine Callee.plain (Callable.of told46) (up46_spec _ k (by omega) (by omega) (hb.set hlen2)) ?_
      rintro _ _ ⟨rfl, rfl⟩
      simp only [go_sem, Nat.reduceEqDiff, reduceIte, Nat.reduceAdd, setRow_setRow]
      refine inv_pop (by rw [upF_len]; omega) (by rw [upF_len]; omega) (hb.set (by rw [upF_len]; exact hlen2)) fun H' h => ?_
      simp only [go_sem, Nat.reduceEqDiff, reduceIte, Nat.reduceAdd]
      rw [upF_len, hlen2] at h
      have e : cutF l k = (upF k (downF (l.length - 1) (l.length - 1) (swapL l k (l.length - 1)) k).1 k).take (l.length - 1) := by
        unfold cutF; rw [if_neg hne']; simp only [if_neg hno]
      rw [e]; exact h.of_setRow
    · refine inv_pop (by omega) (by omega) (hb.set hlen2) fun H' h => ?_
      simp only [go_sem, Nat.reduceEqDiff, reduceIte, Nat.reduceAdd]
      rw [hlen2] at h
      have e : cutF l k = (downF (l.length - 1) (l.length - 1) (swapL l k (l.length - 1)) k).1.take (l.length - 1) := by
        unfold cutF; rw [if_neg hne']; simp only [if_pos (Classical.not_not.1 hyes)]
      rw [e]; exact h.of_setRow
  · have he' : k = l.length - 1 := by omega
    refine inv_pop (by omega) hlen hb fun H' h => ?_
    simp only [go_sem, Nat.reduceEqDiff, reduceIte, Nat.reduceAdd]
    have e : cutF l k = l.take (l.length - 1) := by unfold cutF; rw [if_pos he']
    rw [e]; exact h

end Go.Proofs.Ytfifhibajpgpmaa.Al

/- SPECS: lists of numbers (the document's helpers). -/
namespace Go.Proofs.Ytfifhibajpgpmaa.Al
open Go
attribute [local go_sem] W_mv W_pick W_alloc W_box W_build W_bslice W_load W_store W_nilck W_bin W_isnil W_un W_convI W_convS W_mkiface W_mkfunc W_mkslice W_slice W_faddr W_field W_iaddr W_iaddrA W_idxA W_extract W_len W_lenS W_lenA W_min W_max W_append W_appendZ W_copy W_clear W_tassert W_invoke thenQ_normal thenQ_exit thenQ_goto thenQ_ret blockQ_normal blockQ_ret blockQ_goto blockQ_exit wpc_skip wpc_region wpc_draw wpc_seq wpc_cond wpc_block wpc_exit wpc_goto wpc_label wpc_ret wpc_loop wpc_range wpc_scope condW_true condW_false condW_dec condW_any W_nil W_call resW_some evalOp Opd.ev updo_envL updo_none setL_cons setL_nil envL_cons Option.map_some Option.bind_some evBin evInt List.map_cons List.map_nil Option.pure_def Option.bind_eq_bind W_grd' grdW_tt grdW_ff grdW_tf grdW_ft grdW_tup grdW_dt grdW_df lgrdW_tt lgrdW_ff lgrdW_tf lgrdW_ft lgrdW_tup lgrdW_dt lgrdW_df L_mv L_pick L_alloc L_box L_build L_bslice L_load L_store L_nilck L_bin L_isnil L_un L_convI L_convS L_mkiface L_mkfunc L_mkslice L_slice L_faddr L_field L_iaddr L_iaddrA L_idxA L_extract L_len L_lenS L_lenA L_min L_max L_append L_appendZ L_copy L_clear L_tassert L_nil L_call L_grd lresW_some upd_envL evUn beq_dec bne_dec leaves_ret1 leaves_end1 leaves_ret0 leaves_end0 leaves_ret2 leaves_ret3 rowLen_ints load_iptr0 not_dec heap_get0 heap_get1 heap_set0 heap_set1 heap_len1 heap_len2 heap_app heap_app2 bslice1_int seen_ints seen_one0 seen_one1 seen_one2 rowLen_own0 bslice0_int rowLen_own1 Nat.sub_zero Bool.not_true Bool.not_false
attribute [local simp] envL_cons envL_nil idb_int idb_bool idb_str idb_ints idb_nil idb_own idb_ptr


theorem has_spec (l : List Int) (i : Int) : Fun seat 14 [ints l, .int .i64 i] (.bool (l.contains i)) := by
  intro H
  refine ACall.bnd (t := false) (xs := l.map (AV.int .i64)) (by simp [ints]) fun hlen => ?_
  rw [List.length_map] at hlen
  refine Fun.of_wp told14 (by simp [il14]) (.bool _) (fun H hwf hi => ?_) H
  simp only [il14, List.zipIdx_cons, List.zipIdx_nil, Nat.zero_add, go_sem, Nat.reduceEqDiff, reduceIte]
  refine WP.loopF (fun k => k ≤ l.length ∧ ∀ j (hj : j < l.length), j < k → l[j] ≠ i) (fun k => ⟨envL [(0, ints l), (1, .int .i64 i), (4, .bool false), (5, .int .i64 k)], H⟩) (fun k => l.length - k) 0 (by simp) (Fits.of (by simp ) (by simp ) (by simp) hwf) (fun _ _ => Nat.le_refl _) ?_
  rintro k ⟨hk, hno⟩
  refine wpc_sound ?_
  simp only [go_sem, Nat.reduceEqDiff, reduceIte]
  refine ⟨fun h => ?_, fun h => ?_⟩
  · have hk' : k < l.length := by omega
    simp only [index_ints H l k hk', go_sem, Nat.reduceEqDiff, reduceIte]
    refine ⟨fun ht => ?_, fun ht => ?_⟩
    · simp [← ht]
    · refine ⟨k + 1, ⟨hk', fun j hj hjk => ?_⟩, by omega, Fits.of ?_ (by simp ) (by simp) hwf⟩
      · rcases Nat.lt_or_ge j k with h | h
        · exact hno j hj h
        · have : j = k := by omega
          subst this; exact ht
      · simp 
        exact wrap64 _ (by omega) (by omega)
  · refine ⟨?_, by simp⟩
    simp
    intro hmem
    obtain ⟨j, hj, e⟩ := List.getElem_of_mem hmem
    exact hno j hj (by omega) e

theorem ints_spec (a b : List Int) : Fun seat 35 [ints a, ints b] (.bool (decide (a = b))) := by
  intro H
  refine ACall.bnd (t := false) (xs := a.map (AV.int .i64)) (by simp [ints]) fun hlen => ?_
  rw [List.length_map] at hlen
  refine Fun.of_wp told35 (by simp [il35]) (.bool _) (fun H hwf hi => ?_) H
  simp only [il35, List.zipIdx_cons, List.zipIdx_nil, Nat.zero_add, go_sem, Nat.reduceEqDiff, reduceIte]
  refine ⟨fun hne => ⟨?_, by simp⟩, fun heq => ?_⟩
  · have : a ≠ b := fun e => hne (by rw [e])
    simp [this]
  have hll : a.length = b.length := by omega
  refine WP.loopF (fun k => k ≤ a.length ∧ ∀ j (hj : j < a.length), j < k → a[j] = b[j]) (fun k => ⟨envL [(0, ints a), (1, ints b), (4, .bool false), (5, .int .i64 k)], H⟩) (fun k => a.length - k) 0 (by simp) (Fits.of (by simp ) (by simp ) (by simp) hwf) (fun _ _ => Nat.le_refl _) ?_
  rintro k ⟨hk, hno⟩
  refine wpc_sound ?_
  simp only [go_sem, Nat.reduceEqDiff, reduceIte]
  refine ⟨fun h => ?_, fun h => ?_⟩
  · have hk' : k < a.length := by omega
    refine WP.drawL mixed (by decide) ?_
    simp only [go_sem, Nat.reduceEqDiff, reduceIte, index_ints H a k hk', index_ints H b k (by omega)]
    refine ⟨fun ht => ⟨?_, by simp⟩, fun ht => ?_⟩
    · have : a ≠ b := fun e => ht (by simp [e])
      simp [this]
    · refine ⟨k + 1, ⟨hk', fun j hj hjk => ?_⟩, by omega, Fits.of ?_ (by simp ) (by simp) hwf⟩
      · rcases Nat.lt_or_ge j k with h | h
        · exact hno j hj h
        · have : j = k := by omega
          subst this; exact Classical.not_not.1 ht
      · simp 
        exact wrap64 _ (by omega) (by omega)
  · refine ⟨?_, by simp⟩
    have : a = b := List.ext_getElem hll fun j h1 h2 => hno j h1 (by omega)
    simp [this]

theorem same_spec (a b : List Int) : Fun seat 17 [ints a, ints b] (.bool (decide (a = b))) := by
  refine Fun.of_wp told17 (by simp [il17]) (.bool _) (fun H hwf hi => ?_)
  simp only [il17, List.zipIdx_cons, List.zipIdx_nil, Nat.zero_add, go_sem, Nat.reduceEqDiff, reduceIte]
  refine Callee.plain (Callable.of told35) (ints_spec a b H) ?_
  rintro _ _ ⟨rfl, rfl⟩
  simp [go_sem, Nat.reduceEqDiff, reduceIte]

theorem cut_spec (l i : List Int) (hl : l.length ≤ 4294967295) : FunOwn seat 39 [ints l, ints i] 1 ((l.filter fun x => !i.contains x).map (AV.int .i64)) := by
  refine FunOwn.of_wp told39 (by simp [il39]) (fun x hx y hy => by
    obtain ⟨z, _, rfl⟩ := List.mem_map.1 hx
    simp only [AV.cells, List.mem_singleton] at hy; subst hy; exact .int _ _) (fun H hwf hi => ?_)
  simp only [il39, List.zipIdx_cons, List.zipIdx_nil, Nat.zero_add, go_sem, Nat.reduceEqDiff, reduceIte]
  refine WP.adopt 5 1 (by simp ) ?_
  let f : Nat → List AV := fun k => ((l.take k).filter fun x => !i.contains x).map (AV.int .i64)
  refine WP.loopF (fun k => k ≤ l.length) (fun k => ⟨envL [(0, ints l), (1, ints i), (6, .int .i64 k), (5, .own H.length (f k).length 0 (f k).length)], H ++ [.arr 1 (f k).length (f k)]⟩) (fun k => l.length - k) 0 (by simp) (Fits.of (by simp [upd_apply, f]) (by simp ) (by simp [f, List.take_of_length_le]) ?_) (fun _ _ => by simp) ?_
  · exact hwf.push1 (entB_ints _ _ _ _ _)
  rintro k hk
  refine wpc_sound ?_
  simp only [go_sem, Nat.reduceEqDiff, reduceIte]
  refine ⟨fun h => ?_, fun h => ?_⟩
  · have hk' : k < l.length := by omega
    simp only [index_ints _ l k hk', go_sem, Nat.reduceEqDiff, reduceIte]
    have hfk : (f k).length ≤ k := by
      simp only [f, List.length_map]
      exact Nat.le_trans (List.length_filter_le _ _) (by simp; omega)
    have hf1 : f (k + 1) = if i.contains l[k] then f k else f k ++ [.int .i64 l[k]] := by
      simp only [f, List.take_succ_eq_append_getElem hk', List.filter_append, List.map_append, List.filter_cons, List.filter_nil]
      cases i.contains l[k] <;> simp
    refine Callee.plain (Callable.of told14) (has_spec i l[k] _) ?_
    rintro _ _ ⟨rfl, rfl⟩
    simp only [go_sem, Nat.reduceEqDiff, reduceIte, index_ints _ l k hk', app_own0_int (rfl : (f k).length = _) (show (f k).length + 1 ≤ maxRow by unfold maxRow; omega) (by decide : (8 : Nat) ≤ 4096)]
    have hw : IntKind.i64.wrap ((k : Int) + 1) = ((k + 1 : Nat) : Int) := wrap64 _ (by omega) (by omega)
    have hwf' : Wf (H ++ [Entry.arr 1 (f (k + 1)).length (f (k + 1))]) := hwf.push1 (entB_ints _ _ _ _ _)
    refine condW_bool (fun ht => ?_) (fun ht => ?_)
    · have hc : i.contains l[k] = false := by simpa using ht
      rw [hc, if_neg (by simp)] at hf1
      refine ⟨k + 1, hk', by omega, Fits.of ?_ (by simp ) ?_ hwf'⟩
      · simp [hf1, hw]
      · simp [hf1, take_ext1]
    · have hc : i.contains l[k] = true := by simpa using ht
      rw [hc, if_pos rfl] at hf1
      refine ⟨k + 1, hk', by omega, Fits.of ?_ (by simp ) ?_ hwf'⟩
      · simp [hf1, hw]
      · simp [hf1, take_ext1]
  · have hke : k = l.length := by omega
    subst hke
    refine ⟨by simp, H.length, (f l.length).length, ?_, Nat.le_refl _, ?_⟩
    · simp [f]
    · simp [f]

end Go.Proofs.Ytfifhibajpgpmaa.Al

/- SPECS: Join (the document's). -/
namespace Go.Proofs.Ytfifhibajpgpmaa.Al
open Go
attribute [local go_sem] W_mv W_pick W_alloc W_box W_build W_bslice W_load W_store W_nilck W_bin W_isnil W_un W_convI W_convS W_mkiface W_mkfunc W_mkslice W_slice W_faddr W_field W_iaddr W_iaddrA W_idxA W_extract W_len W_lenS W_lenA W_min W_max W_append W_appendZ W_copy W_clear W_tassert W_invoke thenQ_normal thenQ_exit thenQ_goto thenQ_ret blockQ_normal blockQ_ret blockQ_goto blockQ_exit wpc_skip wpc_region wpc_draw wpc_seq wpc_cond wpc_block wpc_exit wpc_goto wpc_label wpc_ret wpc_loop wpc_range wpc_scope condW_true condW_false condW_dec condW_any W_nil W_call resW_some evalOp Opd.ev updo_envL updo_none setL_cons setL_nil envL_cons Option.map_some Option.bind_some evBin evInt List.map_cons List.map_nil Option.pure_def Option.bind_eq_bind W_grd' grdW_tt grdW_ff grdW_tf grdW_ft grdW_tup grdW_dt grdW_df lgrdW_tt lgrdW_ff lgrdW_tf lgrdW_ft lgrdW_tup lgrdW_dt lgrdW_df L_mv L_pick L_alloc L_box L_build L_bslice L_load L_store L_nilck L_bin L_isnil L_un L_convI L_convS L_mkiface L_mkfunc L_mkslice L_slice L_faddr L_field L_iaddr L_iaddrA L_idxA L_extract L_len L_lenS L_lenA L_min L_max L_append L_appendZ L_copy L_clear L_tassert L_nil L_call L_grd lresW_some upd_envL evUn beq_dec bne_dec leaves_ret1 leaves_end1 leaves_ret0 leaves_end0 leaves_ret2 leaves_ret3 rowLen_ints load_iptr0 not_dec heap_get0 heap_get1 heap_set0 heap_set1 heap_len1 heap_len2 heap_app heap_app2 bslice1_int seen_ints seen_one0 seen_one1 seen_one2 rowLen_own0 bslice0_int rowLen_own1 Nat.sub_zero Bool.not_true Bool.not_false
attribute [local simp] envL_cons envL_nil idb_int idb_bool idb_str idb_ints idb_nil idb_own idb_ptr

theorem join_spec (l : List Int) (i : Int) (hl : l.length ≤ 4294967000) : FunOwn seat 22 [ints l, .int .i64 i] 1 ((rise (l ++ [i])).map (AV.int .i64)) := by
  refine FunOwn.of_wp told22 (by simp [il22]) (fun x hx y hy => by
    obtain ⟨z, _, rfl⟩ := List.mem_map.1 hx
    simp only [AV.cells, List.mem_singleton] at hy; subst hy; exact .int _ _) (fun H hwf hi => ?_)
  simp only [il22, List.zipIdx_cons, List.zipIdx_nil, Nat.zero_add, go_sem, Nat.reduceEqDiff, reduceIte]
  obtain ⟨v, hv⟩ := app_any (H := H ++ [.arr 1 0 []]) (esz := 1) (bytes := 8) (ver := 0) (ys := l.map (AV.int .i64)) (heap_get0 H [] _) rfl (by unfold maxRow; simp; omega) (by decide) (by decide) (szOk_ints _ _ _)
  simp only [List.length_nil, Nat.zero_add, List.nil_append, List.length_map, heap_set0] at hv
  simp only [hv, go_sem, Nat.reduceEqDiff, reduceIte, app_own0_int (List.length_map (AV.int .i64) : (l.map (AV.int .i64)).length = l.length) (show l.length + 1 ≤ maxRow by unfold maxRow; omega) (by decide : (8 : Nat) ≤ 4096)]
  have hall : l.map (AV.int .i64) ++ [AV.int .i64 i] = (l ++ [i]).map (AV.int .i64) := by simp
  rw [hall]
  generalize hN : l ++ [i] = all
  have hlen : all.length = l.length + 1 := by rw [← hN]; simp
  rw [← hlen]
  generalize v + 1 = u
  clear hall hv
  refine WP.fits (st' := ⟨envL [(5, .own H.length u 0 all.length), (6, .list true [])], H ++ [.arr 1 u (all.map (AV.int .i64))]⟩) (Fits.of (by simp ) (by simp ) (by simp [take_ext1]) (hwf.push1 (entB_ints _ _ _ _ _))) (by simp) ?_
  refine WP.adopt 6 1 (by simp ) ?_
  have hwf2 : ∀ r : List Int, Wf (H ++ [Entry.arr 1 u (all.map (AV.int .i64)), .arr 1 r.length (r.map (AV.int .i64))]) := fun r => hwf.push (by
    intro e he
    simp only [List.mem_cons, List.not_mem_nil, or_false] at he
    rcases he with rfl | rfl
    · exact entB_ints _ _ _ _ _
    · exact entB_ints _ _ _ _ _)
  refine WP.loopF (fun r : List Int => Rises r ∧ (∀ x ∈ r, x ∈ all) ∧ (∀ x ∈ all, x ∉ r → ∀ y ∈ r, y < x))
    (fun r => ⟨envL [(5, .own H.length u 0 all.length), (6, .own (H.length + 1) r.length 0 r.length)], H ++ [.arr 1 u (all.map (AV.int .i64)), .arr 1 r.length (r.map (AV.int .i64))]⟩)
    (fun r => all.length - r.length) [] ⟨List.Pairwise.nil, by simp, by simp⟩ (Fits.of (by simp [upd_apply]) (by simp ) (by simp [take_ext2]) (hwf2 [])) (fun _ _ => by simp) ?_
  rintro r ⟨hr1, hr2, hr3⟩
  have hrl : r.length ≤ all.length := Nat.le_trans (rises_len hr1 hr2) (length_rise_le all)
  refine wpc_sound ?_
  simp only [go_sem, Nat.reduceEqDiff, reduceIte]
  refine ⟨fun h => ?_, fun h => ?_⟩
  · have hrl' : r.length < all.length := by omega
    refine WP.loopF (fun p : Nat × Int × Bool => p.1 ≤ all.length ∧ (p.2.2 = false → ∀ j (hj : j < all.length), j < p.1 → all[j] ∈ r) ∧ (p.2.2 = true → p.2.1 ∈ all ∧ p.2.1 ∉ r ∧ ∀ j (hj : j < all.length), j < p.1 → all[j] ∉ r → p.2.1 ≤ all[j]))
      (fun p => ⟨envL [(5, .own H.length u 0 all.length), (6, .own (H.length + 1) r.length 0 r.length), (7, .int .i64 p.2.1), (8, .bool p.2.2), (9, .int .i64 p.1)], H ++ [.arr 1 u (all.map (AV.int .i64)), .arr 1 r.length (r.map (AV.int .i64))]⟩)
      (fun p => all.length - p.1) (0, 0, false) ⟨by simp, by simp, by simp⟩ (Fits.of (by simp ) (by simp ) (by simp [take_ext2]) (hwf2 r)) (fun _ _ => by simp) ?_
    rintro ⟨k, least, some'⟩ ⟨hk, hs1, hs2⟩
    simp only at hk hs1 hs2
    refine wpc_sound ?_
    simp only [go_sem, Nat.reduceEqDiff, reduceIte]
    refine ⟨fun hkl => ?_, fun hkl => ?_⟩
    · have hk' : k < all.length := by omega
      have hw : IntKind.i64.wrap ((k : Int) + 1) = ((k + 1 : Nat) : Int) := wrap64 _ (by omega) (by omega)
      simp only [index_own0 hk' rfl, load_eptr0 hk', go_sem, Nat.reduceEqDiff, reduceIte]
      refine Callee.plain (Callable.of told14) (ACall.lend 1 (r := .bool (r.contains all[k])) (by
        rw [List.map_cons, List.map_cons, List.map_nil, canon_own1 (by simp), canon_int]; exact has_spec r all[k]) (.bool _)) ?_
      rintro _ _ ⟨rfl, rfl⟩
      have next : ∀ (least' : Int) (some'' : Bool) (e : List (Nat × AV)), envL e 5 = .own H.length u 0 all.length → envL e 6 = .own (H.length + 1) r.length 0 r.length → envL e 7 = .int .i64 least' → envL e 8 = .bool some'' → envL e 9 = .int .i64 (IntKind.i64.wrap ((k : Int) + 1)) →
          (some'' = false → ∀ j (hj : j < all.length), j < k + 1 → all[j] ∈ r) → (some'' = true → least' ∈ all ∧ least' ∉ r ∧ ∀ j (hj : j < all.length), j < k + 1 → all[j] ∉ r → least' ≤ all[j]) →
          ∃ a' : Nat × Int × Bool, (a'.1 ≤ all.length ∧ (a'.2.2 = false → ∀ j (hj : j < all.length), j < a'.1 → all[j] ∈ r) ∧ (a'.2.2 = true → a'.2.1 ∈ all ∧ a'.2.1 ∉ r ∧ ∀ j (hj : j < all.length), j < a'.1 → all[j] ∉ r → a'.2.1 ≤ all[j])) ∧
            all.length - a'.1 < all.length - k ∧ Fits ⟨envL [(5, .own H.length u 0 all.length), (6, .own (H.length + 1) r.length 0 r.length), (7, .int .i64 a'.2.1), (8, .bool a'.2.2), (9, .int .i64 a'.1)], H ++ [.arr 1 u (all.map (AV.int .i64)), .arr 1 r.length (r.map (AV.int .i64))]⟩
              ⟨envL e, H ++ [.arr 1 u (all.map (AV.int .i64)), .arr 1 r.length (r.map (AV.int .i64))]⟩ := by
        intro least' some'' e e5 e6 e7 e8 e9 c1 c2
        refine ⟨(k + 1, least', some''), ⟨hk', c1, c2⟩, by simp; omega, Fits.of ?_ (by simp ) (by simp [take_ext2]) (hwf2 r)⟩
        simp [e5, e6, e7, e8, e9, hw]
      cases hc : r.contains all[k] with
      | true =>
        simp only [go_sem, Nat.reduceEqDiff, reduceIte]
        refine next least some' _ (by simp ) (by simp ) (by simp ) (by simp ) (by simp ) ?_ ?_
        · intro h0 j hj hjk
          rcases Nat.lt_or_ge j k with h | h
          · exact hs1 h0 j hj h
          · have : j = k := by omega
            subst this; simpa using hc
        · intro h0
          obtain ⟨q1, q2, q3⟩ := hs2 h0
          refine ⟨q1, q2, fun j hj hjk hn => ?_⟩
          rcases Nat.lt_or_ge j k with h | h
          · exact q3 j hj h hn
          · have : j = k := by omega
            subst this; exact absurd (by simpa using hc) hn
      | false =>
        have hcn : all[k] ∉ r := by simpa using hc
        cases some' with
        | false =>
          simp only [go_sem, Nat.reduceEqDiff, reduceIte, index_own0 hk' rfl, load_eptr0 hk']
          refine next all[k] true _ (by simp ) (by simp ) (by simp ) (by simp ) (by simp ) (by simp) ?_
          intro _
          refine ⟨List.getElem_mem _, hcn, fun j hj hjk hn => ?_⟩
          rcases Nat.lt_or_ge j k with h | h
          · exact absurd (hs1 rfl j hj h) hn
          · have : j = k := by omega
            subst this; exact Int.le_refl _
        | true =>
          simp only [go_sem, Nat.reduceEqDiff, reduceIte, index_own0 hk' rfl, load_eptr0 hk']
          obtain ⟨q1, q2, q3⟩ := hs2 rfl
          refine ⟨fun hlt => ?_, fun hlt => ?_⟩
          · refine next all[k] true _ (by simp ) (by simp ) (by simp ) (by simp ) (by simp ) (by simp) ?_
            intro _
            refine ⟨List.getElem_mem _, hcn, fun j hj hjk hn => ?_⟩
            rcases Nat.lt_or_ge j k with h | h
            · have := q3 j hj h hn; omega
            · have : j = k := by omega
              subst this; exact Int.le_refl _
          · refine next least true _ (by simp ) (by simp ) (by simp ) (by simp ) (by simp ) (by simp) ?_
            intro _
            refine ⟨q1, q2, fun j hj hjk hn => ?_⟩
            rcases Nat.lt_or_ge j k with h | h
            · exact q3 j hj h hn
            · have : j = k := by omega
              subst this; omega
    · have hke : k = all.length := by omega
      subst hke
      cases some' with
      | false =>
        simp only [go_sem, Nat.reduceEqDiff, reduceIte]
        have hre : r = rise all := rise_eq hr1 fun x => ⟨hr2 x, fun hx => by
          obtain ⟨j, hj, e⟩ := List.getElem_of_mem hx
          rw [← e]; exact hs1 rfl j hj hj⟩
        rw [← hre]
        exact ⟨take_ext, H.length + 1, r.length, by simp, by omega, heap_get1 _ _ _ _⟩
      | true =>
        obtain ⟨q1, q2, q3⟩ := hs2 rfl
        simp only [go_sem, Nat.reduceEqDiff, reduceIte, app_own1_int (List.length_map (AV.int .i64) : (r.map (AV.int .i64)).length = r.length) (show r.length + 1 ≤ maxRow by unfold maxRow; omega) (by decide : (8 : Nat) ≤ 4096)]
        refine ⟨r ++ [least], ⟨rises_snoc hr1 (hr3 least q1 q2), fun x hx => ?_, fun x hx hn y hy => ?_⟩, by simp; omega, Fits.of ?_ (by simp ) (by simp [take_ext2]) (hwf2 _)⟩
        · rcases List.mem_append.1 hx with e | e
          · exact hr2 x e
          · rw [List.mem_singleton] at e; subst e; exact q1
        · have hn' : x ∉ r := fun h => hn (by simp [h])
          have hne : x ≠ least := fun h => hn (by simp [h])
          obtain ⟨j, hj, e⟩ := List.getElem_of_mem hx
          have hle := q3 j hj hj (by rw [e]; exact hn')
          rw [e] at hle
          rcases List.mem_append.1 hy with h | h
          · exact hr3 x hx hn' y h
          · rw [List.mem_singleton] at h; subst h; omega
        · simp 
  · have hre : r = rise all := rise_eq hr1 fun x => ⟨hr2 x, fun hx => by
      apply Classical.byContradiction
      intro hn
      have := Nat.le_trans (rises_len (rises_snoc hr1 (hr3 x hx hn)) (fun y hy => by
        rcases List.mem_append.1 hy with e | e
        · exact hr2 y e
        · rw [List.mem_singleton] at e; subst e; exact hx)) (length_rise_le all)
      simp at this
      omega⟩
    rw [← hre]
    exact ⟨take_ext, H.length + 1, r.length, by simp, by omega, heap_get1 _ _ _ _⟩

end Go.Proofs.Ytfifhibajpgpmaa.Al

/- SPECS: the document's lists of free numbers. -/
namespace Go.Proofs.Ytfifhibajpgpmaa.Al
open Go
attribute [local go_sem] W_mv W_pick W_alloc W_box W_build W_bslice W_load W_store W_nilck W_bin W_isnil W_un W_convI W_convS W_mkiface W_mkfunc W_mkslice W_slice W_faddr W_field W_iaddr W_iaddrA W_idxA W_extract W_len W_lenS W_lenA W_min W_max W_append W_appendZ W_copy W_clear W_tassert W_invoke thenQ_normal thenQ_exit thenQ_goto thenQ_ret blockQ_normal blockQ_ret blockQ_goto blockQ_exit wpc_skip wpc_region wpc_draw wpc_seq wpc_cond wpc_block wpc_exit wpc_goto wpc_label wpc_ret wpc_loop wpc_range wpc_scope condW_true condW_false condW_dec condW_any W_nil W_call resW_some evalOp Opd.ev updo_envL updo_none setL_cons setL_nil envL_cons Option.map_some Option.bind_some evBin evInt List.map_cons List.map_nil Option.pure_def Option.bind_eq_bind W_grd' grdW_tt grdW_ff grdW_tf grdW_ft grdW_tup grdW_dt grdW_df lgrdW_tt lgrdW_ff lgrdW_tf lgrdW_ft lgrdW_tup lgrdW_dt lgrdW_df L_mv L_pick L_alloc L_box L_build L_bslice L_load L_store L_nilck L_bin L_isnil L_un L_convI L_convS L_mkiface L_mkfunc L_mkslice L_slice L_faddr L_field L_iaddr L_iaddrA L_idxA L_extract L_len L_lenS L_lenA L_min L_max L_append L_appendZ L_copy L_clear L_tassert L_nil L_call L_grd lresW_some upd_envL evUn beq_dec bne_dec leaves_ret1 leaves_end1 leaves_ret0 leaves_end0 leaves_ret2 leaves_ret3 rowLen_ints load_iptr0 not_dec heap_get0 heap_get1 heap_set0 heap_set1 heap_len1 heap_len2 heap_app heap_app2 bslice1_int seen_ints seen_one0 seen_one1 seen_one2 rowLen_own0 bslice0_int rowLen_own1 Nat.sub_zero Bool.not_true Bool.not_false
attribute [local simp] envL_cons envL_nil idb_int idb_bool idb_str idb_ints idb_nil idb_own idb_ptr

theorem refOf_spec (l : List Int) (hl : l.length ≤ 4294960000) : Fun seat 20 [ints l] (ints (rise l)) := by
  refine Fun.of_wp told20 (by simp [il20]) (.list _ _ (pure_ints _ _)) (fun H hwf hi => ?_)
  simp only [il20, List.zipIdx_cons, List.zipIdx_nil, Nat.zero_add, go_sem, Nat.reduceEqDiff, reduceIte]
  refine WP.deref 3 1 ?_
  refine WP.loopF (fun k => k ≤ l.length) (fun k => ⟨envL [(0, ints l), (3, ints (rise (l.take k))), (4, .int .i64 k)], H⟩) (fun k => l.length - k) 0 (by simp) (Fits.of (by simp [upd_apply, derefN, rise, ints]) (by simp ) (by simp) hwf) (fun _ _ => Nat.le_refl _) ?_
  rintro k hk
  refine wpc_sound ?_
  simp only [go_sem, Nat.reduceEqDiff, reduceIte]
  refine ⟨fun h => ?_, fun h => ?_⟩
  · have hk' : k < l.length := by omega
    have hw : IntKind.i64.wrap ((k : Int) + 1) = ((k + 1 : Nat) : Int) := wrap64 _ (by omega) (by omega)
    simp only [index_ints _ l k hk', go_sem, Nat.reduceEqDiff, reduceIte]
    refine Callee.plain (Callable.of told22) ((join_spec (rise (l.take k)) l[k] (Nat.le_trans (length_rise_le _) (by simp; omega))).ints H) ?_
    rintro _ _ ⟨rfl, rfl⟩
    simp only [go_sem, Nat.reduceEqDiff, reduceIte]
    have e : rise (rise (l.take k) ++ [l[k]]) = rise (l.take (k + 1)) := rise_congr fun x => by
      rw [List.mem_append, mem_rise, List.take_succ_eq_append_getElem hk', List.mem_append]
    rw [e]
    exact ⟨k + 1, hk', by omega, Fits.of (by simp [hw]) (by simp ) (by simp) hwf⟩
  · have hke : k = l.length := by omega
    subst hke
    simp

theorem canon_ints (H : List Entry) (l : List Int) : canon H 1 (ints l) = ints l := by
  simp [canon, derefN, ints]

theorem refDrop_spec (l : List Int) (i : Int) (hl : l.length ≤ 4294960000) : FunOwn seat 23 [ints l, .int .i64 i] 1 ((l.filter fun x => decide (x ≠ i)).map (AV.int .i64)) := by
  refine FunOwn.of_wp told23 (by simp [il23]) (pure_ints _ _) (fun H hwf hi => ?_)
  simp only [il23, List.zipIdx_cons, List.zipIdx_nil, Nat.zero_add, go_sem, Nat.reduceEqDiff, reduceIte]
  have hf : (l.filter fun x => !([i] : List Int).contains x) = l.filter fun x => decide (x ≠ i) := by
    congr 1; funext x; by_cases h : x = i <;> simp [h]
  have hc := cut_spec l [i] (by omega)
  rw [hf] at hc
  refine Callee.plain (Callable.of told39) (ACall.lendOwn 1 (sz := 1) (xs := (l.filter fun x => decide (x ≠ i)).map (AV.int .i64)) (by
    rw [List.map_cons, List.map_cons, List.map_nil, canon_own0 (n := 1) (xs := [.int .i64 i]) rfl, canon_ints]; exact hc) (fun x hx y hy => by
    obtain ⟨z, _, rfl⟩ := List.mem_map.1 hx
    simp only [AV.cells, List.mem_singleton] at hy; subst hy; exact .int _ _)) ?_
  rintro _ _ ⟨rfl, rfl⟩
  simp only [go_sem, Nat.reduceEqDiff, reduceIte]
  exact ⟨by simp, H.length + 1, 0, rfl, by omega, heap_get1 _ _ _ _⟩

/-- 0, 1, and so on. -/
def upto (n : Nat) : List Int := (List.range n).map Int.ofNat
theorem upto_succ (n : Nat) : upto (n + 1) = upto n ++ [(n : Int)] := by simp [upto, List.range_succ]
theorem upto_length (n : Nat) : (upto n).length = n := by simp [upto]


theorem refNew_spec (n : Int) : FunOwn seat 21 [.int .i64 n] 1 ((upto (min n 200).toNat).map (AV.int .i64)) := by
  refine FunOwn.of_wp told21 (by simp [il21]) (pure_ints _ _) (fun H hwf hi => ?_)
  simp only [il21, List.zipIdx_cons, List.zipIdx_nil, Nat.zero_add, go_sem, Nat.reduceEqDiff, reduceIte]
  refine WP.adopt 3 1 (by simp ) ?_
  have hm : (if (200 : Int) < n then (200 : Int) else n) = min n 200 := by omega
  refine WP.loopF (fun k => k ≤ (min n 200).toNat) (fun k => ⟨envL [(0, .int .i64 n), (3, .own H.length k 0 k), (4, .int .i64 k)], H ++ [.arr 1 k ((upto k).map (AV.int .i64))]⟩) (fun k => (min n 200).toNat - k) 0 (by simp) (Fits.of (by simp [upd_apply]) (by simp ) (by simp [take_ext1, upto]) (hwf.push1 (entB_ints _ _ _ _ _))) (fun _ _ => by simp) ?_
  rintro k hk
  refine wpc_sound ?_
  simp only [go_sem, Nat.reduceEqDiff, reduceIte, foldA, List.foldlM_cons, List.foldlM_nil, evMin_int, hm]
  refine ⟨fun h => ?_, fun h => ?_⟩
  · have hw : IntKind.i64.wrap ((k : Int) + 1) = ((k + 1 : Nat) : Int) := wrap64 _ (by omega) (by omega)
    simp only [app_own0_int (show ((upto k).map (AV.int .i64)).length = k by simp [upto]) (show k + 1 ≤ maxRow by unfold maxRow; omega) (by decide : (8 : Nat) ≤ 4096), go_sem, Nat.reduceEqDiff, reduceIte]
    refine ⟨k + 1, by omega, by omega, Fits.of (by simp [hw]) (by simp ) (by simp [take_ext1, upto_succ]) (hwf.push1 (entB_ints _ _ _ _ _))⟩
  · have hke : k = (min n 200).toNat := by omega
    subst hke
    exact ⟨take_ext, H.length, _, by simp [upto], Nat.le_refl _, heap_get0 _ _ _⟩

end Go.Proofs.Ytfifhibajpgpmaa.Al

/- SPECS: sets of free numbers. -/
namespace Go.Proofs.Ytfifhibajpgpmaa.Al
open Go
attribute [local go_sem] W_mv W_pick W_alloc W_box W_build W_bslice W_load W_store W_nilck W_bin W_isnil W_un W_convI W_convS W_mkiface W_mkfunc W_mkslice W_slice W_faddr W_field W_iaddr W_iaddrA W_idxA W_extract W_len W_lenS W_lenA W_min W_max W_append W_appendZ W_copy W_clear W_tassert W_invoke thenQ_normal thenQ_exit thenQ_goto thenQ_ret blockQ_normal blockQ_ret blockQ_goto blockQ_exit wpc_skip wpc_region wpc_draw wpc_seq wpc_cond wpc_block wpc_exit wpc_goto wpc_label wpc_ret wpc_loop wpc_range wpc_scope condW_true condW_false condW_dec condW_any W_nil W_call resW_some evalOp Opd.ev updo_envL updo_none setL_cons setL_nil envL_cons Option.map_some Option.bind_some evBin evInt List.map_cons List.map_nil Option.pure_def Option.bind_eq_bind W_grd' grdW_tt grdW_ff grdW_tf grdW_ft grdW_tup grdW_dt grdW_df lgrdW_tt lgrdW_ff lgrdW_tf lgrdW_ft lgrdW_tup lgrdW_dt lgrdW_df L_mv L_pick L_alloc L_box L_build L_bslice L_load L_store L_nilck L_bin L_isnil L_un L_convI L_convS L_mkiface L_mkfunc L_mkslice L_slice L_faddr L_field L_iaddr L_iaddrA L_idxA L_extract L_len L_lenS L_lenA L_min L_max L_append L_appendZ L_copy L_clear L_tassert L_nil L_call L_grd lresW_some upd_envL evUn beq_dec bne_dec leaves_ret1 leaves_end1 leaves_ret0 leaves_end0 leaves_ret2 leaves_ret3 rowLen_ints load_iptr0 not_dec heap_get0 heap_get1 heap_set0 heap_set1 heap_len1 heap_len2 heap_app heap_app2 bslice1_int seen_ints seen_one0 seen_one1 seen_one2 rowLen_own0 bslice0_int rowLen_own1 Nat.sub_zero Bool.not_true Bool.not_false List.length_nil List.length_cons List.nil_append List.cons_append Nat.zero_add load_iptrA canon_ptrI canon_bool canon_tup canon_agg canon_leafA canon_innerA canon_nodeA canon_ints' rowLen_ints0 seen_ints0 canon_ints0 rowLen_ints1 seen_ints1 canon_ints1 rowLen_ints2 seen_ints2 canon_ints2 rowLen_ints3 seen_ints3 canon_ints3 rowLen_octs seen_octs canon_octs' szOk_octs rowLen_octs0 seen_octs0 canon_octs0 rowLen_octs1 seen_octs1 canon_octs1 rowLen_octs2 seen_octs2 canon_octs2 rowLen_octs3 seen_octs3 canon_octs3 rowLen_intss seen_intss canon_intss' szOk_intss rowLen_intss0 seen_intss0 canon_intss0 rowLen_intss1 seen_intss1 canon_intss1 rowLen_intss2 seen_intss2 canon_intss2 rowLen_intss3 seen_intss3 canon_intss3 rowLen_octss seen_octss canon_octss' szOk_octss rowLen_octss0 seen_octss0 canon_octss0 rowLen_octss1 seen_octss1 canon_octss1 rowLen_octss2 seen_octss2 canon_octss2 rowLen_octss3 seen_octss3 canon_octss3 rowLen_nodes seen_nodes canon_nodes' szOk_nodes rowLen_nodes0 seen_nodes0 canon_nodes0 rowLen_nodes1 seen_nodes1 canon_nodes1 rowLen_nodes2 seen_nodes2 canon_nodes2 rowLen_nodes3 seen_nodes3 canon_nodes3 seen_list cells_int oneIn_int cells_bool oneIn_bool cells_str oneIn_str cells_list oneIn_list cells_func oneIn_func cells_nilfunc oneIn_nilfunc cells_iptr oneIn_iptr cells_iface oneIn_iface cells_nilIface oneIn_nilIface cells_own cells_ptr cells_anybool oneIn_anybool cells_agg oneIn_own0 oneIn_ptr0 seenL0 seenM0 oneIn_own1 oneIn_ptr1 seenL1 seenM1 oneIn_own2 oneIn_ptr2 seenL2 seenM2 oneIn_own3 oneIn_ptr3 seenL3 seenM3 oneIn_own4 oneIn_ptr4 seenL4 seenM4 oneIn_own5 oneIn_ptr5 seenL5 seenM5 cells_ints oneIn_ints cells_octs oneIn_octs cells_intss oneIn_intss cells_octss oneIn_octss cells_nodes oneIn_nodes ldB0 ldA0 adB0 stB0 ldB1 ldA1 adB1 stB1 ldB2 ldA2 adB2 stB2 ldB3 ldA3 adB3 stB3 ldB4 ldA4 adB4 stB4 ldB5 ldA5 adB5 stB5 List.getElem?_cons_zero List.getElem?_cons_succ beq_self_eq_true splice List.take_zero List.take_succ_cons List.drop_zero List.drop_succ_cons List.append_nil List.set_cons_zero List.set_cons_succ List.all_cons List.all_nil Bool.and_self and_self and_true true_and Nat.lt_irrefl Nat.zero_lt_one Nat.le_refl fillA evNil notA Bool.false_eq_true evMin_int evMax_int Option.map_none freezeP_all_nil freezeP_all_cons frzE_box frzE_arr frzE_dead foldA List.foldlM_cons List.foldlM_nil
attribute [local simp] envL_cons envL_nil idb_int idb_bool idb_str idb_ints idb_nil idb_own idb_ptr entB_ints' idb_octs entB_octs idb_intss entB_intss idb_octss entB_octss idb_nodes entB_nodes idb_leafA idb_innerA idb_nodeA idb_agg idb_tup idb_iptr idb_fn idb_undef entB_dead entB_box

def setA (l : List Int) : AV := .agg [ints l]
theorem idb_setA (n : Nat) (l : List Int) : Idb n (setA l) = True := eq_true (.agg _ fun x hx => by
  simp only [List.mem_singleton] at hx; subst hx; exact encI64.idb_row n l)

theorem clone45_spec (l : List Int) (hl : l.length ≤ 4294967295) : FunOwn seat 45 [ints l] 1 (l.map (AV.int .i64)) := by
  refine FunOwn.of0W told45 (by simp [il45]) (by simp ) (encI64.xs_idb l) (wpc_sound ?_)
  simp only [il45, List.zipIdx_cons, List.zipIdx_nil, Nat.zero_add, go_sem, Nat.reduceEqDiff, reduceIte, Nat.reduceAdd, Nat.reduceLeDiff, Nat.reduceLT, Nat.reduceSub, ints]
  have app : ∀ r : List Int, r.length ≤ 4294967295 → ∃ v, evAppend [Entry.arr 1 0 (([] : List Int).map (AV.int .i64))] 1 8 (.own 0 0 0 ([] : List Int).length) (r.map (AV.int .i64)) = some (.own 0 v 0 r.length, [.arr 1 v (r.map (AV.int .i64))]) := by
    intro r hr
    obtain ⟨v, hv⟩ := appv_ints0 (G := []) (ver := 0) (l := []) (bytes := 8) r (by unfold maxRow; simp; omega) (by decide)
    exact ⟨v, by simpa using hv⟩
  cases l with
  | nil =>
    obtain ⟨v, hv⟩ := app [] (by simp)
    simp only [List.map_nil, List.length_nil] at hv
    simp only [List.map_nil, go_sem, Nat.reduceEqDiff, reduceIte, Nat.reduceAdd, Nat.reduceLeDiff, Nat.reduceLT, Nat.reduceSub, hv]
    exact ⟨.inr trivial, .inl ⟨0, v, rfl, rfl⟩⟩
  | cons x r =>
    obtain ⟨v, hv⟩ := app (x :: r) hl
    simp only [List.map_nil, List.length_nil, List.map_cons, List.length_cons] at hv
    simp only [List.map_cons, go_sem, Nat.reduceEqDiff, reduceIte, Nat.reduceAdd, Nat.reduceLeDiff, Nat.reduceLT, Nat.reduceSub, hv]
    exact .inl ⟨0, v, by simp, rfl⟩

/-- Something that is done to numbers as a heap. -/
def Deed (c : Nat) (cap : List AV) (l q : List Int) : Prop := ∀ (H : List Entry) (bid rid ver : Nat), HB H bid rid ver l →
  ACall seat c (.ptr bid 0 :: cap) H (fun _ H' => ∃ ver', H.length ≤ H'.length ∧ HB H' bid rid ver' q ∧ ∀ j, j < H.length → j ≠ bid → j ≠ rid → H'[j]? = H[j]?)

theorem deed_pop (l : List Int) (hne : 0 < l.length) (hlen : l.length ≤ 4294967296) : Deed 30 [] l (popF l) := by
  intro H bid rid ver hb
  refine ACall.of_wp told30 (by simp [il30]) (wpc_sound ?_)
  rw [start_env]
  simp only [il30, List.zipIdx_cons, List.zipIdx_nil, Nat.zero_add, go_sem, Nat.reduceEqDiff, reduceIte, Nat.reduceAdd, Nat.reduceLeDiff, Nat.reduceLT, Nat.reduceSub]
  refine Callee.plain (Callable.of told31) (pop31_spec l hne hlen hb) ?_
  rintro r H' ⟨v, h1, h2, h3⟩
  simp only [go_sem, Nat.reduceEqDiff, reduceIte, Nat.reduceAdd, Nat.reduceLeDiff, Nat.reduceLT, Nat.reduceSub]
  exact ⟨v, by omega, h2, h3⟩
theorem deed_push (l : List Int) (x : Int) (hlen : l.length + 1 ≤ 4294967295) : Deed 33 [.iptr [.int .i64 x] 0] l (pushF l x) := by
  intro H bid rid ver hb
  refine ACall.of_wp told33 (by simp [il33]) (wpc_sound ?_)
  rw [start_env]
  simp only [il33, List.zipIdx_cons, List.zipIdx_nil, Nat.zero_add, go_sem, Nat.reduceEqDiff, reduceIte, Nat.reduceAdd, Nat.reduceLeDiff, Nat.reduceLT, Nat.reduceSub]
  refine Callee.plain (Callable.of told34) (push34_spec l x hlen hb) ?_
  rintro r H' ⟨h1, h2, h3⟩
  simp only [go_sem, Nat.reduceEqDiff, reduceIte, Nat.reduceAdd, Nat.reduceLeDiff, Nat.reduceLT, Nat.reduceSub]
  exact ⟨_, by omega, h2, h3⟩
theorem deed_cut (l : List Int) (k : Nat) (hk : k < l.length) (hlen : l.length ≤ 4294967296) : Deed 37 [.iptr [.int .i64 k] 0] l (cutF l k) := by
  intro H bid rid ver hb
  refine ACall.of_wp told37 (by simp [il37]) (wpc_sound ?_)
  rw [start_env]
  simp only [il37, List.zipIdx_cons, List.zipIdx_nil, Nat.zero_add, go_sem, Nat.reduceEqDiff, reduceIte, Nat.reduceAdd, Nat.reduceLeDiff, Nat.reduceLT, Nat.reduceSub]
  refine Callee.plain (Callable.of told38) (remove38_spec l k hk hlen hb) ?_
  rintro r H' ⟨v, h1, h2, h3⟩
  simp only [go_sem, Nat.reduceEqDiff, reduceIte, Nat.reduceAdd, Nat.reduceLeDiff, Nat.reduceLT, Nat.reduceSub]
  exact ⟨v, by omega, h2, h3⟩

theorem changed_spec (s q : List Int) (hs : s.length ≤ 4294967295) (c : Nat) (f : IFn) (hc : trFn seat c = some f) (cap : List AV) (hcap : ∀ x ∈ cap, Idb 0 x) (hd : Deed c cap s q) :
    Fun seat 29 [setA s, .func (.f c) [] cap] (setA q) := by
  refine Fun.of0 told29 (by simp [il29]) (by simpa [idb_setA] using hcap) (by simp [idb_setA]) 2 ?_
  simp only [il29, List.zipIdx_cons, List.zipIdx_nil, Nat.zero_add, setA, go_sem, Nat.reduceEqDiff, reduceIte, Nat.reduceAdd, Nat.reduceLeDiff, Nat.reduceLT, Nat.reduceSub]
  refine Callee.own told45 (clone45_spec s hs) ?_
  simp only [go_sem, Nat.reduceEqDiff, reduceIte, Nat.reduceAdd, Nat.reduceLeDiff, Nat.reduceLT, Nat.reduceSub, List.length_map]
  refine Callee.fn (Callable.of hc) (hd _ 3 2 0 ⟨rfl, rfl⟩) ?_
  rintro r H' ⟨ver', h1, h2, h3⟩
  have g1 := h3 1 (by simp) (by decide) (by decide)
  simp only [List.getElem?_cons_succ, List.getElem?_cons_zero] at g1
  simp only [go_sem, Nat.reduceEqDiff, reduceIte, Nat.reduceAdd, Nat.reduceLeDiff, Nat.reduceLT, Nat.reduceSub, load_box h2.box, own_one h2.row]
  have hrow : (H'.set 1 (.box [.own 2 ver' 0 q.length]))[2]? = some (.arr 1 ver' (q.map (AV.int .i64))) := by rw [List.getElem?_set_ne (by decide)]; exact h2.row
  have hbox : (H'.set 1 (.box [.own 2 ver' 0 q.length]))[1]? = some (.box [.own 2 ver' 0 q.length]) := List.getElem?_set_self (lt_of_get g1)
  simp only [go_sem, Nat.reduceEqDiff, reduceIte, Nat.reduceAdd, Nat.reduceLeDiff, Nat.reduceLT, Nat.reduceSub, store_box1 g1 (show (AV.agg [AV.own 2 ver' 0 q.length]).cells = _ from rfl) (own_one h2.row)]
  refine ⟨.inr rfl, _, load_boxA hbox, ?_⟩
  simp only [canon_agg, List.map_cons, List.map_nil, encI64.canon_own_all hrow]
  rfl
end Go.Proofs.Ytfifhibajpgpmaa.Al

/- SPECS: the package free. -/
namespace Go.Proofs.Ytfifhibajpgpmaa.Al
open Go
attribute [local go_sem] W_mv W_pick W_alloc W_box W_build W_bslice W_load W_store W_nilck W_bin W_isnil W_un W_convI W_convS W_mkiface W_mkfunc W_mkslice W_slice W_faddr W_field W_iaddr W_iaddrA W_idxA W_extract W_len W_lenS W_lenA W_min W_max W_append W_appendZ W_copy W_clear W_tassert W_invoke thenQ_normal thenQ_exit thenQ_goto thenQ_ret blockQ_normal blockQ_ret blockQ_goto blockQ_exit wpc_skip wpc_region wpc_draw wpc_seq wpc_cond wpc_block wpc_exit wpc_goto wpc_label wpc_ret wpc_loop wpc_range wpc_scope condW_true condW_false condW_dec condW_any W_nil W_call resW_some evalOp Opd.ev updo_envL updo_none setL_cons setL_nil envL_cons Option.map_some Option.bind_some evBin evInt List.map_cons List.map_nil Option.pure_def Option.bind_eq_bind W_grd' grdW_tt grdW_ff grdW_tf grdW_ft grdW_tup grdW_dt grdW_df lgrdW_tt lgrdW_ff lgrdW_tf lgrdW_ft lgrdW_tup lgrdW_dt lgrdW_df L_mv L_pick L_alloc L_box L_build L_bslice L_load L_store L_nilck L_bin L_isnil L_un L_convI L_convS L_mkiface L_mkfunc L_mkslice L_slice L_faddr L_field L_iaddr L_iaddrA L_idxA L_extract L_len L_lenS L_lenA L_min L_max L_append L_appendZ L_copy L_clear L_tassert L_nil L_call L_grd lresW_some upd_envL evUn beq_dec bne_dec leaves_ret1 leaves_end1 leaves_ret0 leaves_end0 leaves_ret2 leaves_ret3 rowLen_ints load_iptr0 not_dec heap_get0 heap_get1 heap_set0 heap_set1 heap_len1 heap_len2 heap_app heap_app2 bslice1_int seen_ints seen_one0 seen_one1 seen_one2 rowLen_own0 bslice0_int rowLen_own1 Nat.sub_zero Bool.not_true Bool.not_false List.length_nil List.length_cons List.nil_append List.cons_append Nat.zero_add load_iptrA canon_ptrI canon_bool canon_tup canon_agg canon_leafA canon_innerA canon_nodeA canon_ints' rowLen_ints0 seen_ints0 canon_ints0 rowLen_ints1 seen_ints1 canon_ints1 rowLen_ints2 seen_ints2 canon_ints2 rowLen_ints3 seen_ints3 canon_ints3 rowLen_octs seen_octs canon_octs' szOk_octs rowLen_octs0 seen_octs0 canon_octs0 rowLen_octs1 seen_octs1 canon_octs1 rowLen_octs2 seen_octs2 canon_octs2 rowLen_octs3 seen_octs3 canon_octs3 rowLen_intss seen_intss canon_intss' szOk_intss rowLen_intss0 seen_intss0 canon_intss0 rowLen_intss1 seen_intss1 canon_intss1 rowLen_intss2 seen_intss2 canon_intss2 rowLen_intss3 seen_intss3 canon_intss3 rowLen_octss seen_octss canon_octss' szOk_octss rowLen_octss0 seen_octss0 canon_octss0 rowLen_octss1 seen_octss1 canon_octss1 rowLen_octss2 seen_octss2 canon_octss2 rowLen_octss3 seen_octss3 canon_octss3 rowLen_nodes seen_nodes canon_nodes' szOk_nodes rowLen_nodes0 seen_nodes0 canon_nodes0 rowLen_nodes1 seen_nodes1 canon_nodes1 rowLen_nodes2 seen_nodes2 canon_nodes2 rowLen_nodes3 seen_nodes3 canon_nodes3
attribute [local simp] envL_cons envL_nil idb_int idb_bool idb_str idb_ints idb_nil idb_own idb_ptr entB_ints' idb_octs entB_octs idb_intss entB_intss idb_octss entB_octss idb_nodes entB_nodes idb_leafA idb_innerA idb_nodeA idb_agg idb_tup idb_iptr idb_fn idb_undef entB_dead entB_box

/-- Where a number stands, or -1. -/
def idx (l : List Int) (x : Int) : Int := if x ∈ l then (l.idxOf x : Int) else -1

theorem idxOf_at {l : List Int} {x : Int} : ∀ {k : Nat} (hk : k < l.length), l[k] = x → (∀ j (hj : j < k) (h : j < l.length), l[j] ≠ x) → l.idxOf x = k := by
  induction l with
  | nil => intro k hk; simp at hk
  | cons y l ih =>
    intro k hk he hno
    cases k with
    | zero => simp at he; subst he; simp
    | succ k =>
      have h0 := hno 0 (by omega) (by simp)
      simp only [List.getElem_cons_zero] at h0
      have hb : (y == x) = false := by simpa using h0
      rw [List.idxOf_cons, hb, cond_false, ih (by simpa using hk) (by simpa using he) fun j hj h e => hno (j + 1) (by omega) (by simpa using h) (by simpa using e)]

theorem index36_spec (l : List Int) (x : Int) (hl : l.length ≤ 9223372036854775807) : Fun seat 36 [ints l, .int .i64 x] (.int .i64 (idx l x)) := by
  refine Fun.of0 told36 (by simp [il36]) (by simp ) (by simp ) 0 ?_
  simp only [il36, List.zipIdx_cons, List.zipIdx_nil, Nat.zero_add, go_sem, Nat.reduceEqDiff, reduceIte, Nat.reduceAdd]
  refine WP.loop0 (fun k => k ≤ l.length ∧ ∀ j (hj : j < l.length), j < k → l[j] ≠ x) (fun k => [(0, ints l), (1, .int .i64 x), (4, .int .i64 0), (7, .int .i64 l.length), (8, .int .i64 k)]) (fun k => l.length - k) 0 (by simp) (by simp ) (by simp ) ?_
  rintro k ⟨hk, hno⟩
  refine wpc_sound ?_
  simp only [go_sem, Nat.reduceEqDiff, reduceIte, Nat.reduceAdd]
  refine ⟨fun h => ?_, fun h => ?_⟩
  · have hk' : k < l.length := by omega
    simp only [index_ints _ l k hk', wrapS (show k < 9223372036854775807 by omega), go_sem, Nat.reduceEqDiff, reduceIte, Nat.reduceAdd]
    refine ⟨fun ht => ?_, fun ht => ?_⟩
    · have hm : x ∈ l := by rw [ht]; exact List.getElem_mem _
      rw [idx, if_pos hm, idxOf_at hk' ht.symm fun j hj h => hno j h hj]
    · refine ⟨k + 1, ⟨hk', fun j hj hjk => ?_⟩, by omega, by simp ⟩
      rcases Nat.lt_or_ge j k with h | h
      · exact hno j hj h
      · have : j = k := by omega
        subst this; exact fun e => ht e.symm
  · have hm : x ∉ l := fun hm => by
      obtain ⟨j, hj, e⟩ := List.getElem_of_mem hm
      exact hno j hj (by omega) e
    rw [idx, if_neg hm]

theorem contains32_spec (l : List Int) (x : Int) (hl : l.length ≤ 9223372036854775807) : Fun seat 32 [ints l, .int .i64 x] (.bool (decide (x ∈ l))) := by
  refine Fun.of0 told32 (by simp [il32]) (by simp ) (by simp ) 0 ?_
  simp only [il32, List.zipIdx_cons, List.zipIdx_nil, Nat.zero_add, go_sem, Nat.reduceEqDiff, reduceIte, Nat.reduceAdd]
  refine Callee.f told36 (index36_spec l x hl) ?_
  simp only [go_sem, Nat.reduceEqDiff, reduceIte, Nat.reduceAdd]
  by_cases h : x ∈ l
  · simp [idx, h]
  · simp [idx, h]

end Go.Proofs.Ytfifhibajpgpmaa.Al
namespace Go.Proofs.Ytfifhibajpgpmaa.Al
open Go
attribute [local go_sem] W_mv W_pick W_alloc W_box W_build W_bslice W_load W_store W_nilck W_bin W_isnil W_un W_convI W_convS W_mkiface W_mkfunc W_mkslice W_slice W_faddr W_field W_iaddr W_iaddrA W_idxA W_extract W_len W_lenS W_lenA W_min W_max W_append W_appendZ W_copy W_clear W_tassert W_invoke thenQ_normal thenQ_exit thenQ_goto thenQ_ret blockQ_normal blockQ_ret blockQ_goto blockQ_exit wpc_skip wpc_region wpc_draw wpc_seq wpc_cond wpc_block wpc_exit wpc_goto wpc_label wpc_ret wpc_loop wpc_range wpc_scope condW_true condW_false condW_dec condW_any W_nil W_call resW_some evalOp Opd.ev updo_envL updo_none setL_cons setL_nil envL_cons Option.map_some Option.bind_some evBin evInt List.map_cons List.map_nil Option.pure_def Option.bind_eq_bind W_grd' grdW_tt grdW_ff grdW_tf grdW_ft grdW_tup grdW_dt grdW_df lgrdW_tt lgrdW_ff lgrdW_tf lgrdW_ft lgrdW_tup lgrdW_dt lgrdW_df L_mv L_pick L_alloc L_box L_build L_bslice L_load L_store L_nilck L_bin L_isnil L_un L_convI L_convS L_mkiface L_mkfunc L_mkslice L_slice L_faddr L_field L_iaddr L_iaddrA L_idxA L_extract L_len L_lenS L_lenA L_min L_max L_append L_appendZ L_copy L_clear L_tassert L_nil L_call L_grd lresW_some upd_envL evUn beq_dec bne_dec leaves_ret1 leaves_end1 leaves_ret0 leaves_end0 leaves_ret2 leaves_ret3 rowLen_ints load_iptr0 not_dec heap_get0 heap_get1 heap_set0 heap_set1 heap_len1 heap_len2 heap_app heap_app2 bslice1_int seen_ints seen_one0 seen_one1 seen_one2 rowLen_own0 bslice0_int rowLen_own1 Nat.sub_zero Bool.not_true Bool.not_false List.length_nil List.length_cons List.nil_append List.cons_append Nat.zero_add load_iptrA canon_ptrI canon_bool canon_tup canon_agg canon_leafA canon_innerA canon_nodeA canon_ints' rowLen_ints0 seen_ints0 canon_ints0 rowLen_ints1 seen_ints1 canon_ints1 rowLen_ints2 seen_ints2 canon_ints2 rowLen_ints3 seen_ints3 canon_ints3 rowLen_octs seen_octs canon_octs' szOk_octs rowLen_octs0 seen_octs0 canon_octs0 rowLen_octs1 seen_octs1 canon_octs1 rowLen_octs2 seen_octs2 canon_octs2 rowLen_octs3 seen_octs3 canon_octs3 rowLen_intss seen_intss canon_intss' szOk_intss rowLen_intss0 seen_intss0 canon_intss0 rowLen_intss1 seen_intss1 canon_intss1 rowLen_intss2 seen_intss2 canon_intss2 rowLen_intss3 seen_intss3 canon_intss3 rowLen_octss seen_octss canon_octss' szOk_octss rowLen_octss0 seen_octss0 canon_octss0 rowLen_octss1 seen_octss1 canon_octss1 rowLen_octss2 seen_octss2 canon_octss2 rowLen_octss3 seen_octss3 canon_octss3 rowLen_nodes seen_nodes canon_nodes' szOk_nodes rowLen_nodes0 seen_nodes0 canon_nodes0 rowLen_nodes1 seen_nodes1 canon_nodes1 rowLen_nodes2 seen_nodes2 canon_nodes2 rowLen_nodes3 seen_nodes3 canon_nodes3 seen_list cells_int oneIn_int cells_bool oneIn_bool cells_str oneIn_str cells_list oneIn_list cells_func oneIn_func cells_nilfunc oneIn_nilfunc cells_iptr oneIn_iptr cells_iface oneIn_iface cells_nilIface oneIn_nilIface cells_own cells_ptr cells_anybool oneIn_anybool cells_agg oneIn_own0 oneIn_ptr0 seenL0 seenM0 oneIn_own1 oneIn_ptr1 seenL1 seenM1 oneIn_own2 oneIn_ptr2 seenL2 seenM2 oneIn_own3 oneIn_ptr3 seenL3 seenM3 oneIn_own4 oneIn_ptr4 seenL4 seenM4 oneIn_own5 oneIn_ptr5 seenL5 seenM5 cells_ints oneIn_ints cells_octs oneIn_octs cells_intss oneIn_intss cells_octss oneIn_octss cells_nodes oneIn_nodes ldB0 ldA0 adB0 stB0 ldB1 ldA1 adB1 stB1 ldB2 ldA2 adB2 stB2 ldB3 ldA3 adB3 stB3 ldB4 ldA4 adB4 stB4 ldB5 ldA5 adB5 stB5 List.getElem?_cons_zero List.getElem?_cons_succ beq_self_eq_true splice List.take_zero List.take_succ_cons List.drop_zero List.drop_succ_cons List.append_nil List.set_cons_zero List.set_cons_succ List.all_cons List.all_nil Bool.and_self and_self and_true true_and Nat.lt_irrefl Nat.zero_lt_one Nat.le_refl fillA evNil notA Bool.false_eq_true evMin_int evMax_int Option.map_none freezeP_all_nil freezeP_all_cons frzE_box frzE_arr frzE_dead foldA List.foldlM_cons List.foldlM_nil
attribute [local simp] envL_cons envL_nil idb_int idb_bool idb_str idb_ints idb_nil idb_own idb_ptr entB_ints' idb_octs entB_octs idb_intss entB_intss idb_octss entB_octss idb_nodes entB_nodes idb_leafA idb_innerA idb_nodeA idb_agg idb_tup idb_iptr idb_fn idb_undef entB_dead entB_box

theorem values28_spec (l : List Int) : Fun seat 28 [ints l] (.func (.f 44) [] [.iptr [ints l] 0]) := by
  refine Fun.of0W told28 (by simp [il28]) (by simp ) (by simp ) 0 ?_
  simp only [il28, List.zipIdx_cons, List.zipIdx_nil, Nat.zero_add, List.map_cons, List.map_nil]
  refine WP.seqS [(0, ints l), (1, .ptr 0 0), (2, .nilfunc)] [.box [ints l]] (by simp only [go_sem, Nat.reduceEqDiff, reduceIte, Nat.reduceAdd, Nat.reduceLeDiff, Nat.reduceLT, Nat.reduceSub]; simp ) ?_
  refine WP.sealB 1 0 rfl rfl ?_
  refine wpc_sound ?_
  simp only [go_sem, Nat.reduceEqDiff, reduceIte, Nat.reduceAdd, Nat.reduceLeDiff, Nat.reduceLT, Nat.reduceSub]
  rfl

end Go.Proofs.Ytfifhibajpgpmaa.Al
namespace Go.Proofs.Ytfifhibajpgpmaa.Al
open Go
attribute [local go_sem] W_mv W_pick W_alloc W_box W_build W_bslice W_load W_store W_nilck W_bin W_isnil W_un W_convI W_convS W_mkiface W_mkfunc W_mkslice W_slice W_faddr W_field W_iaddr W_iaddrA W_idxA W_extract W_len W_lenS W_lenA W_min W_max W_append W_appendZ W_copy W_clear W_tassert W_invoke thenQ_normal thenQ_exit thenQ_goto thenQ_ret blockQ_normal blockQ_ret blockQ_goto blockQ_exit wpc_skip wpc_region wpc_draw wpc_seq wpc_cond wpc_block wpc_exit wpc_goto wpc_label wpc_ret wpc_loop wpc_range wpc_scope condW_true condW_false condW_dec condW_any W_nil W_call resW_some evalOp Opd.ev updo_envL updo_none setL_cons setL_nil envL_cons Option.map_some Option.bind_some evBin evInt List.map_cons List.map_nil Option.pure_def Option.bind_eq_bind W_grd' grdW_tt grdW_ff grdW_tf grdW_ft grdW_tup grdW_dt grdW_df lgrdW_tt lgrdW_ff lgrdW_tf lgrdW_ft lgrdW_tup lgrdW_dt lgrdW_df L_mv L_pick L_alloc L_box L_build L_bslice L_load L_store L_nilck L_bin L_isnil L_un L_convI L_convS L_mkiface L_mkfunc L_mkslice L_slice L_faddr L_field L_iaddr L_iaddrA L_idxA L_extract L_len L_lenS L_lenA L_min L_max L_append L_appendZ L_copy L_clear L_tassert L_nil L_call L_grd lresW_some upd_envL evUn beq_dec bne_dec leaves_ret1 leaves_end1 leaves_ret0 leaves_end0 leaves_ret2 leaves_ret3 rowLen_ints load_iptr0 not_dec heap_get0 heap_get1 heap_set0 heap_set1 heap_len1 heap_len2 heap_app heap_app2 bslice1_int seen_ints seen_one0 seen_one1 seen_one2 rowLen_own0 bslice0_int rowLen_own1 Nat.sub_zero Bool.not_true Bool.not_false List.length_nil List.length_cons List.nil_append List.cons_append Nat.zero_add load_iptrA canon_ptrI canon_bool canon_tup canon_agg canon_leafA canon_innerA canon_nodeA canon_ints' rowLen_ints0 seen_ints0 canon_ints0 rowLen_ints1 seen_ints1 canon_ints1 rowLen_ints2 seen_ints2 canon_ints2 rowLen_ints3 seen_ints3 canon_ints3 rowLen_octs seen_octs canon_octs' szOk_octs rowLen_octs0 seen_octs0 canon_octs0 rowLen_octs1 seen_octs1 canon_octs1 rowLen_octs2 seen_octs2 canon_octs2 rowLen_octs3 seen_octs3 canon_octs3 rowLen_intss seen_intss canon_intss' szOk_intss rowLen_intss0 seen_intss0 canon_intss0 rowLen_intss1 seen_intss1 canon_intss1 rowLen_intss2 seen_intss2 canon_intss2 rowLen_intss3 seen_intss3 canon_intss3 rowLen_octss seen_octss canon_octss' szOk_octss rowLen_octss0 seen_octss0 canon_octss0 rowLen_octss1 seen_octss1 canon_octss1 rowLen_octss2 seen_octss2 canon_octss2 rowLen_octss3 seen_octss3 canon_octss3 rowLen_nodes seen_nodes canon_nodes' szOk_nodes rowLen_nodes0 seen_nodes0 canon_nodes0 rowLen_nodes1 seen_nodes1 canon_nodes1 rowLen_nodes2 seen_nodes2 canon_nodes2 rowLen_nodes3 seen_nodes3 canon_nodes3
attribute [local simp] envL_cons envL_nil idb_int idb_bool idb_str idb_ints idb_nil idb_own idb_ptr entB_ints' idb_octs entB_octs idb_intss entB_intss idb_octss entB_octss idb_nodes entB_nodes idb_leafA idb_innerA idb_nodeA idb_agg idb_tup idb_iptr idb_fn idb_undef entB_dead entB_box

theorem valuesIter44 (l : List Int) (hl : l.length ≤ 9223372036854775807) : Gives seat 44 [.iptr [ints l] 0] (l.map (AV.int .i64)) := by
  intro id H0 J Jx h0 hround
  refine ACall.of_wp told44 (by simp [il44]) (wpc_sound ?_)
  rw [start_env]
  simp only [il44, List.zipIdx_cons, List.zipIdx_nil, Nat.zero_add, List.cons_append, List.nil_append, go_sem, Nat.reduceEqDiff, reduceIte, Nat.reduceAdd]
  refine WP.loopJ (fun k : Nat => [(0, .func (.y id) [] []), (5, ints l), (6, .int .i64 l.length), (7, .int .i64 k)]) (fun k H => k ≤ l.length ∧ J k H) (fun k => l.length - k) 0 (by simp ) ⟨Nat.zero_le _, h0⟩ ?_
  rintro k H ⟨hk, hj⟩
  refine wpc_sound ?_
  simp only [go_sem, Nat.reduceEqDiff, reduceIte, Nat.reduceAdd]
  refine ⟨fun h => ?_, fun h => ?_⟩
  · have hk' : k < l.length := by omega
    simp only [index_ints _ l k hk', wrapS (show k < 9223372036854775807 by omega), go_sem, Nat.reduceEqDiff, reduceIte, Nat.reduceAdd]
    have hr := hround k (by simpa using hk') H hj
    rw [List.getElem_map] at hr
    refine Callee.yld hr ?_
    rintro r H' (⟨rfl, hj'⟩ | ⟨rfl, hx⟩)
    · simp only [go_sem, Nat.reduceEqDiff, reduceIte, Nat.reduceAdd]
      exact ⟨k + 1, ⟨hk', hj'⟩, by omega, by simp [wrapS (show k < 9223372036854775807 by omega)]⟩
    · simp only [go_sem, Nat.reduceEqDiff, reduceIte, Nat.reduceAdd]
      exact .inr hx
  · have hke : k = l.length := by omega
    subst hke
    exact .inl (by simpa using hj)

end Go.Proofs.Ytfifhibajpgpmaa.Al
namespace Go.Proofs.Ytfifhibajpgpmaa.Al
open Go
attribute [local go_sem] W_mv W_pick W_alloc W_box W_build W_bslice W_load W_store W_nilck W_bin W_isnil W_un W_convI W_convS W_mkiface W_mkfunc W_mkslice W_slice W_faddr W_field W_iaddr W_iaddrA W_idxA W_extract W_len W_lenS W_lenA W_min W_max W_append W_appendZ W_copy W_clear W_tassert W_invoke thenQ_normal thenQ_exit thenQ_goto thenQ_ret blockQ_normal blockQ_ret blockQ_goto blockQ_exit wpc_skip wpc_region wpc_draw wpc_seq wpc_cond wpc_block wpc_exit wpc_goto wpc_label wpc_ret wpc_loop wpc_range wpc_scope condW_true condW_false condW_dec condW_any W_nil W_call resW_some evalOp Opd.ev updo_envL updo_none setL_cons setL_nil envL_cons Option.map_some Option.bind_some evBin evInt List.map_cons List.map_nil Option.pure_def Option.bind_eq_bind W_grd' grdW_tt grdW_ff grdW_tf grdW_ft grdW_tup grdW_dt grdW_df lgrdW_tt lgrdW_ff lgrdW_tf lgrdW_ft lgrdW_tup lgrdW_dt lgrdW_df L_mv L_pick L_alloc L_box L_build L_bslice L_load L_store L_nilck L_bin L_isnil L_un L_convI L_convS L_mkiface L_mkfunc L_mkslice L_slice L_faddr L_field L_iaddr L_iaddrA L_idxA L_extract L_len L_lenS L_lenA L_min L_max L_append L_appendZ L_copy L_clear L_tassert L_nil L_call L_grd lresW_some upd_envL evUn beq_dec bne_dec leaves_ret1 leaves_end1 leaves_ret0 leaves_end0 leaves_ret2 leaves_ret3 rowLen_ints load_iptr0 not_dec heap_get0 heap_get1 heap_set0 heap_set1 heap_len1 heap_len2 heap_app heap_app2 bslice1_int seen_ints seen_one0 seen_one1 seen_one2 rowLen_own0 bslice0_int rowLen_own1 Nat.sub_zero Bool.not_true Bool.not_false List.length_nil List.length_cons List.nil_append List.cons_append Nat.zero_add load_iptrA canon_ptrI canon_bool canon_tup canon_agg canon_leafA canon_innerA canon_nodeA canon_ints' rowLen_ints0 seen_ints0 canon_ints0 rowLen_ints1 seen_ints1 canon_ints1 rowLen_ints2 seen_ints2 canon_ints2 rowLen_ints3 seen_ints3 canon_ints3 rowLen_octs seen_octs canon_octs' szOk_octs rowLen_octs0 seen_octs0 canon_octs0 rowLen_octs1 seen_octs1 canon_octs1 rowLen_octs2 seen_octs2 canon_octs2 rowLen_octs3 seen_octs3 canon_octs3 rowLen_intss seen_intss canon_intss' szOk_intss rowLen_intss0 seen_intss0 canon_intss0 rowLen_intss1 seen_intss1 canon_intss1 rowLen_intss2 seen_intss2 canon_intss2 rowLen_intss3 seen_intss3 canon_intss3 rowLen_octss seen_octss canon_octss' szOk_octss rowLen_octss0 seen_octss0 canon_octss0 rowLen_octss1 seen_octss1 canon_octss1 rowLen_octss2 seen_octss2 canon_octss2 rowLen_octss3 seen_octss3 canon_octss3 rowLen_nodes seen_nodes canon_nodes' szOk_nodes rowLen_nodes0 seen_nodes0 canon_nodes0 rowLen_nodes1 seen_nodes1 canon_nodes1 rowLen_nodes2 seen_nodes2 canon_nodes2 rowLen_nodes3 seen_nodes3 canon_nodes3 seen_list cells_int oneIn_int cells_bool oneIn_bool cells_str oneIn_str cells_list oneIn_list cells_func oneIn_func cells_nilfunc oneIn_nilfunc cells_iptr oneIn_iptr cells_iface oneIn_iface cells_nilIface oneIn_nilIface cells_own cells_ptr cells_anybool oneIn_anybool cells_agg oneIn_own0 oneIn_ptr0 seenL0 seenM0 oneIn_own1 oneIn_ptr1 seenL1 seenM1 oneIn_own2 oneIn_ptr2 seenL2 seenM2 oneIn_own3 oneIn_ptr3 seenL3 seenM3 oneIn_own4 oneIn_ptr4 seenL4 seenM4 oneIn_own5 oneIn_ptr5 seenL5 seenM5 cells_ints oneIn_ints cells_octs oneIn_octs cells_intss oneIn_intss cells_octss oneIn_octss cells_nodes oneIn_nodes ldB0 ldA0 adB0 stB0 ldB1 ldA1 adB1 stB1 ldB2 ldA2 adB2 stB2 ldB3 ldA3 adB3 stB3 ldB4 ldA4 adB4 stB4 ldB5 ldA5 adB5 stB5 List.getElem?_cons_zero List.getElem?_cons_succ beq_self_eq_true splice List.take_zero List.take_succ_cons List.drop_zero List.drop_succ_cons List.append_nil List.set_cons_zero List.set_cons_succ List.all_cons List.all_nil Bool.and_self and_self and_true true_and Nat.lt_irrefl Nat.zero_lt_one Nat.le_refl fillA evNil notA Bool.false_eq_true evMin_int evMax_int Option.map_none freezeP_all_nil freezeP_all_cons frzE_box frzE_arr frzE_dead foldA List.foldlM_cons List.foldlM_nil
attribute [local simp] envL_cons envL_nil idb_int idb_bool idb_str idb_ints idb_nil idb_own idb_ptr entB_ints' idb_octs entB_octs idb_intss entB_intss idb_octss entB_octss idb_nodes entB_nodes idb_leafA idb_innerA idb_nodeA idb_agg idb_tup idb_iptr idb_fn idb_undef entB_dead entB_box

/-- All numbers, rising. -/
theorem all11_spec (l : List Int) (hl : l.length ≤ 4294967295) : Fun seat 11 [setA l] (ints (sorted l)) := by
  refine Fun.of0 told11 (by simp [il11]) (by simp [idb_setA]) (by simp ) 1 ?_
  simp only [il11, List.zipIdx_cons, List.zipIdx_nil, Nat.zero_add, setA, go_sem, Nat.reduceEqDiff, reduceIte, Nat.reduceAdd, Nat.reduceLeDiff, Nat.reduceLT, Nat.reduceSub]
  refine Callee.f told28 (values28_spec l) ?_
  simp only [go_sem, Nat.reduceEqDiff, reduceIte, Nat.reduceAdd, Nat.reduceLeDiff, Nat.reduceLT, Nat.reduceSub]
  refine Callee.own told25 (sortedSeq_spec l hl 44 _ told44 _ (by simp ) (valuesIter44 l (by omega))) ?_
  simp only [go_sem, Nat.reduceEqDiff, reduceIte, Nat.reduceAdd, Nat.reduceLeDiff, Nat.reduceLT, Nat.reduceSub, List.length_map]

theorem len13_spec (l : List Int) : Fun seat 13 [setA l] (.int .i64 l.length) := by
  refine Fun.of0 told13 (by simp [il13]) (by simp [idb_setA]) (by simp ) 1 ?_
  simp only [il13, List.zipIdx_cons, List.zipIdx_nil, Nat.zero_add, setA, go_sem, Nat.reduceEqDiff, reduceIte, Nat.reduceAdd, Nat.reduceLeDiff, Nat.reduceLT, Nat.reduceSub, rowLen_ints]

theorem least18_spec (l : List Int) : Fun seat 18 [setA l] (.tup [.int .i64 (at' l 0), .bool (decide (0 < l.length))]) := by
  refine Fun.of0 told18 (by simp [il18]) (by simp [idb_setA]) (by simp ) 1 ?_
  simp only [il18, List.zipIdx_cons, List.zipIdx_nil, Nat.zero_add, setA, go_sem, Nat.reduceEqDiff, reduceIte, Nat.reduceAdd, Nat.reduceLeDiff, Nat.reduceLT, Nat.reduceSub, rowLen_ints]
  refine ⟨fun h0 => ?_, fun hne => ?_⟩
  · have : l = [] := List.eq_nil_of_length_eq_zero (by omega)
    subst this
    rfl
  · have h : 0 < l.length := by omega
    have e := index_ints [Entry.box [ints l]] l 0 h
    simp only [Int.ofNat_zero, Int.cast_ofNat_Int] at e
    simp only [e, go_sem, Nat.reduceEqDiff, reduceIte, Nat.reduceAdd, Nat.reduceLeDiff, Nat.reduceLT, Nat.reduceSub]
    simp [h, at_eq]

theorem rise_length_le (l : List Int) : (rise l).length ≤ l.length := length_rise_le l

theorem of10_spec (l : List Int) (hl : l.length ≤ 4294967295) : Fun seat 10 [ints l] (setA (rise l)) := by
  refine Fun.of0 told10 (by simp [il10]) (by simp ) (by simp [idb_setA]) 2 ?_
  simp only [il10, List.zipIdx_cons, List.zipIdx_nil, Nat.zero_add, setA, go_sem, Nat.reduceEqDiff, reduceIte, Nat.reduceAdd, Nat.reduceLeDiff, Nat.reduceLT, Nat.reduceSub]
  refine Callee.f told26 (values_spec l) ?_
  simp only [go_sem, Nat.reduceEqDiff, reduceIte, Nat.reduceAdd, Nat.reduceLeDiff, Nat.reduceLT, Nat.reduceSub]
  refine Callee.own told25 (sortedSeq_spec l hl 42 _ told42 _ (by simp ) (valuesIter l (by omega))) ?_
  simp only [go_sem, Nat.reduceEqDiff, reduceIte, Nat.reduceAdd, Nat.reduceLeDiff, Nat.reduceLT, Nat.reduceSub, List.length_map]
  refine Callee.plain (Callable.of told24) (compact_spec' (sorted l) rfl) ?_
  rintro _ _ ⟨rfl, rfl⟩
  rw [compact_sorted]
  simp only [go_sem, Nat.reduceEqDiff, reduceIte, Nat.reduceAdd, Nat.reduceLeDiff, Nat.reduceLT, Nat.reduceSub]
  refine Callee.plain (Callable.of told27) (init27_spec (rise l) (by have := rise_length_le l; omega) (heap_of_rises (rises_rise l)) ⟨rfl, rfl⟩) ?_
  rintro _ _ ⟨rfl, rfl⟩
  simp only [go_sem, Nat.reduceEqDiff, reduceIte, Nat.reduceAdd, Nat.reduceLeDiff, Nat.reduceLT, Nat.reduceSub]
  refine ⟨.inr rfl, _, rfl, ?_⟩
  simp only [go_sem, Nat.reduceEqDiff, reduceIte, Nat.reduceAdd, Nat.reduceLeDiff, Nat.reduceLT, Nat.reduceSub]

theorem put16_spec (l : List Int) (x : Int) (hl : l.length ≤ 4294967000) : Fun seat 16 [setA l, .int .i64 x] (setA (putS l x)) := by
  unfold putS
  refine Fun.of0W told16 (by simp [il16]) (by simp [idb_setA]) (by simp [idb_setA]) 2 ?_
  simp only [il16, List.zipIdx_cons, List.zipIdx_nil, Nat.zero_add, setA, List.map_cons, List.map_nil, Nat.reduceAdd]
  refine WP.seqS [(0, .agg [ints l]), (1, .int .i64 x), (2, .ptr 0 0), (3, .ptr 1 0), (4, .ptr 2 0)] [.box [ints l], .box [.int .i64 x], .box [.list true []]] (by simp only [go_sem, Nat.reduceEqDiff, reduceIte, Nat.reduceAdd, Nat.reduceLeDiff, Nat.reduceLT, Nat.reduceSub]; simp ) ?_
  refine WP.sealB 3 1 rfl rfl (wpc_sound ?_)
  simp only [go_sem, Nat.reduceEqDiff, reduceIte, Nat.reduceAdd, Nat.reduceLeDiff, Nat.reduceLT, Nat.reduceSub, upd_envL]
  refine Callee.f told32 (contains32_spec l x (by omega)) ?_
  simp only [go_sem, Nat.reduceEqDiff, reduceIte, Nat.reduceAdd, Nat.reduceLeDiff, Nat.reduceLT, Nat.reduceSub]
  refine ⟨fun h => ?_, fun h => ?_⟩
  · rw [if_pos h]
    refine ⟨.inr rfl, _, rfl, ?_⟩
    simp only [go_sem, Nat.reduceEqDiff, reduceIte, Nat.reduceAdd, Nat.reduceLeDiff, Nat.reduceLT, Nat.reduceSub]
  · rw [if_neg h]
    refine Callee.f told29 (changed_spec l (pushF l x) (by omega) 33 _ told33 _ (by simp ) (deed_push l x (by omega))) ?_
    simp only [go_sem, Nat.reduceEqDiff, reduceIte, Nat.reduceAdd, Nat.reduceLeDiff, Nat.reduceLT, Nat.reduceSub, setA]
    refine ⟨.inr rfl, _, rfl, ?_⟩
    simp only [go_sem, Nat.reduceEqDiff, reduceIte, Nat.reduceAdd, Nat.reduceLeDiff, Nat.reduceLT, Nat.reduceSub]

theorem drop19_spec (l : List Int) (x : Int) (hl : l.length ≤ 4294967000) : Fun seat 19 [setA l, .int .i64 x] (setA (dropS l x)) := by
  unfold dropS
  refine Fun.of0W told19 (by simp [il19]) (by simp [idb_setA]) (by simp [idb_setA]) 2 ?_
  simp only [il19, List.zipIdx_cons, List.zipIdx_nil, Nat.zero_add, setA, List.map_cons, List.map_nil, Nat.reduceAdd]
  refine WP.seqS [(0, .agg [ints l]), (1, .int .i64 x), (2, .ptr 0 0), (4, .ptr 1 0)] [.box [ints l], .box [.list true []]] (by simp only [go_sem, Nat.reduceEqDiff, reduceIte, Nat.reduceAdd, Nat.reduceLeDiff, Nat.reduceLT, Nat.reduceSub]; simp ) ?_
  refine WP.seqS [(0, .agg [ints l]), (1, .int .i64 x), (2, .ptr 0 0), (4, .ptr 1 0), (6, .ptr 0 0), (7, ints l), (8, .int .i64 x), (9, .int .i64 (idx l x)), (5, .ptr 2 0)] [.box [ints l], .box [.list true []], .box [.int .i64 (idx l x)]] ?_ ?_
  · simp only [go_sem, Nat.reduceEqDiff, reduceIte, Nat.reduceAdd, Nat.reduceLeDiff, Nat.reduceLT, Nat.reduceSub]
    refine Callee.f told36 (index36_spec l x (by omega)) ?_
    simp only [go_sem, Nat.reduceEqDiff, reduceIte, Nat.reduceAdd, Nat.reduceLeDiff, Nat.reduceLT, Nat.reduceSub]
    simp 
  refine WP.sealB 5 2 rfl rfl (wpc_sound ?_)
  simp only [go_sem, Nat.reduceEqDiff, reduceIte, Nat.reduceAdd, Nat.reduceLeDiff, Nat.reduceLT, Nat.reduceSub, upd_envL]
  by_cases hx : x ∈ l
  · have hi : l.idxOf x < l.length := List.idxOf_lt_length_of_mem hx
    have e : idx l x = (l.idxOf x : Int) := by rw [idx, if_pos hx]
    rw [e, if_pos hx]
    refine ⟨fun h => by omega, fun _ => ?_⟩
    refine Callee.f told29 (changed_spec l (cutF l (l.idxOf x)) (by omega) 37 _ told37 _ (by simp ) (deed_cut l _ hi (by omega))) ?_
    simp only [go_sem, Nat.reduceEqDiff, reduceIte, Nat.reduceAdd, Nat.reduceLeDiff, Nat.reduceLT, Nat.reduceSub, setA]
    refine ⟨.inr rfl, _, rfl, ?_⟩
    simp only [go_sem, Nat.reduceEqDiff, reduceIte, Nat.reduceAdd, Nat.reduceLeDiff, Nat.reduceLT, Nat.reduceSub]
  · have e : idx l x = -1 := by rw [idx, if_neg hx]
    rw [e, if_neg hx]
    refine ⟨fun _ => ?_, fun h => by omega⟩
    refine ⟨.inr rfl, _, rfl, ?_⟩
    simp only [go_sem, Nat.reduceEqDiff, reduceIte, Nat.reduceAdd, Nat.reduceLeDiff, Nat.reduceLT, Nat.reduceSub]

theorem take12_spec (l : List Int) (hl : l.length ≤ 4294967000) : Fun seat 12 [setA l] (.tup [setA (takeS l), .int .i64 (at' l 0), .bool (decide (0 < l.length))]) := by
  unfold takeS
  refine Fun.of0 told12 (by simp [il12]) (by simp [idb_setA]) (by simp [idb_setA]) 3 ?_
  simp only [il12, List.zipIdx_cons, List.zipIdx_nil, Nat.zero_add, setA, go_sem, Nat.reduceEqDiff, reduceIte, Nat.reduceAdd, Nat.reduceLeDiff, Nat.reduceLT, Nat.reduceSub]
  refine Callee.f told18 (least18_spec l) ?_
  simp only [go_sem, Nat.reduceEqDiff, reduceIte, Nat.reduceAdd, Nat.reduceLeDiff, Nat.reduceLT, Nat.reduceSub]
  refine ⟨fun h => ?_, fun h => ?_⟩
  · have : l = [] := List.eq_nil_of_length_eq_zero (by omega)
    subst this
    refine ⟨.inr rfl, _, rfl, ?_⟩
    simp only [go_sem, Nat.reduceEqDiff, reduceIte, Nat.reduceAdd, Nat.reduceLeDiff, Nat.reduceLT, Nat.reduceSub]
    simp [at', canon_agg, canon_ptrI, canon_bool, canon_ints']
  · have hp : 0 < l.length := Classical.not_not.1 h
    refine Callee.f told29 (changed_spec l (popF l) (by omega) 30 _ told30 [] (by simp) (deed_pop l hp (by omega))) ?_
    simp only [go_sem, Nat.reduceEqDiff, reduceIte, Nat.reduceAdd, Nat.reduceLeDiff, Nat.reduceLT, Nat.reduceSub, setA]
    refine ⟨.inr rfl, _, rfl, ?_⟩
    simp only [go_sem, Nat.reduceEqDiff, reduceIte, Nat.reduceAdd, Nat.reduceLeDiff, Nat.reduceLT, Nat.reduceSub]
    simp [hp, canon_agg, canon_ptrI, canon_bool, canon_ints']

theorem new15_spec (n : Int) : Fun seat 15 [.int .i64 n] (setA (upto (min n 200).toNat)) := by
  refine Fun.of0W told15 (by simp [il15]) (by simp ) (by simp [idb_setA]) 2 ?_
  simp only [il15, List.zipIdx_cons, List.zipIdx_nil, Nat.zero_add, setA, List.map_cons, List.map_nil, Nat.reduceAdd]
  refine WP.seqS [(0, .int .i64 n), (2, .ptr 0 0)] [.box [.list true []]] (by simp only [go_sem, Nat.reduceEqDiff, reduceIte, Nat.reduceAdd, Nat.reduceLeDiff, Nat.reduceLT, Nat.reduceSub]; simp ) ?_
  refine WP.seqS [(0, .int .i64 n), (2, .ptr 0 0), (3, .list true [])] [.box [.list true []]] (by simp only [go_sem, Nat.reduceEqDiff, reduceIte, Nat.reduceAdd, Nat.reduceLeDiff, Nat.reduceLT, Nat.reduceSub]; simp ) ?_
  refine WP.adopt 3 1 rfl (wpc_sound ?_)
  have e : (if (if 200 < n then 200 else n) > 0 then (if 200 < n then 200 else n) else 0) = (((min n 200).toNat : Nat) : Int) := by
    split <;> split <;> omega
  simp only [go_sem, Nat.reduceEqDiff, reduceIte, Nat.reduceAdd, Nat.reduceLeDiff, Nat.reduceLT, Nat.reduceSub, upd_envL, e]
  have hm : (min n 200).toNat ≤ 200 := by omega
  generalize (min n 200).toNat = M at hm ⊢
  refine WP.loopG (fun k => k ≤ M) (fun k => [(2, .ptr 0 0), (3, .own 1 k 0 (upto k).length), (7, .int .i64 M), (8, .int .i64 k)]) (fun k => [.box [.list true []], .arr 1 k ((upto k).map (AV.int .i64))]) (fun k => M - k) 0 (Nat.zero_le _)
    (fun k _ => ⟨Nat.zero_le _, by simp , by simp ⟩) ⟨by simp [upto], by simp [upto]⟩ ?_
  intro k hk
  refine wpc_sound ?_
  simp only [go_sem, Nat.reduceEqDiff, reduceIte, Nat.reduceAdd, Nat.reduceLeDiff, Nat.reduceLT, Nat.reduceSub]
  refine ⟨fun h => ?_, fun h => ?_⟩
  · simp only [wrapS (show k < 9223372036854775807 by omega), app_ints1 (show (upto k).length + 1 ≤ maxRow by rw [upto_length]; unfold maxRow; omega) (by decide : (8 : Nat) ≤ 4096), go_sem, Nat.reduceEqDiff, reduceIte, Nat.reduceAdd, Nat.reduceLeDiff, Nat.reduceLT, Nat.reduceSub]
    refine ⟨k + 1, by omega, by omega, ?_, ?_⟩
    · simp [upto_succ]
    · simp [upto_succ]
  · have hke : k = M := by omega
    subst hke
    refine Callee.plain (Callable.of told10) (ACall.frzN all 1 (by
      show ACall seat 10 ([_].map (canon _ 1)) _ _
      simp only [List.map_cons, List.map_nil, canon_ints1]
      exact of10_spec (upto k) (by rw [upto_length]; omega) _)) ?_
    rintro _ _ ⟨rfl, rfl⟩
    have hr : rise (upto k) = upto k := rise_of_rises (by
      unfold Rises upto
      rw [List.pairwise_map]
      exact List.Pairwise.imp (fun h => by simpa using h) (List.pairwise_lt_range))
    rw [hr]
    simp only [go_sem, Nat.reduceEqDiff, reduceIte, Nat.reduceAdd, Nat.reduceLeDiff, Nat.reduceLT, Nat.reduceSub, setA]
    refine ⟨.inr rfl, _, rfl, ?_⟩
    simp only [go_sem, Nat.reduceEqDiff, reduceIte, Nat.reduceAdd, Nat.reduceLeDiff, Nat.reduceLT, Nat.reduceSub]
end Go.Proofs.Ytfifhibajpgpmaa.Al
