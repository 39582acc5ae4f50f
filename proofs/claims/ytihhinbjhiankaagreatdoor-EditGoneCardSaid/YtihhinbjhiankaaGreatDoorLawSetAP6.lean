/-
  JOINED: N1, N2, N3, N4, S1, P8, S2A, S2B, S2
-/
import Derived.Test.YtihhinbjhiankaaGreatDoorLawSetAP5
import Derived.Test.YtihhinbjhiankaaGreatDoorLawSetAP3
import Derived.Test.YtihhinbjhiankaaGreatDoorLawSetAP4
set_option linter.unusedSimpArgs false
set_option linter.unusedVariables false
namespace Go.Proofs.YtihhinbjhiankaaGreatDoor.Al
open Go
attribute [local go_sem] W_mv W_pick W_alloc W_box W_build W_bslice W_load W_store W_bin W_isnil W_un W_convI W_convS W_mkfunc W_mkslice W_slice W_faddr W_field W_iaddr W_extract W_len W_min W_append W_appendZ W_copy W_invoke thenQ_normal thenQ_exit thenQ_goto thenQ_ret blockQ_normal blockQ_ret blockQ_goto blockQ_exit wpc_skip wpc_region wpc_draw wpc_seq wpc_cond wpc_block wpc_exit wpc_goto wpc_label wpc_ret wpc_loop wpc_range wpc_scope condW_true condW_false condW_dec condW_any W_nil W_call resW_some evalOp Opd.ev updo_envL updo_none setL_cons setL_nil envL_cons Option.map_some Option.bind_some evBin evInt List.map_cons List.map_nil Option.pure_def Option.bind_eq_bind W_grd' grdW_tt grdW_ff grdW_tf grdW_ft grdW_tup grdW_dt grdW_df lgrdW_tup L_mv L_load L_bin L_un L_faddr L_iaddr L_nil L_call lresW_some upd_envL evUn beq_dec bne_dec leaves_ret1 leaves_ret0 leaves_end0 rowLen_ints load_iptr0 not_dec heap_get0 heap_get1 heap_set0 heap_set1 heap_len1 heap_app bslice1_int seen_ints seen_one0 Nat.sub_zero Bool.not_true Bool.not_false List.length_nil List.length_cons List.nil_append List.cons_append Nat.zero_add load_iptrA canon_ptrI canon_bool canon_tup canon_agg canon_ints' canon_ints0 rowLen_octs seen_octs canon_octs' seen_intss seen_octss rowLen_nodes seen_nodes canon_nodes' rowLen_nodes0 rowLen_nodes1 seen_list cells_int oneIn_int cells_bool oneIn_bool cells_str oneIn_str cells_list oneIn_list cells_func oneIn_func cells_nilfunc oneIn_nilfunc cells_iptr oneIn_iptr cells_iface oneIn_iface cells_nilIface oneIn_nilIface cells_own cells_ptr cells_anybool oneIn_anybool cells_agg oneIn_own0 oneIn_own1 oneIn_own3 oneIn_own4 oneIn_own5 cells_ints oneIn_ints cells_octs oneIn_octs cells_intss oneIn_intss cells_octss oneIn_octss cells_nodes oneIn_nodes ldB0 ldA0 adB0 stB0 ldB1 ldA1 adB1 stB1 ldB2 ldA2 adB2 stB2 ldB3 ldA3 adB3 stB3 ldB4 ldA4 adB4 stB4 ldB5 ldA5 adB5 stB5 List.getElem?_cons_zero List.getElem?_cons_succ beq_self_eq_true splice List.take_zero List.take_succ_cons List.drop_zero List.drop_succ_cons List.append_nil List.set_cons_zero List.set_cons_succ List.all_cons List.all_nil Bool.and_self and_self and_true true_and Nat.lt_irrefl Nat.zero_lt_one Nat.le_refl fillA evNil notA Bool.false_eq_true evMin_int evMax_int Option.map_none freezeP_all_nil freezeP_all_cons frzE_box frzE_arr frzE_dead foldA List.foldlM_cons List.foldlM_nil
attribute [local simp] envL_cons envL_nil idb_int idb_bool idb_ints idb_nil idb_own idb_ptr idb_octs idb_nodes idb_leafA idb_innerA idb_nodeA idb_agg idb_tup idb_iptr idb_fn entB_dead entB_box
def bytesOf (l : List Int) : List UInt8 := l.map fun n => UInt8.ofNat n.toNat
theorem bytes_octs (l : List Int) : (l.map (AV.int .u8)).mapM byteOf = some (bytesOf l) := by
  induction l with
  | nil => rfl
  | cons x l ih => rw [List.map_cons, List.mapM_cons, ih]; rfl
theorem bytesOf_inj1 : ∀ {a b : List Int}, (∀ x ∈ a, IntKind.u8.min ≤ x ∧ x ≤ IntKind.u8.max) → (∀ x ∈ b, IntKind.u8.min ≤ x ∧ x ≤ IntKind.u8.max) → bytesOf a = bytesOf b → a = b
  | [], [], _, _, _ => rfl
  | [], y :: b, _, _, h => by simp [bytesOf] at h
  | x :: a, [], _, _, h => by simp [bytesOf] at h
  | x :: a, y :: b, ha, hb, h => by
    simp only [bytesOf, List.map_cons, List.cons.injEq] at h
    have hx := ha x (by simp)
    have hy := hb y (by simp)
    have hx0 : 0 ≤ x := hx.1
    have hx1 : x ≤ 255 := hx.2
    have hy0 : 0 ≤ y := hy.1
    have hy1 : y ≤ 255 := hy.2
    have e : x.toNat = y.toNat := by
      have := congrArg UInt8.toNat h.1
      rw [UInt8.toNat_ofNat', UInt8.toNat_ofNat', Nat.mod_eq_of_lt (by omega), Nat.mod_eq_of_lt (by omega)] at this
      exact this
    rw [show x = y by omega, bytesOf_inj1 (a := a) (b := b) (fun z hz => ha z (by simp [hz])) (fun z hz => hb z (by simp [hz])) h.2]
theorem bytesOf_inj {a b : List Int} (ha : Oct a) (hb : Oct b) (h : bytesOf a = bytesOf b) : a = b := bytesOf_inj1 ha.2 hb.2 h
theorem bytesOf_eq {a b : List Int} (ha : Oct a) (hb : Oct b) : (decide (bytesOf a = bytesOf b)) = decide (a = b) := by
  rw [decide_eq_decide]
  exact ⟨bytesOf_inj ha hb, fun h => by rw [h]⟩

theorem evStr_eql (a b : List UInt8) : evStr .eql a b = some (.bool (decide (a = b))) := by
  simp only [evStr]
  congr 2
  by_cases h : a = b
  · subst h; simp
  · simp [h]
/-- bytes.Equal. -/
theorem bytesEq_spec (a b : List Int) (ha : Oct a) (hb : Oct b) : Fun seat 156 [octs a, octs b] (.bool (decide (a = b))) := by
  refine Fun.of0 told156 (by simp [il156]) (by simp ) (by simp ) 0 ?_
  rw [← bytesOf_eq ha hb]
  simp only [il156, List.zipIdx_cons, List.zipIdx_nil, Nat.zero_add, go_sem, Nat.reduceEqDiff, reduceIte, Nat.reduceAdd, Nat.reduceLeDiff, Nat.reduceLT, Nat.reduceSub, bytes_octs, evStr_eql]

theorem big_spec (l : List Int) : Fun seat 158 [octs l] (.bool (decide ((l.length : Int) > 200))) := by
  refine Fun.of0 told158 (by simp [il158]) (by simp ) (by simp ) 0 ?_
  simp only [il158, List.zipIdx_cons, List.zipIdx_nil, Nat.zero_add, go_sem, Nat.reduceEqDiff, reduceIte, Nat.reduceAdd, Nat.reduceLeDiff, Nat.reduceLT, Nat.reduceSub]
theorem source_spec (x : Int) : Fun seat 160 [.int .i64 x] (.bool (decide (x ≥ 1 ∧ x ≤ 3))) := by
  refine Fun.of0 told160 (by simp [il160]) (by simp ) (by simp ) 0 ?_
  by_cases h : x ≥ 1
  · simp only [il160, List.zipIdx_cons, List.zipIdx_nil, Nat.zero_add, go_sem, Nat.reduceEqDiff, reduceIte, Nat.reduceAdd, Nat.reduceLeDiff, Nat.reduceLT, Nat.reduceSub, h, decide_true, true_and]
  · simp only [il160, List.zipIdx_cons, List.zipIdx_nil, Nat.zero_add, go_sem, Nat.reduceEqDiff, reduceIte, Nat.reduceAdd, Nat.reduceLeDiff, Nat.reduceLT, Nat.reduceSub, h, decide_false, false_and]
theorem wide_spec (x : Int) : Fun seat 161 [.int .i64 x] (.bool (decide (x < 0 ∨ x > 63))) := by
  refine Fun.of0 told161 (by simp [il161]) (by simp ) (by simp ) 0 ?_
  by_cases h : x < 0
  · simp only [il161, List.zipIdx_cons, List.zipIdx_nil, Nat.zero_add, go_sem, Nat.reduceEqDiff, reduceIte, Nat.reduceAdd, Nat.reduceLeDiff, Nat.reduceLT, Nat.reduceSub, h, decide_true, true_or]
  · simp only [il161, List.zipIdx_cons, List.zipIdx_nil, Nat.zero_add, go_sem, Nat.reduceEqDiff, reduceIte, Nat.reduceAdd, Nat.reduceLeDiff, Nat.reduceLT, Nat.reduceSub, h, decide_false, false_or]

end Go.Proofs.YtihhinbjhiankaaGreatDoor.Al
namespace Go.Proofs.YtihhinbjhiankaaGreatDoor.Al
open Go
attribute [local go_sem] W_mv W_pick W_alloc W_box W_build W_bslice W_load W_store W_bin W_isnil W_un W_convI W_convS W_mkfunc W_mkslice W_slice W_faddr W_field W_iaddr W_extract W_len W_min W_append W_appendZ W_copy W_invoke thenQ_normal thenQ_exit thenQ_goto thenQ_ret blockQ_normal blockQ_ret blockQ_goto blockQ_exit wpc_skip wpc_region wpc_draw wpc_seq wpc_cond wpc_block wpc_exit wpc_goto wpc_label wpc_ret wpc_loop wpc_range wpc_scope condW_true condW_false condW_dec condW_any W_nil W_call resW_some evalOp Opd.ev updo_envL updo_none setL_cons setL_nil envL_cons Option.map_some Option.bind_some evBin evInt List.map_cons List.map_nil Option.pure_def Option.bind_eq_bind W_grd' grdW_tt grdW_ff grdW_tf grdW_ft grdW_tup grdW_dt grdW_df lgrdW_tup L_mv L_load L_bin L_un L_faddr L_iaddr L_nil L_call lresW_some upd_envL evUn beq_dec bne_dec leaves_ret1 leaves_ret0 leaves_end0 rowLen_ints load_iptr0 not_dec heap_get0 heap_get1 heap_set0 heap_set1 heap_len1 heap_app bslice1_int seen_ints seen_one0 Nat.sub_zero Bool.not_true Bool.not_false
attribute [local simp] envL_cons envL_nil idb_int idb_bool idb_ints idb_nil idb_own idb_ptr
/-- slices.Equal. -/
theorem eqInts_spec (a b : List Int) : Fun seat 157 [ints a, ints b] (.bool (decide (a = b))) := by
  intro H
  refine ACall.bnd (t := false) (xs := a.map (AV.int .i64)) (by simp [ints]) fun hlen => ?_
  rw [List.length_map] at hlen
  refine Fun.of_wp told157 (by simp [il157]) (.bool _) (fun H hwf hi => ?_) H
  simp only [il157, List.zipIdx_cons, List.zipIdx_nil, Nat.zero_add, go_sem, Nat.reduceEqDiff, reduceIte]
  refine ⟨fun hne => ⟨?_, by simp⟩, fun heq => ?_⟩
  · have : a ≠ b := fun e => hne (by rw [e])
    simp [this]
  have hll : a.length = b.length := by omega
  refine WP.loopF (fun k => k ≤ a.length ∧ ∀ j (hj : j < a.length), j < k → a[j] = b[j]) (fun k => ⟨envL [(0, ints a), (1, ints b), (4, .bool false), (12, .int .i64 a.length), (13, .int .i64 k)], H⟩) (fun k => a.length - k) 0 (by simp) (Fits.of (by simp ) (by simp ) (by simp) hwf) (fun _ _ => Nat.le_refl _) ?_
  rintro k ⟨hk, hno⟩
  refine wpc_sound ?_
  simp only [go_sem, Nat.reduceEqDiff, reduceIte]
  refine ⟨fun h => ?_, fun h => ?_⟩
  · have hk' : k < a.length := by omega
    refine WP.drawL mixed (by decide) ?_
    simp only [go_sem, Nat.reduceEqDiff, reduceIte, index_ints H a k hk', index_ints H b k (by omega)]
    refine ⟨fun ht => ⟨?_, by simp⟩, fun ht => ?_⟩
    · have : a ≠ b := fun e => ht (by simp [e])
      simp [this]
    · refine ⟨k + 1, ⟨hk', fun j hj hjk => ?_⟩, by omega, Fits.of ?_ (by simp ) (by simp) hwf⟩
      · rcases Nat.lt_or_ge j k with h | h
        · exact hno j hj h
        · have : j = k := by omega
          subst this; exact Classical.not_not.1 ht
      · simp 
        exact wrap64 _ (by omega) (by omega)
  · refine ⟨?_, by simp⟩
    have : a = b := List.ext_getElem hll fun j h1 h2 => hno j h1 (by omega)
    simp [this]

end Go.Proofs.YtihhinbjhiankaaGreatDoor.Al
namespace Go.Proofs.YtihhinbjhiankaaGreatDoor.Al
open Go
attribute [local go_sem] W_mv W_pick W_alloc W_box W_build W_bslice W_load W_store W_bin W_isnil W_un W_convI W_convS W_mkfunc W_mkslice W_slice W_faddr W_field W_iaddr W_extract W_len W_min W_append W_appendZ W_copy W_invoke thenQ_normal thenQ_exit thenQ_goto thenQ_ret blockQ_normal blockQ_ret blockQ_goto blockQ_exit wpc_skip wpc_region wpc_draw wpc_seq wpc_cond wpc_block wpc_exit wpc_goto wpc_label wpc_ret wpc_loop wpc_range wpc_scope condW_true condW_false condW_dec condW_any W_nil W_call resW_some evalOp Opd.ev updo_envL updo_none setL_cons setL_nil envL_cons Option.map_some Option.bind_some evBin evInt List.map_cons List.map_nil Option.pure_def Option.bind_eq_bind W_grd' grdW_tt grdW_ff grdW_tf grdW_ft grdW_tup grdW_dt grdW_df lgrdW_tup L_mv L_load L_bin L_un L_faddr L_iaddr L_nil L_call lresW_some upd_envL evUn beq_dec bne_dec leaves_ret1 leaves_ret0 leaves_end0 rowLen_ints load_iptr0 not_dec heap_get0 heap_get1 heap_set0 heap_set1 heap_len1 heap_app bslice1_int seen_ints seen_one0 Nat.sub_zero Bool.not_true Bool.not_false List.length_nil List.length_cons List.nil_append List.cons_append Nat.zero_add load_iptrA canon_ptrI canon_bool canon_tup canon_agg canon_ints' canon_ints0 rowLen_octs seen_octs canon_octs' seen_intss seen_octss rowLen_nodes seen_nodes canon_nodes' rowLen_nodes0 rowLen_nodes1 seen_list cells_int oneIn_int cells_bool oneIn_bool cells_str oneIn_str cells_list oneIn_list cells_func oneIn_func cells_nilfunc oneIn_nilfunc cells_iptr oneIn_iptr cells_iface oneIn_iface cells_nilIface oneIn_nilIface cells_own cells_ptr cells_anybool oneIn_anybool cells_agg oneIn_own0 oneIn_own1 oneIn_own3 oneIn_own4 oneIn_own5 cells_ints oneIn_ints cells_octs oneIn_octs cells_intss oneIn_intss cells_octss oneIn_octss cells_nodes oneIn_nodes ldB0 ldA0 adB0 stB0 ldB1 ldA1 adB1 stB1 ldB2 ldA2 adB2 stB2 ldB3 ldA3 adB3 stB3 ldB4 ldA4 adB4 stB4 ldB5 ldA5 adB5 stB5 List.getElem?_cons_zero List.getElem?_cons_succ beq_self_eq_true splice List.take_zero List.take_succ_cons List.drop_zero List.drop_succ_cons List.append_nil List.set_cons_zero List.set_cons_succ List.all_cons List.all_nil Bool.and_self and_self and_true true_and Nat.lt_irrefl Nat.zero_lt_one Nat.le_refl fillA evNil notA Bool.false_eq_true evMin_int evMax_int Option.map_none freezeP_all_nil freezeP_all_cons frzE_box frzE_arr frzE_dead foldA List.foldlM_cons List.foldlM_nil
attribute [local simp] envL_cons envL_nil idb_int idb_bool idb_ints idb_nil idb_own idb_ptr idb_octs idb_nodes idb_leafA idb_innerA idb_nodeA idb_agg idb_tup idb_iptr idb_fn entB_dead entB_box
theorem idx166_spec (l : List (List Int)) (p : List Int → Bool) (c : Nat) (f : IFn) (ht : trFn seat c = some f) (cap : List AV) (hcap : ∀ x ∈ cap, Idb 0 x) (h : ∀ x ∈ l, Fun seat c ([octs x] ++ cap) (.bool (p x))) : Fun seat 166 [encOcts.row l, .func (.f c) [] cap] (.int .i64 (idxF p l)) := by
  refine Fun.bd fun hbd => ?_
  have hlb : l.length ≤ 9223372036854775807 := encOcts.bd_len (t := false) hbd (by simp [Enc.row])
  refine Fun.of0 told166 (by simp [il166]) (by simpa [encOcts.idb_row] using hcap) (by simp ) 0 ?_
  simp only [il166, List.zipIdx_cons, List.zipIdx_nil, Nat.zero_add, go_sem, Nat.reduceEqDiff, reduceIte, Nat.reduceAdd, Nat.reduceLeDiff, Nat.reduceLT, Nat.reduceSub, encOcts.rowLen]
  refine WP.loop0 (fun k => k ≤ l.length ∧ ∀ j (hj : j < l.length), j < k → p l[j] = false) (fun k => [(0, encOcts.row l), (1, .func (.f c) [] cap), (7, .int .i64 l.length), (8, .int .i64 k)]) (fun k => l.length - k) 0 ⟨Nat.zero_le _, fun j _ h => by omega⟩
    (fun k _ => by simpa [encOcts.idb_row] using hcap) (by simp ) ?_
  rintro k ⟨hk, hno⟩
  refine wpc_sound ?_
  simp only [go_sem, Nat.reduceEqDiff, reduceIte, Nat.reduceAdd, Nat.reduceLeDiff, Nat.reduceLT, Nat.reduceSub]
  refine ⟨fun hlt => ?_, fun hge => ?_⟩
  · have hk' : k < l.length := by omega
    have ix : evIndex [] 1 (encOcts.row l) (.int .i64 (k : Int)) = some (.iptr ([octs l[k]]) 0) := encOcts.index [] l k hk'
    have ld : evLoad [] false 1 (.iptr ([octs l[k]]) 0) = some (octs l[k]) := rfl
    simp only [go_sem, Nat.reduceEqDiff, reduceIte, Nat.reduceAdd, Nat.reduceLeDiff, Nat.reduceLT, Nat.reduceSub, ix, ld]
    refine Callee.c ht (h l[k] (List.getElem_mem hk')) ?_
    cases hp : p l[k] with
    | true =>
      simp only [go_sem, Nat.reduceEqDiff, reduceIte, Nat.reduceAdd, Nat.reduceLeDiff, Nat.reduceLT, Nat.reduceSub]
      rw [findIdx_at hk' hp fun j hj => hno j (by omega) hj]
    | false =>
      simp only [go_sem, Nat.reduceEqDiff, reduceIte, Nat.reduceAdd, Nat.reduceLeDiff, Nat.reduceLT, Nat.reduceSub]
      refine ⟨k + 1, ⟨hk', fun j hj hjk => ?_⟩, by omega, by simp [wrapS (show k < 9223372036854775807 by omega)]⟩
      rcases Nat.lt_or_ge j k with hlt | hge
      · exact hno j hj hlt
      · obtain rfl : j = k := by omega
        exact hp
  · have hke : k = l.length := by omega
    subst hke
    rw [idxF_none fun j hj => hno j hj hj]

theorem idx167_spec (l : List (Int)) (p : Int → Bool) (c : Nat) (f : IFn) (ht : trFn seat c = some f) (cap : List AV) (hcap : ∀ x ∈ cap, Idb 0 x) (h : ∀ x ∈ l, Fun seat c ([.int .i64 x] ++ cap) (.bool (p x))) : Fun seat 167 [encI64.row l, .func (.f c) [] cap] (.int .i64 (idxF p l)) := by
  refine Fun.bd fun hbd => ?_
  have hlb : l.length ≤ 9223372036854775807 := encI64.bd_len (t := false) hbd (by simp [Enc.row])
  refine Fun.of0 told167 (by simp [il167]) (by simpa [encI64.idb_row] using hcap) (by simp ) 0 ?_
  simp only [il167, List.zipIdx_cons, List.zipIdx_nil, Nat.zero_add, go_sem, Nat.reduceEqDiff, reduceIte, Nat.reduceAdd, Nat.reduceLeDiff, Nat.reduceLT, Nat.reduceSub, encI64.rowLen]
  refine WP.loop0 (fun k => k ≤ l.length ∧ ∀ j (hj : j < l.length), j < k → p l[j] = false) (fun k => [(0, encI64.row l), (1, .func (.f c) [] cap), (7, .int .i64 l.length), (8, .int .i64 k)]) (fun k => l.length - k) 0 ⟨Nat.zero_le _, fun j _ h => by omega⟩
    (fun k _ => by simpa [encI64.idb_row] using hcap) (by simp ) ?_
  rintro k ⟨hk, hno⟩
  refine wpc_sound ?_
  simp only [go_sem, Nat.reduceEqDiff, reduceIte, Nat.reduceAdd, Nat.reduceLeDiff, Nat.reduceLT, Nat.reduceSub]
  refine ⟨fun hlt => ?_, fun hge => ?_⟩
  · have hk' : k < l.length := by omega
    have ix : evIndex [] 1 (encI64.row l) (.int .i64 (k : Int)) = some (.iptr ([.int .i64 l[k]]) 0) := encI64.index [] l k hk'
    have ld : evLoad [] false 1 (.iptr ([.int .i64 l[k]]) 0) = some (.int .i64 l[k]) := rfl
    simp only [go_sem, Nat.reduceEqDiff, reduceIte, Nat.reduceAdd, Nat.reduceLeDiff, Nat.reduceLT, Nat.reduceSub, ix, ld]
    refine Callee.c ht (h l[k] (List.getElem_mem hk')) ?_
    cases hp : p l[k] with
    | true =>
      simp only [go_sem, Nat.reduceEqDiff, reduceIte, Nat.reduceAdd, Nat.reduceLeDiff, Nat.reduceLT, Nat.reduceSub]
      rw [findIdx_at hk' hp fun j hj => hno j (by omega) hj]
    | false =>
      simp only [go_sem, Nat.reduceEqDiff, reduceIte, Nat.reduceAdd, Nat.reduceLeDiff, Nat.reduceLT, Nat.reduceSub]
      refine ⟨k + 1, ⟨hk', fun j hj hjk => ?_⟩, by omega, by simp [wrapS (show k < 9223372036854775807 by omega)]⟩
      rcases Nat.lt_or_ge j k with hlt | hge
      · exact hno j hj hlt
      · obtain rfl : j = k := by omega
        exact hp
  · have hke : k = l.length := by omega
    subst hke
    rw [idxF_none fun j hj => hno j hj hj]

theorem any159_spec (l : List (List Int)) (p : List Int → Bool) (c : Nat) (f : IFn) (ht : trFn seat c = some f) (cap : List AV) (hcap : ∀ x ∈ cap, Idb 0 x) (h : ∀ x ∈ l, Fun seat c ([octs x] ++ cap) (.bool (p x))) : Fun seat 159 [encOcts.row l, .func (.f c) [] cap] (.bool (l.any p)) := by
  refine Fun.of0 told159 (by simp [il159]) (by simpa [encOcts.idb_row] using hcap) (by simp ) 0 ?_
  rw [← idxF_ge]
  simp only [il159, List.zipIdx_cons, List.zipIdx_nil, Nat.zero_add, go_sem, Nat.reduceEqDiff, reduceIte, Nat.reduceAdd, Nat.reduceLeDiff, Nat.reduceLT, Nat.reduceSub]
  refine Callee.f told166 (idx166_spec l p c f ht cap hcap h) ?_
  simp only [go_sem, Nat.reduceEqDiff, reduceIte, Nat.reduceAdd, Nat.reduceLeDiff, Nat.reduceLT, Nat.reduceSub]
theorem any162_spec (l : List Int) (p : Int → Bool) (c : Nat) (f : IFn) (ht : trFn seat c = some f) (cap : List AV) (hcap : ∀ x ∈ cap, Idb 0 x) (h : ∀ x ∈ l, Fun seat c ([.int .i64 x] ++ cap) (.bool (p x))) : Fun seat 162 [encI64.row l, .func (.f c) [] cap] (.bool (l.any p)) := by
  refine Fun.of0 told162 (by simp [il162]) (by simpa [encI64.idb_row] using hcap) (by simp ) 0 ?_
  rw [← idxF_ge]
  simp only [il162, List.zipIdx_cons, List.zipIdx_nil, Nat.zero_add, go_sem, Nat.reduceEqDiff, reduceIte, Nat.reduceAdd, Nat.reduceLeDiff, Nat.reduceLT, Nat.reduceSub]
  refine Callee.f told167 (idx167_spec l p c f ht cap hcap h) ?_
  simp only [go_sem, Nat.reduceEqDiff, reduceIte, Nat.reduceAdd, Nat.reduceLeDiff, Nat.reduceLT, Nat.reduceSub]
end Go.Proofs.YtihhinbjhiankaaGreatDoor.Al

set_option linter.unusedSimpArgs false
set_option linter.unusedVariables false
namespace Go.Proofs.YtihhinbjhiankaaGreatDoor.Al
open Go
attribute [local go_sem] W_mv W_pick W_alloc W_box W_build W_bslice W_load W_store W_bin W_isnil W_un W_convI W_convS W_mkfunc W_mkslice W_slice W_faddr W_field W_iaddr W_extract W_len W_min W_append W_appendZ W_copy W_invoke thenQ_normal thenQ_exit thenQ_goto thenQ_ret blockQ_normal blockQ_ret blockQ_goto blockQ_exit wpc_skip wpc_region wpc_draw wpc_seq wpc_cond wpc_block wpc_exit wpc_goto wpc_label wpc_ret wpc_loop wpc_range wpc_scope condW_true condW_false condW_dec condW_any W_nil W_call resW_some evalOp Opd.ev updo_envL updo_none setL_cons setL_nil envL_cons Option.map_some Option.bind_some evBin evInt List.map_cons List.map_nil Option.pure_def Option.bind_eq_bind W_grd' grdW_tt grdW_ff grdW_tf grdW_ft grdW_tup grdW_dt grdW_df lgrdW_tup L_mv L_load L_bin L_un L_faddr L_iaddr L_nil L_call lresW_some upd_envL evUn beq_dec bne_dec leaves_ret1 leaves_ret0 leaves_end0 rowLen_ints load_iptr0 not_dec heap_get0 heap_get1 heap_set0 heap_set1 heap_len1 heap_app bslice1_int seen_ints seen_one0 Nat.sub_zero Bool.not_true Bool.not_false List.length_nil List.length_cons List.nil_append List.cons_append Nat.zero_add load_iptrA canon_ptrI canon_bool canon_tup canon_agg canon_ints' canon_ints0 rowLen_octs seen_octs canon_octs' seen_intss seen_octss rowLen_nodes seen_nodes canon_nodes' rowLen_nodes0 rowLen_nodes1 seen_list cells_int oneIn_int cells_bool oneIn_bool cells_str oneIn_str cells_list oneIn_list cells_func oneIn_func cells_nilfunc oneIn_nilfunc cells_iptr oneIn_iptr cells_iface oneIn_iface cells_nilIface oneIn_nilIface cells_own cells_ptr cells_anybool oneIn_anybool cells_agg oneIn_own0 oneIn_own1 oneIn_own3 oneIn_own4 oneIn_own5 cells_ints oneIn_ints cells_octs oneIn_octs cells_intss oneIn_intss cells_octss oneIn_octss cells_nodes oneIn_nodes ldB0 ldA0 adB0 stB0 ldB1 ldA1 adB1 stB1 ldB2 ldA2 adB2 stB2 ldB3 ldA3 adB3 stB3 ldB4 ldA4 adB4 stB4 ldB5 ldA5 adB5 stB5 List.getElem?_cons_zero List.getElem?_cons_succ beq_self_eq_true splice List.take_zero List.take_succ_cons List.drop_zero List.drop_succ_cons List.append_nil List.set_cons_zero List.set_cons_succ List.all_cons List.all_nil Bool.and_self and_self and_true true_and Nat.lt_irrefl Nat.zero_lt_one Nat.le_refl fillA evNil notA Bool.false_eq_true evMin_int evMax_int Option.map_none freezeP_all_nil freezeP_all_cons frzE_box frzE_arr frzE_dead foldA List.foldlM_cons List.foldlM_nil
attribute [local simp] envL_cons envL_nil idb_int idb_bool idb_ints idb_nil idb_own idb_ptr idb_octs idb_nodes idb_leafA idb_innerA idb_nodeA idb_agg idb_tup idb_iptr idb_fn entB_dead entB_box
/-- slices.Compact(slices.Sorted(slices.Values(l))). -/
theorem thin_spec (l : List Int) (hl : l.length ≤ 4294967295) : Fun seat 163 [ints l] (ints (rise l)) := by
  refine Fun.of0 told163 (by simp [il163]) (by simp ) (by simp ) 1 ?_
  simp only [il163, List.zipIdx_cons, List.zipIdx_nil, Nat.zero_add, go_sem, Nat.reduceEqDiff, reduceIte, Nat.reduceAdd, Nat.reduceLeDiff, Nat.reduceLT, Nat.reduceSub]
  refine Callee.f told26 (values_spec l) ?_
  simp only [go_sem, Nat.reduceEqDiff, reduceIte, Nat.reduceAdd, Nat.reduceLeDiff, Nat.reduceLT, Nat.reduceSub]
  refine Callee.own told25 (sortedSeq_spec l hl 42 il42 told42 [.iptr [ints l] 0] (by simp ) (valuesIter l (by omega))) ?_
  simp only [go_sem, Nat.reduceEqDiff, reduceIte, Nat.reduceAdd, Nat.reduceLeDiff, Nat.reduceLT, Nat.reduceSub, List.length_map]
  refine Callee.plain (Callable.of told24) (compact_spec' (sorted l) rfl) ?_
  rintro _ _ ⟨rfl, rfl⟩
  simp only [go_sem, Nat.reduceEqDiff, reduceIte, Nat.reduceAdd, Nat.reduceLeDiff, Nat.reduceLT, Nat.reduceSub]
  rw [← compact_sorted]

/-- leaf.Same. -/
theorem leafSame_spec (a b : Leaf) (ha : a.Ok) (hb : b.Ok) : Fun seat 142 [leafA a, leafA b] (.bool (decide (a = b))) := by
  refine Fun.of0 told142 (by simp [il142]) (by simp [idb_leafA]) (by simp ) 0 ?_
  simp only [il142, List.zipIdx_cons, List.zipIdx_nil, Nat.zero_add, leafA, Leaf.cells]
  have e : decide (a = b) = (decide (a.source = b.source) && decide (a.enc = b.enc) && decide (a.cred = b.cred) && decide (a.parent = b.parent)) := by
    cases a; cases b
    simp only [Leaf.mk.injEq]
    rw [Bool.eq_iff_iff]
    simp only [decide_eq_true_eq, Bool.and_eq_true]
    constructor
    · rintro ⟨h1, h2, h3, h4⟩; exact ⟨⟨⟨h3, h1⟩, h2⟩, h4⟩
    · rintro ⟨⟨⟨h3, h1⟩, h2⟩, h4⟩; exact ⟨h1, h2, h3, h4⟩
  rw [e]
  by_cases h1 : a.source = b.source
  · by_cases h2 : a.enc = b.enc
    · by_cases h3 : a.cred = b.cred
      · simp only [go_sem, Nat.reduceEqDiff, reduceIte, Nat.reduceAdd, Nat.reduceLeDiff, Nat.reduceLT, Nat.reduceSub, h1, decide_true]
        refine Callee.f told156 (bytesEq_spec a.enc b.enc ha.enc hb.enc) ?_
        simp only [go_sem, Nat.reduceEqDiff, reduceIte, Nat.reduceAdd, Nat.reduceLeDiff, Nat.reduceLT, Nat.reduceSub, h2, decide_true]
        refine Callee.f told156 (bytesEq_spec a.cred b.cred ha.cred hb.cred) ?_
        simp only [go_sem, Nat.reduceEqDiff, reduceIte, Nat.reduceAdd, Nat.reduceLeDiff, Nat.reduceLT, Nat.reduceSub, h3, decide_true]
        refine Callee.f told156 (bytesEq_spec a.parent b.parent ha.parent hb.parent) ?_
        simp only [go_sem, Nat.reduceEqDiff, reduceIte, Nat.reduceAdd, Nat.reduceLeDiff, Nat.reduceLT, Nat.reduceSub, Bool.true_and]
      · simp only [go_sem, Nat.reduceEqDiff, reduceIte, Nat.reduceAdd, Nat.reduceLeDiff, Nat.reduceLT, Nat.reduceSub, h1, decide_true]
        refine Callee.f told156 (bytesEq_spec a.enc b.enc ha.enc hb.enc) ?_
        simp only [go_sem, Nat.reduceEqDiff, reduceIte, Nat.reduceAdd, Nat.reduceLeDiff, Nat.reduceLT, Nat.reduceSub, h2, decide_true]
        refine Callee.f told156 (bytesEq_spec a.cred b.cred ha.cred hb.cred) ?_
        simp only [go_sem, Nat.reduceEqDiff, reduceIte, Nat.reduceAdd, Nat.reduceLeDiff, Nat.reduceLT, Nat.reduceSub, h3, decide_false, Bool.and_false, Bool.false_and]
    · simp only [go_sem, Nat.reduceEqDiff, reduceIte, Nat.reduceAdd, Nat.reduceLeDiff, Nat.reduceLT, Nat.reduceSub, h1, decide_true]
      refine Callee.f told156 (bytesEq_spec a.enc b.enc ha.enc hb.enc) ?_
      simp only [go_sem, Nat.reduceEqDiff, reduceIte, Nat.reduceAdd, Nat.reduceLeDiff, Nat.reduceLT, Nat.reduceSub, h2, decide_false, Bool.and_false, Bool.false_and]
  · simp only [go_sem, Nat.reduceEqDiff, reduceIte, Nat.reduceAdd, Nat.reduceLeDiff, Nat.reduceLT, Nat.reduceSub, h1, decide_false, Bool.false_and]

/-- inner.Same. -/
theorem innerSame_spec (a b : Inner) (ha : a.Ok) (hb : b.Ok) : Fun seat 143 [innerA a, innerA b] (.bool (decide (a = b))) := by
  refine Fun.of0 told143 (by simp [il143]) (by simp [idb_innerA]) (by simp ) 0 ?_
  simp only [il143, List.zipIdx_cons, List.zipIdx_nil, Nat.zero_add, innerA, Inner.cells]
  have e : decide (a = b) = (decide (a.enc = b.enc) && decide (a.hash = b.hash) && decide (a.unmerged = b.unmerged)) := by
    cases a; cases b
    simp only [Inner.mk.injEq]
    rw [Bool.eq_iff_iff]
    simp only [decide_eq_true_eq, Bool.and_eq_true, and_assoc]
  rw [e]
  simp only [go_sem, Nat.reduceEqDiff, reduceIte, Nat.reduceAdd, Nat.reduceLeDiff, Nat.reduceLT, Nat.reduceSub]
  refine Callee.f told156 (bytesEq_spec a.enc b.enc ha.enc hb.enc) ?_
  by_cases h2 : a.enc = b.enc
  · by_cases h3 : a.hash = b.hash
    · simp only [go_sem, Nat.reduceEqDiff, reduceIte, Nat.reduceAdd, Nat.reduceLeDiff, Nat.reduceLT, Nat.reduceSub, h2, decide_true]
      refine Callee.f told156 (bytesEq_spec a.hash b.hash ha.hash hb.hash) ?_
      simp only [go_sem, Nat.reduceEqDiff, reduceIte, Nat.reduceAdd, Nat.reduceLeDiff, Nat.reduceLT, Nat.reduceSub, h3, decide_true]
      refine Callee.f told157 (eqInts_spec a.unmerged b.unmerged) ?_
      simp only [go_sem, Nat.reduceEqDiff, reduceIte, Nat.reduceAdd, Nat.reduceLeDiff, Nat.reduceLT, Nat.reduceSub, Bool.true_and]
    · simp only [go_sem, Nat.reduceEqDiff, reduceIte, Nat.reduceAdd, Nat.reduceLeDiff, Nat.reduceLT, Nat.reduceSub, h2, decide_true]
      refine Callee.f told156 (bytesEq_spec a.hash b.hash ha.hash hb.hash) ?_
      simp only [go_sem, Nat.reduceEqDiff, reduceIte, Nat.reduceAdd, Nat.reduceLeDiff, Nat.reduceLT, Nat.reduceSub, h3, decide_false, Bool.and_false, Bool.false_and]
  · simp only [go_sem, Nat.reduceEqDiff, reduceIte, Nat.reduceAdd, Nat.reduceLeDiff, Nat.reduceLT, Nat.reduceSub, h2, decide_false, Bool.false_and]

end Go.Proofs.YtihhinbjhiankaaGreatDoor.Al

set_option linter.unusedSimpArgs false
set_option linter.unusedVariables false
namespace Go.Proofs.YtihhinbjhiankaaGreatDoor.Al
open Go
attribute [local go_sem] W_mv W_pick W_alloc W_box W_build W_bslice W_load W_store W_bin W_isnil W_un W_convI W_convS W_mkfunc W_mkslice W_slice W_faddr W_field W_iaddr W_extract W_len W_min W_append W_appendZ W_copy W_invoke thenQ_normal thenQ_exit thenQ_goto thenQ_ret blockQ_normal blockQ_ret blockQ_goto blockQ_exit wpc_skip wpc_region wpc_draw wpc_seq wpc_cond wpc_block wpc_exit wpc_goto wpc_label wpc_ret wpc_loop wpc_range wpc_scope condW_true condW_false condW_dec condW_any W_nil W_call resW_some evalOp Opd.ev updo_envL updo_none setL_cons setL_nil envL_cons Option.map_some Option.bind_some evBin evInt List.map_cons List.map_nil Option.pure_def Option.bind_eq_bind W_grd' grdW_tt grdW_ff grdW_tf grdW_ft grdW_tup grdW_dt grdW_df lgrdW_tup L_mv L_load L_bin L_un L_faddr L_iaddr L_nil L_call lresW_some upd_envL evUn beq_dec bne_dec leaves_ret1 leaves_ret0 leaves_end0 rowLen_ints load_iptr0 not_dec heap_get0 heap_get1 heap_set0 heap_set1 heap_len1 heap_app bslice1_int seen_ints seen_one0 Nat.sub_zero Bool.not_true Bool.not_false List.length_nil List.length_cons List.nil_append List.cons_append Nat.zero_add load_iptrA canon_ptrI canon_bool canon_tup canon_agg canon_ints' canon_ints0 rowLen_octs seen_octs canon_octs' seen_intss seen_octss rowLen_nodes seen_nodes canon_nodes' rowLen_nodes0 rowLen_nodes1 seen_list cells_int oneIn_int cells_bool oneIn_bool cells_str oneIn_str cells_list oneIn_list cells_func oneIn_func cells_nilfunc oneIn_nilfunc cells_iptr oneIn_iptr cells_iface oneIn_iface cells_nilIface oneIn_nilIface cells_own cells_ptr cells_anybool oneIn_anybool cells_agg oneIn_own0 oneIn_own1 oneIn_own3 oneIn_own4 oneIn_own5 cells_ints oneIn_ints cells_octs oneIn_octs cells_intss oneIn_intss cells_octss oneIn_octss cells_nodes oneIn_nodes ldB0 ldA0 adB0 stB0 ldB1 ldA1 adB1 stB1 ldB2 ldA2 adB2 stB2 ldB3 ldA3 adB3 stB3 ldB4 ldA4 adB4 stB4 ldB5 ldA5 adB5 stB5 List.getElem?_cons_zero List.getElem?_cons_succ beq_self_eq_true splice List.take_zero List.take_succ_cons List.drop_zero List.drop_succ_cons List.append_nil List.set_cons_zero List.set_cons_succ List.all_cons List.all_nil Bool.and_self and_self and_true true_and Nat.lt_irrefl Nat.zero_lt_one Nat.le_refl fillA evNil notA Bool.false_eq_true evMin_int evMax_int Option.map_none freezeP_all_nil freezeP_all_cons frzE_box frzE_arr frzE_dead foldA List.foldlM_cons List.foldlM_nil
attribute [local simp] envL_cons envL_nil idb_int idb_bool idb_ints idb_nil idb_own idb_ptr idb_octs idb_nodes idb_leafA idb_innerA idb_nodeA idb_agg idb_tup idb_iptr idb_fn entB_dead entB_box
/-- leaf.Check. -/
theorem leafCheck_spec (l : Leaf) : Fun seat 146 [leafA l] (.int .i64 (leafCheck l)) := by
  refine Fun.of0 told146 (by simp [il146]) (by simp [idb_leafA]) (by simp ) 0 ?_
  simp only [il146, List.zipIdx_cons, List.zipIdx_nil, Nat.zero_add, leafA, Leaf.cells, go_sem, Nat.reduceEqDiff, reduceIte, Nat.reduceAdd, Nat.reduceLeDiff, Nat.reduceLT, Nat.reduceSub]
  refine ⟨fun h => ?_, fun h => ?_⟩
  · have h0 : l.enc.length = 0 := by omega
    simp [leafCheck, h0]
  have h0 : ¬ l.enc.length = 0 := by omega
  have bs : evBslice [.box [octs l.enc, octs l.cred, .int .i64 l.source, octs l.parent]] 1 3 (.list true []) [(0, octs l.enc), (1, octs l.cred), (2, octs l.parent)] = some (.own 1 0 0 3, [.box [octs l.enc, octs l.cred, .int .i64 l.source, octs l.parent], .arr 1 0 [octs l.enc, octs l.cred, octs l.parent]]) := rfl
  simp only [go_sem, Nat.reduceEqDiff, reduceIte, Nat.reduceAdd, Nat.reduceLeDiff, Nat.reduceLT, Nat.reduceSub, bs]
  refine Callee.lend (r := .bool ([l.enc, l.cred, l.parent].any fun x => decide ((x.length : Int) > 200))) 1 told159 (any159_spec [l.enc, l.cred, l.parent] (fun x => decide ((x.length : Int) > 200)) 158 il158 told158 [] (by simp) fun x _ => big_spec x) (.bool _) ?_
  by_cases h1 : l.enc.length > 200 ∨ l.cred.length > 200 ∨ l.parent.length > 200
  · have e : ([l.enc, l.cred, l.parent].any fun x => decide ((x.length : Int) > 200)) = true := by simp; omega
    simp only [go_sem, Nat.reduceEqDiff, reduceIte, Nat.reduceAdd, Nat.reduceLeDiff, Nat.reduceLT, Nat.reduceSub, e]
    simp [leafCheck, h0, h1]
  have e : ([l.enc, l.cred, l.parent].any fun x => decide ((x.length : Int) > 200)) = false := by simp; omega
  simp only [go_sem, Nat.reduceEqDiff, reduceIte, Nat.reduceAdd, Nat.reduceLeDiff, Nat.reduceLT, Nat.reduceSub, e]
  refine Callee.f told160 (source_spec l.source) ?_
  by_cases h2 : l.source < 1 ∨ l.source > 3
  · have e2 : decide (l.source ≥ 1 ∧ l.source ≤ 3) = false := by simp; omega
    simp only [go_sem, Nat.reduceEqDiff, reduceIte, Nat.reduceAdd, Nat.reduceLeDiff, Nat.reduceLT, Nat.reduceSub, e2]
    simp [leafCheck, h0, h1, h2]
  have e2 : decide (l.source ≥ 1 ∧ l.source ≤ 3) = true := by simp; omega
  by_cases h3 : l.source = 3
  · simp only [go_sem, Nat.reduceEqDiff, reduceIte, Nat.reduceAdd, Nat.reduceLeDiff, Nat.reduceLT, Nat.reduceSub, e2, h3, decide_true, decide_false, ne_eq, not_true_eq_false, Bool.not_true]
    simp [leafCheck, h0, h1, h3]
  · simp only [go_sem, Nat.reduceEqDiff, reduceIte, Nat.reduceAdd, Nat.reduceLeDiff, Nat.reduceLT, Nat.reduceSub, e2, h3, decide_true, decide_false, ne_eq, not_true_eq_false, not_false_eq_true, Bool.not_true]
    refine ⟨fun h4 => ?_, fun h4 => ?_⟩
    · have h5 : l.parent.length > 0 := by omega
      rw [show leafCheck l = 2 from by rw [leafCheck, if_neg h0, if_neg h1, if_neg h2, if_pos ⟨h3, h5⟩]]
    · have h5 : l.parent.length = 0 := by omega
      rw [show leafCheck l = 0 from by rw [leafCheck, if_neg h0, if_neg h1, if_neg h2, if_neg (by omega)]]

/-- inner.Check. -/
theorem innerCheck_spec (l : Inner) : Fun seat 147 [innerA l] (.int .i64 (innerCheck l)) := by
  refine Fun.of0 told147 (by simp [il147]) (by simp [idb_innerA]) (by simp ) 0 ?_
  simp only [il147, List.zipIdx_cons, List.zipIdx_nil, Nat.zero_add, innerA, Inner.cells]
  by_cases h : (l.enc.length : Int) = 0
  · have h0 : l.enc.length = 0 := by omega
    simp only [go_sem, Nat.reduceEqDiff, reduceIte, Nat.reduceAdd, Nat.reduceLeDiff, Nat.reduceLT, Nat.reduceSub, h, decide_true]
    simp [innerCheck, h0]
  have h0 : ¬ l.enc.length = 0 := by omega
  by_cases hA : (l.enc.length : Int) > 200
  · have h1 : l.enc.length > 200 ∨ l.hash.length > 200 ∨ l.unmerged.length > 64 := by omega
    simp only [go_sem, Nat.reduceEqDiff, reduceIte, Nat.reduceAdd, Nat.reduceLeDiff, Nat.reduceLT, Nat.reduceSub, h, hA, decide_true, decide_false]
    rw [show innerCheck l = 4 from by rw [innerCheck, if_neg h0, if_pos h1]]
  by_cases hB : (l.hash.length : Int) > 200
  · have h1 : l.enc.length > 200 ∨ l.hash.length > 200 ∨ l.unmerged.length > 64 := by omega
    simp only [go_sem, Nat.reduceEqDiff, reduceIte, Nat.reduceAdd, Nat.reduceLeDiff, Nat.reduceLT, Nat.reduceSub, h, hA, hB, decide_true, decide_false]
    rw [show innerCheck l = 4 from by rw [innerCheck, if_neg h0, if_pos h1]]
  by_cases hC : (l.unmerged.length : Int) > 64
  · have h1 : l.enc.length > 200 ∨ l.hash.length > 200 ∨ l.unmerged.length > 64 := by omega
    simp only [go_sem, Nat.reduceEqDiff, reduceIte, Nat.reduceAdd, Nat.reduceLeDiff, Nat.reduceLT, Nat.reduceSub, h, hA, hB, hC, decide_true, decide_false]
    rw [show innerCheck l = 4 from by rw [innerCheck, if_neg h0, if_pos h1]]
  have h1 : ¬ (l.enc.length > 200 ∨ l.hash.length > 200 ∨ l.unmerged.length > 64) := by omega
  simp only [go_sem, Nat.reduceEqDiff, reduceIte, Nat.reduceAdd, Nat.reduceLeDiff, Nat.reduceLT, Nat.reduceSub, h, hA, hB, hC, decide_true, decide_false]
  refine Callee.f told162 (any162_spec l.unmerged (fun i => decide (i < 0 ∨ i > 63)) 161 il161 told161 [] (by simp) fun x _ => wide_spec x) ?_
  by_cases h2 : ∃ i ∈ l.unmerged, i < 0 ∨ i > 63
  · have e : (l.unmerged.any fun i => decide (i < 0 ∨ i > 63)) = true := by
      obtain ⟨i, hi, hw⟩ := h2
      exact List.any_eq_true.2 ⟨i, hi, by simpa using hw⟩
    simp only [go_sem, Nat.reduceEqDiff, reduceIte, Nat.reduceAdd, Nat.reduceLeDiff, Nat.reduceLT, Nat.reduceSub, e]
    rw [show innerCheck l = 3 from by rw [innerCheck, if_neg h0, if_neg h1, if_pos h2]]
  have e : (l.unmerged.any fun i => decide (i < 0 ∨ i > 63)) = false := by
    rw [Bool.eq_false_iff]
    intro h
    obtain ⟨i, hi, hw⟩ := List.any_eq_true.1 h
    exact h2 ⟨i, hi, by simpa using hw⟩
  simp only [go_sem, Nat.reduceEqDiff, reduceIte, Nat.reduceAdd, Nat.reduceLeDiff, Nat.reduceLT, Nat.reduceSub, e]
  refine WP.drawL mixed (by decide) ?_
  simp only [go_sem, Nat.reduceEqDiff, reduceIte, Nat.reduceAdd, Nat.reduceLeDiff, Nat.reduceLT, Nat.reduceSub]
  refine ⟨_, CallF.f told163 (thin_spec l.unmerged (by omega)), ?_⟩
  simp only [go_sem, Nat.reduceEqDiff, reduceIte, Nat.reduceAdd, Nat.reduceLeDiff, Nat.reduceLT, Nat.reduceSub]
  refine ⟨_, CallF.f told157 (eqInts_spec _ _), ?_⟩
  by_cases h3 : rise l.unmerged = l.unmerged
  · simp only [go_sem, Nat.reduceEqDiff, reduceIte, Nat.reduceAdd, Nat.reduceLeDiff, Nat.reduceLT, Nat.reduceSub, h3, decide_true, Bool.not_true]
    rw [show innerCheck l = 0 from by rw [innerCheck, if_neg h0, if_neg h1, if_neg h2, if_neg (not_not_intro h3)]]
  · simp only [go_sem, Nat.reduceEqDiff, reduceIte, Nat.reduceAdd, Nat.reduceLeDiff, Nat.reduceLT, Nat.reduceSub, h3, decide_false, Bool.not_false]
    rw [show innerCheck l = 8 from by rw [innerCheck, if_neg h0, if_neg h1, if_neg h2, if_pos h3]]

end Go.Proofs.YtihhinbjhiankaaGreatDoor.Al

set_option linter.unusedSimpArgs false
set_option linter.unusedVariables false
namespace Go.Proofs.YtihhinbjhiankaaGreatDoor.Al
open Go
attribute [local go_sem] W_mv W_pick W_alloc W_box W_build W_bslice W_load W_store W_bin W_isnil W_un W_convI W_convS W_mkfunc W_mkslice W_slice W_faddr W_field W_iaddr W_extract W_len W_min W_append W_appendZ W_copy W_invoke thenQ_normal thenQ_exit thenQ_goto thenQ_ret blockQ_normal blockQ_ret blockQ_goto blockQ_exit wpc_skip wpc_region wpc_draw wpc_seq wpc_cond wpc_block wpc_exit wpc_goto wpc_label wpc_ret wpc_loop wpc_range wpc_scope condW_true condW_false condW_dec condW_any W_nil W_call resW_some evalOp Opd.ev updo_envL updo_none setL_cons setL_nil envL_cons Option.map_some Option.bind_some evBin evInt List.map_cons List.map_nil Option.pure_def Option.bind_eq_bind W_grd' grdW_tt grdW_ff grdW_tf grdW_ft grdW_tup grdW_dt grdW_df lgrdW_tup L_mv L_load L_bin L_un L_faddr L_iaddr L_nil L_call lresW_some upd_envL evUn beq_dec bne_dec leaves_ret1 leaves_ret0 leaves_end0 rowLen_ints load_iptr0 not_dec heap_get0 heap_get1 heap_set0 heap_set1 heap_len1 heap_app bslice1_int seen_ints seen_one0 Nat.sub_zero Bool.not_true Bool.not_false List.length_nil List.length_cons List.nil_append List.cons_append Nat.zero_add load_iptrA canon_ptrI canon_bool canon_tup canon_agg canon_ints' canon_ints0 rowLen_octs seen_octs canon_octs' seen_intss seen_octss rowLen_nodes seen_nodes canon_nodes' rowLen_nodes0 rowLen_nodes1 seen_list cells_int oneIn_int cells_bool oneIn_bool cells_str oneIn_str cells_list oneIn_list cells_func oneIn_func cells_nilfunc oneIn_nilfunc cells_iptr oneIn_iptr cells_iface oneIn_iface cells_nilIface oneIn_nilIface cells_own cells_ptr cells_anybool oneIn_anybool cells_agg oneIn_own0 oneIn_own1 oneIn_own3 oneIn_own4 oneIn_own5 cells_ints oneIn_ints cells_octs oneIn_octs cells_intss oneIn_intss cells_octss oneIn_octss cells_nodes oneIn_nodes ldB0 ldA0 adB0 stB0 ldB1 ldA1 adB1 stB1 ldB2 ldA2 adB2 stB2 ldB3 ldA3 adB3 stB3 ldB4 ldA4 adB4 stB4 ldB5 ldA5 adB5 stB5 List.getElem?_cons_zero List.getElem?_cons_succ beq_self_eq_true splice List.take_zero List.take_succ_cons List.drop_zero List.drop_succ_cons List.append_nil List.set_cons_zero List.set_cons_succ List.all_cons List.all_nil Bool.and_self and_self and_true true_and Nat.lt_irrefl Nat.zero_lt_one Nat.le_refl fillA evNil notA Bool.false_eq_true evMin_int evMax_int Option.map_none freezeP_all_nil freezeP_all_cons frzE_box frzE_arr frzE_dead foldA List.foldlM_cons List.foldlM_nil callW_f lcallW_f ansW_fn ansW_own lansW_fn lansW_own ansW_none lansW_none tab_cons tab_nil dI_int dB_bool dO_octs dO_ints dO_nil dOs_nil dN_nodeA dLf_agg dIn_agg dN_agg dNs_nodes dNs_nil isI_int isO_octs isO_nil isS_ints isS_nil isNs_nodes isNs_nil isLf_agg isIn_agg isN_agg leaf_eta inner_eta node_eta leaf_zero inner_zero node_zero dP_agg isP_agg patch_eta decide_eq_true_eq decide_eq_false_iff_not eq_self forall_const true_implies false_implies Bool.not_eq_true' Bool.not_eq_false' Bool.true_eq_false implies_true ne_eq ldI ldIA adI AV.tup.injEq AV.agg.injEq List.cons.injEq AV.int.injEq AV.bool.injEq nodes_inj octs_inj ints_inj nil_nodes nil_octs nil_ints canon_nilL decide_eq_decide two_ne lendA_fn lendA_own lendA_none llendA_fn llendA_none plain_bool plain_int isNs_own isS_own false_and and_false Q_nil Q_l Q_g Q_h qgrdW_b qgrdW_tup lightD_some heavyD_some readD_some fnD_some fnD_own fnD_none callL_f ownH_some callH_f litD_some litE_some Q_call Q_bslice H_call pendOk_nil pendOk_cons pastOk_nil pastOk_cons Q_mv Q_pick Q_bin Q_un Q_convI Q_mkfunc Q_extract Q_min Q_max Q_lenS Q_lenA Q_field Q_idxA Q_mkiface Q_tassert Q_alloc Q_box Q_store Q_mkslice Q_append Q_appendZ Q_copy Q_clear Q_build Q_load Q_nilck Q_isnil Q_convS Q_slice Q_faddr Q_iaddr Q_iaddrA Q_len H_alloc H_box H_bslice H_store H_mkslice H_append H_appendZ H_copy H_clear free_mv free_pick free_bin free_un free_convI free_mkfunc free_extract free_min free_max free_lenS free_lenA free_field free_idxA free_mkiface free_tassert free_build free_load free_nilck free_isnil free_convS free_slice free_faddr free_iaddr free_iaddrA free_len callW_y List.length_map List.length_set leaves_r evR_some evRess1 evRess2 evRess3 evRes_t evRes_c nz_kind nz_enc nz_cred nz_source nz_parent nz_ienc nz_hash nz_un true_or or_true bsl_node idbs_node idbs_int appN appI ixo_nodes canon_row canon_rowI canon_rowO not_false_eq_true not_true_eq_false ldE_a ldE_c adE_b stE_b onE_a onP_b bsl_zero idbs_zero appN_zero
attribute [local go_sem low] condW_b grdW_b lgrdW_b ldP adP stP onO onPt
attribute [local simp] envL_cons envL_nil idb_int idb_bool idb_ints idb_nil idb_own idb_ptr idb_octs idb_nodes idb_leafA idb_innerA idb_nodeA idb_agg idb_tup idb_iptr idb_fn entB_dead entB_box
noncomputable def r142 : Reg seat := .of told142 (ask2 (fun a0' a1' => isLf a0' ∧ isLf a1' ∧ (dLf a0').Ok ∧ (dLf a1').Ok) fun a0' a1' => .fn (.bool (decide ((dLf a0') = (dLf a1'))))) (ask2_ok fun a0' a1' h => SaidOk.fn (Fun.weak (.cons (isLf.weak h.1) (.cons (isLf.weak h.2.1) .nil)) (leafSame_spec _ _ h.2.2.1 h.2.2.2)))
theorem r142_c : r142.c = 142 := rfl
open Classical in
theorem r142_ask (a0' a1' : AV) : r142.ask [a0', a1'] = if isLf a0' ∧ isLf a1' ∧ (dLf a0').Ok ∧ (dLf a1').Ok then some (Said.fn (.bool (decide ((dLf a0') = (dLf a1'))))) else none := by unfold r142 Reg.of ask2; exact ite_cl
noncomputable def r143 : Reg seat := .of told143 (ask2 (fun a0' a1' => isIn a0' ∧ isIn a1' ∧ (dIn a0').Ok ∧ (dIn a1').Ok) fun a0' a1' => .fn (.bool (decide ((dIn a0') = (dIn a1'))))) (ask2_ok fun a0' a1' h => SaidOk.fn (Fun.weak (.cons (isIn.weak h.1) (.cons (isIn.weak h.2.1) .nil)) (innerSame_spec _ _ h.2.2.1 h.2.2.2)))
theorem r143_c : r143.c = 143 := rfl
open Classical in
theorem r143_ask (a0' a1' : AV) : r143.ask [a0', a1'] = if isIn a0' ∧ isIn a1' ∧ (dIn a0').Ok ∧ (dIn a1').Ok then some (Said.fn (.bool (decide ((dIn a0') = (dIn a1'))))) else none := by unfold r143 Reg.of ask2; exact ite_cl
noncomputable def r146 : Reg seat := .of told146 (ask1 (fun a0' => isLf a0') fun a0' => .fn (.int .i64 (leafCheck (dLf a0')))) (ask1_ok fun a0' h => SaidOk.fn (Fun.weak (.cons (isLf.weak h) .nil) (leafCheck_spec _)))
theorem r146_c : r146.c = 146 := rfl
open Classical in
theorem r146_ask (a0' : AV) : r146.ask [a0'] = if isLf a0' then some (Said.fn (.int .i64 (leafCheck (dLf a0')))) else none := by unfold r146 Reg.of ask1; exact ite_cl
noncomputable def r147 : Reg seat := .of told147 (ask1 (fun a0' => isIn a0') fun a0' => .fn (.int .i64 (innerCheck (dIn a0')))) (ask1_ok fun a0' h => SaidOk.fn (Fun.weak (.cons (isIn.weak h) .nil) (innerCheck_spec _)))
theorem r147_c : r147.c = 147 := rfl
open Classical in
theorem r147_ask (a0' : AV) : r147.ask [a0'] = if isIn a0' then some (Said.fn (.int .i64 (innerCheck (dIn a0')))) else none := by unfold r147 Reg.of ask1; exact ite_cl

theorem nodeCheck_spec (n : Node) (hn : n.Ok) : Fun seat 124 [nodeA n] (.int .i64 (nodeCheck n)) := by
  refine Fun.of0R [r142, r143, r146, r147] told124 (by simp [il124]) (by simp [idb_nodeA]) (by simp ) 0 ?_
  have h1 := hn.leaf
  have h2 := hn.inner
  simp only [il124, List.zipIdx_cons, List.zipIdx_nil, nodeA, Node.cells, h1, h2, Leaf.Ok.zero, Inner.Ok.zero, r142_c, r142_ask, r143_c, r143_ask, r146_c, r146_ask, r147_c, r147_ask, go_sem, Nat.reduceEqDiff, reduceIte, Nat.reduceAdd, Nat.reduceLeDiff, Nat.reduceLT, Nat.reduceSub]
  repeat' (first | refine And.intro ?_ ?_ | intro _)
  all_goals grind [nodeCheck]
end Go.Proofs.YtihhinbjhiankaaGreatDoor.Al

set_option linter.unusedSimpArgs false
set_option linter.unusedVariables false
namespace Go.Proofs.YtihhinbjhiankaaGreatDoor.Al
open Go
attribute [local go_sem] W_mv W_pick W_alloc W_box W_build W_bslice W_load W_store W_bin W_isnil W_un W_convI W_convS W_mkfunc W_mkslice W_slice W_faddr W_field W_iaddr W_extract W_len W_min W_append W_appendZ W_copy W_invoke thenQ_normal thenQ_exit thenQ_goto thenQ_ret blockQ_normal blockQ_ret blockQ_goto blockQ_exit wpc_skip wpc_region wpc_draw wpc_seq wpc_cond wpc_block wpc_exit wpc_goto wpc_label wpc_ret wpc_loop wpc_range wpc_scope condW_true condW_false condW_dec condW_any W_nil W_call resW_some evalOp Opd.ev updo_envL updo_none setL_cons setL_nil envL_cons Option.map_some Option.bind_some evBin evInt List.map_cons List.map_nil Option.pure_def Option.bind_eq_bind W_grd' grdW_tt grdW_ff grdW_tf grdW_ft grdW_tup grdW_dt grdW_df lgrdW_tup L_mv L_load L_bin L_un L_faddr L_iaddr L_nil L_call lresW_some upd_envL evUn beq_dec bne_dec leaves_ret1 leaves_ret0 leaves_end0 rowLen_ints load_iptr0 not_dec heap_get0 heap_get1 heap_set0 heap_set1 heap_len1 heap_app bslice1_int seen_ints seen_one0 Nat.sub_zero Bool.not_true Bool.not_false List.length_nil List.length_cons List.nil_append List.cons_append Nat.zero_add load_iptrA canon_ptrI canon_bool canon_tup canon_agg canon_ints' canon_ints0 rowLen_octs seen_octs canon_octs' seen_intss seen_octss rowLen_nodes seen_nodes canon_nodes' rowLen_nodes0 rowLen_nodes1 seen_list cells_int oneIn_int cells_bool oneIn_bool cells_str oneIn_str cells_list oneIn_list cells_func oneIn_func cells_nilfunc oneIn_nilfunc cells_iptr oneIn_iptr cells_iface oneIn_iface cells_nilIface oneIn_nilIface cells_own cells_ptr cells_anybool oneIn_anybool cells_agg oneIn_own0 oneIn_own1 oneIn_own3 oneIn_own4 oneIn_own5 cells_ints oneIn_ints cells_octs oneIn_octs cells_intss oneIn_intss cells_octss oneIn_octss cells_nodes oneIn_nodes ldB0 ldA0 adB0 stB0 ldB1 ldA1 adB1 stB1 ldB2 ldA2 adB2 stB2 ldB3 ldA3 adB3 stB3 ldB4 ldA4 adB4 stB4 ldB5 ldA5 adB5 stB5 List.getElem?_cons_zero List.getElem?_cons_succ beq_self_eq_true splice List.take_zero List.take_succ_cons List.drop_zero List.drop_succ_cons List.append_nil List.set_cons_zero List.set_cons_succ List.all_cons List.all_nil Bool.and_self and_self and_true true_and Nat.lt_irrefl Nat.zero_lt_one Nat.le_refl fillA evNil notA Bool.false_eq_true evMin_int evMax_int Option.map_none freezeP_all_nil freezeP_all_cons frzE_box frzE_arr frzE_dead foldA List.foldlM_cons List.foldlM_nil callW_f lcallW_f ansW_fn ansW_own lansW_fn lansW_own ansW_none lansW_none tab_cons tab_nil dI_int dB_bool dO_octs dO_ints dO_nil dOs_nil dN_nodeA dLf_agg dIn_agg dN_agg dNs_nodes dNs_nil isI_int isO_octs isO_nil isS_ints isS_nil isNs_nodes isNs_nil isLf_agg isIn_agg isN_agg leaf_eta inner_eta node_eta leaf_zero inner_zero node_zero dP_agg isP_agg patch_eta decide_eq_true_eq decide_eq_false_iff_not eq_self forall_const true_implies false_implies Bool.not_eq_true' Bool.not_eq_false' Bool.true_eq_false implies_true ne_eq ldI ldIA adI AV.tup.injEq AV.agg.injEq List.cons.injEq AV.int.injEq AV.bool.injEq nodes_inj octs_inj ints_inj nil_nodes nil_octs nil_ints canon_nilL decide_eq_decide two_ne lendA_fn lendA_own lendA_none llendA_fn llendA_none plain_bool plain_int isNs_own isS_own false_and and_false Q_nil Q_l Q_g Q_h qgrdW_b qgrdW_tup lightD_some heavyD_some readD_some fnD_some fnD_own fnD_none callL_f ownH_some callH_f litD_some litE_some Q_call Q_bslice H_call pendOk_nil pendOk_cons pastOk_nil pastOk_cons Q_mv Q_pick Q_bin Q_un Q_convI Q_mkfunc Q_extract Q_min Q_max Q_lenS Q_lenA Q_field Q_idxA Q_mkiface Q_tassert Q_alloc Q_box Q_store Q_mkslice Q_append Q_appendZ Q_copy Q_clear Q_build Q_load Q_nilck Q_isnil Q_convS Q_slice Q_faddr Q_iaddr Q_iaddrA Q_len H_alloc H_box H_bslice H_store H_mkslice H_append H_appendZ H_copy H_clear free_mv free_pick free_bin free_un free_convI free_mkfunc free_extract free_min free_max free_lenS free_lenA free_field free_idxA free_mkiface free_tassert free_build free_load free_nilck free_isnil free_convS free_slice free_faddr free_iaddr free_iaddrA free_len callW_y List.length_map List.length_set leaves_r evR_some evRess1 evRess2 evRess3 evRes_t evRes_c nz_kind nz_enc nz_cred nz_source nz_parent nz_ienc nz_hash nz_un true_or or_true bsl_node idbs_node idbs_int appN appI ixo_nodes canon_row canon_rowI canon_rowO not_false_eq_true not_true_eq_false ldE_a ldE_c adE_b stE_b onE_a onP_b bsl_zero idbs_zero appN_zero
attribute [local go_sem low] condW_b grdW_b lgrdW_b ldP adP stP onO onPt
attribute [local simp] envL_cons envL_nil idb_int idb_bool idb_ints idb_nil idb_own idb_ptr idb_octs idb_nodes idb_leafA idb_innerA idb_nodeA idb_agg idb_tup idb_iptr idb_fn entB_dead entB_box
noncomputable def r124 : Reg seat := .of told124 (ask1 (fun a0' => isN a0' ∧ (dN a0').Ok) fun a0' => .fn (.int .i64 (nodeCheck (dN a0')))) (ask1_ok fun a0' h => SaidOk.fn (Fun.weak (.cons (isN.weak h.1) .nil) (nodeCheck_spec _ h.2)))
theorem r124_c : r124.c = 124 := rfl
open Classical in
theorem r124_ask (a0' : AV) : r124.ask [a0'] = if isN a0' ∧ (dN a0').Ok then some (Said.fn (.int .i64 (nodeCheck (dN a0')))) else none := by unfold r124 Reg.of ask1; exact ite_cl

/-- Two rows, place by place. -/
theorem ref02Ints_spec (a b : List Int) : Fun seat 35 [ints a, ints b] (.bool (decide (a = b))) := by
  refine Fun.bd fun hbd => ?_
  have hlb : a.length ≤ 9223372036854775807 := encI64.bd_len (t := false) hbd (by simp [ints, encI64])
  refine Fun.of0R [] told35 (by simp [il35]) (by simp [idb_patchA]) (by simp [idb_patchA]) 4 ?_
  simp only [il35, List.zipIdx_cons, List.zipIdx_nil, leafA, innerA, nodeA, patchA, Leaf.cells, Inner.cells, Node.cells, go_sem, Nat.reduceEqDiff, reduceIte, Nat.reduceAdd, Nat.reduceLeDiff, Nat.reduceLT, Nat.reduceSub]
  refine ⟨fun h => ?_, fun h => ?_⟩
  · grind
  have hl : a.length = b.length := by omega
  refine WP.loop0 (fun k => k ≤ a.length ∧ ∀ j (h : j < a.length) (h' : j < b.length), j < k → a[j] = b[j]) (fun k => [(0, ints a), (1, ints b), (5, .int .i64 k)]) (fun k => a.length - k) 0 ⟨Nat.zero_le _, fun j _ _ h => by omega⟩
    (fun k _ => by simp ) (by simp ) ?_
  rintro k ⟨hk, hno⟩
  refine wpc_soundR [] ?_
  simp only [leafA, innerA, nodeA, patchA, Leaf.cells, Inner.cells, Node.cells, go_sem, Nat.reduceEqDiff, reduceIte, Nat.reduceAdd, Nat.reduceLeDiff, Nat.reduceLT, Nat.reduceSub]
  refine ⟨fun hlt => ?_, fun hge => ?_⟩
  · have hk' : k < a.length := by omega
    refine WP.drawR [] mixed (by decide) ?_
    simp only [leafA, innerA, nodeA, patchA, Leaf.cells, Inner.cells, Node.cells, index_ints [] a k hk', index_ints [] b k (by omega), go_sem, Nat.reduceEqDiff, reduceIte, Nat.reduceAdd, Nat.reduceLeDiff, Nat.reduceLT, Nat.reduceSub]
    refine ⟨fun ht => ?_, fun ht => ⟨k + 1, ⟨hk', fun j h h' hj => ?_⟩, by omega, by simp [wrapS (show k < 9223372036854775807 by omega)]⟩⟩
    · grind
    · rcases Nat.lt_or_ge j k with h1 | h1
      · exact hno j h h' h1
      · obtain rfl : j = k := by omega
        exact Classical.not_not.1 ht
  · have : a = b := List.ext_getElem hl fun j h1 h2 => hno j h1 h2 (by omega)
    grind
noncomputable def r35 : Reg seat := .of told35 (ask2 (fun a0' a1' => isS a0' ∧ isS a1') fun a0' a1' => .fn (.bool (decide ((dO a0') = (dO a1'))))) (ask2_ok fun a0' a1' h => SaidOk.fn (Fun.weak (.cons (isS.weak h.1) (.cons (isS.weak h.2) .nil)) (ref02Ints_spec _ _)))
theorem r35_c : r35.c = 35 := rfl
open Classical in
theorem r35_ask (a0' a1' : AV) : r35.ask [a0', a1'] = if isS a0' ∧ isS a1' then some (Said.fn (.bool (decide ((dO a0') = (dO a1'))))) else none := by unfold r35 Reg.of ask2; exact ite_cl

theorem bytes_eq (a b : List Int) (ha : Oct a) (hb : Oct b) : (bytesOf a = bytesOf b) = (a = b) := propext ⟨bytesOf_inj ha hb, fun h => by rw [h]⟩

theorem refLeafSame_spec (a b : Leaf) (ha : a.Ok) (hb : b.Ok) : Fun seat 149 [leafA a, leafA b] (.bool (decide (a = b))) := by
  refine Fun.of0R [] told149 (by simp [il149]) (by simp [idb_patchA]) (by simp [idb_patchA]) 4 ?_
  simp only [il149, List.zipIdx_cons, List.zipIdx_nil, leafA, innerA, nodeA, patchA, Leaf.cells, Inner.cells, Node.cells, bytes_octs, evStr_eql, bytes_eq _ _ ha.enc hb.enc, bytes_eq _ _ ha.cred hb.cred, bytes_eq _ _ ha.parent hb.parent, go_sem, Nat.reduceEqDiff, reduceIte, Nat.reduceAdd, Nat.reduceLeDiff, Nat.reduceLT, Nat.reduceSub]
  rcases a with ⟨a1, a2, a3, a4⟩
  rcases b with ⟨b1, b2, b3, b4⟩
  simp only [Leaf.mk.injEq]
  iterate 12 ((all_goals intros); (all_goals try refine And.intro ?_ ?_))
  all_goals first | (show WP _ _ _ _ _ _ _) | grind
noncomputable def r149 : Reg seat := .of told149 (ask2 (fun a0' a1' => isLf a0' ∧ isLf a1' ∧ (dLf a0').Ok ∧ (dLf a1').Ok) fun a0' a1' => .fn (.bool (decide ((dLf a0') = (dLf a1'))))) (ask2_ok fun a0' a1' h => SaidOk.fn (Fun.weak (.cons (isLf.weak h.1) (.cons (isLf.weak h.2.1) .nil)) (refLeafSame_spec _ _ h.2.2.1 h.2.2.2)))
theorem r149_c : r149.c = 149 := rfl
open Classical in
theorem r149_ask (a0' a1' : AV) : r149.ask [a0', a1'] = if isLf a0' ∧ isLf a1' ∧ (dLf a0').Ok ∧ (dLf a1').Ok then some (Said.fn (.bool (decide ((dLf a0') = (dLf a1'))))) else none := by unfold r149 Reg.of ask2; exact ite_cl

theorem refInnerSame_spec (a b : Inner) (ha : a.Ok) (hb : b.Ok) : Fun seat 150 [innerA a, innerA b] (.bool (decide (a = b))) := by
  refine Fun.of0R [r35] told150 (by simp [il150]) (by simp [idb_patchA]) (by simp [idb_patchA]) 4 ?_
  simp only [il150, List.zipIdx_cons, List.zipIdx_nil, leafA, innerA, nodeA, patchA, Leaf.cells, Inner.cells, Node.cells, r35_c, r35_ask, bytes_octs, evStr_eql, bytes_eq _ _ ha.enc hb.enc, bytes_eq _ _ ha.hash hb.hash, go_sem, Nat.reduceEqDiff, reduceIte, Nat.reduceAdd, Nat.reduceLeDiff, Nat.reduceLT, Nat.reduceSub]
  rcases a with ⟨a1, a2, a3⟩
  rcases b with ⟨b1, b2, b3⟩
  simp only [Inner.mk.injEq]
  iterate 12 ((all_goals intros); (all_goals try refine And.intro ?_ ?_))
  all_goals first | (show WP _ _ _ _ _ _ _) | grind
noncomputable def r150 : Reg seat := .of told150 (ask2 (fun a0' a1' => isIn a0' ∧ isIn a1' ∧ (dIn a0').Ok ∧ (dIn a1').Ok) fun a0' a1' => .fn (.bool (decide ((dIn a0') = (dIn a1'))))) (ask2_ok fun a0' a1' h => SaidOk.fn (Fun.weak (.cons (isIn.weak h.1) (.cons (isIn.weak h.2.1) .nil)) (refInnerSame_spec _ _ h.2.2.1 h.2.2.2)))
theorem r150_c : r150.c = 150 := rfl
open Classical in
theorem r150_ask (a0' a1' : AV) : r150.ask [a0', a1'] = if isIn a0' ∧ isIn a1' ∧ (dIn a0').Ok ∧ (dIn a1').Ok then some (Said.fn (.bool (decide ((dIn a0') = (dIn a1'))))) else none := by unfold r150 Reg.of ask2; exact ite_cl

theorem node_ext (a b : Node) : (a = b) = (a.kind = b.kind ∧ a.leaf = b.leaf ∧ a.inner = b.inner) := by
  cases a; cases b; simp only [Node.mk.injEq]

theorem refNodeSame_spec (a b : Node) (ha : a.Ok) (hb : b.Ok) : Fun seat 130 [nodeA a, nodeA b] (.bool (decide (a = b))) := by
  refine Fun.of0R [r149, r150] told130 (by simp [il130]) (by simp [idb_patchA]) (by simp [idb_patchA]) 4 ?_
  simp only [il130, List.zipIdx_cons, List.zipIdx_nil, leafA, innerA, nodeA, patchA, Leaf.cells, Inner.cells, Node.cells, r149_c, r149_ask, r150_c, r150_ask, ha.leaf, hb.leaf, ha.inner, hb.inner, go_sem, Nat.reduceEqDiff, reduceIte, Nat.reduceAdd, Nat.reduceLeDiff, Nat.reduceLT, Nat.reduceSub]
  simp only [node_ext]
  iterate 12 ((all_goals intros); (all_goals try refine And.intro ?_ ?_))
  all_goals first | (show WP _ _ _ _ _ _ _) | grind
noncomputable def r130 : Reg seat := .of told130 (ask2 (fun a0' a1' => isN a0' ∧ isN a1' ∧ (dN a0').Ok ∧ (dN a1').Ok) fun a0' a1' => .fn (.bool (decide ((dN a0') = (dN a1'))))) (ask2_ok fun a0' a1' h => SaidOk.fn (Fun.weak (.cons (isN.weak h.1) (.cons (isN.weak h.2.1) .nil)) (refNodeSame_spec _ _ h.2.2.1 h.2.2.2)))
theorem r130_c : r130.c = 130 := rfl
open Classical in
theorem r130_ask (a0' a1' : AV) : r130.ask [a0', a1'] = if isN a0' ∧ isN a1' ∧ (dN a0').Ok ∧ (dN a1').Ok then some (Said.fn (.bool (decide ((dN a0') = (dN a1'))))) else none := by unfold r130 Reg.of ask2; exact ite_cl

theorem nodeSame_spec (a b : Node) (ha : a.Ok) (hb : b.Ok) : Fun seat 121 [nodeA a, nodeA b] (.bool (decide (a = b))) := by
  refine Fun.of0R [r142, r143] told121 (by simp [il121]) (by simp [idb_patchA]) (by simp [idb_patchA]) 4 ?_
  simp only [il121, List.zipIdx_cons, List.zipIdx_nil, leafA, innerA, nodeA, patchA, Leaf.cells, Inner.cells, Node.cells, r142_c, r142_ask, r143_c, r143_ask, ha.leaf, hb.leaf, ha.inner, hb.inner, go_sem, Nat.reduceEqDiff, reduceIte, Nat.reduceAdd, Nat.reduceLeDiff, Nat.reduceLT, Nat.reduceSub]
  simp only [node_ext]
  iterate 12 ((all_goals intros); (all_goals try refine And.intro ?_ ?_))
  all_goals first | (show WP _ _ _ _ _ _ _) | grind
noncomputable def r121 : Reg seat := .of told121 (ask2 (fun a0' a1' => isN a0' ∧ isN a1' ∧ (dN a0').Ok ∧ (dN a1').Ok) fun a0' a1' => .fn (.bool (decide ((dN a0') = (dN a1'))))) (ask2_ok fun a0' a1' h => SaidOk.fn (Fun.weak (.cons (isN.weak h.1) (.cons (isN.weak h.2.1) .nil)) (nodeSame_spec _ _ h.2.2.1 h.2.2.2)))
theorem r121_c : r121.c = 121 := rfl
open Classical in
theorem r121_ask (a0' a1' : AV) : r121.ask [a0', a1'] = if isN a0' ∧ isN a1' ∧ (dN a0').Ok ∧ (dN a1').Ok then some (Said.fn (.bool (decide ((dN a0') = (dN a1'))))) else none := by unfold r121 Reg.of ask2; exact ite_cl

theorem leafFew_spec (l : Leaf) (hl : l.Ok) : Fun seat 144 [leafA l] (.bool (decide (l.enc.length + l.cred.length + l.parent.length ≤ 1000))) := by
  have h1 := hl.enc.len
  have h2 := hl.cred.len
  have h3 := hl.parent.len
  refine Fun.of0R [] told144 (by simp [il144]) (by simp [idb_patchA]) (by simp [idb_patchA]) 4 ?_
  simp only [il144, List.zipIdx_cons, List.zipIdx_nil, leafA, innerA, nodeA, patchA, Leaf.cells, Inner.cells, Node.cells, wrap64s ((l.enc.length : Int) + l.cred.length) (by omega), wrap64s ((l.enc.length : Int) + l.cred.length + l.parent.length) (by omega), go_sem, Nat.reduceEqDiff, reduceIte, Nat.reduceAdd, Nat.reduceLeDiff, Nat.reduceLT, Nat.reduceSub]
  omega
noncomputable def r144 : Reg seat := .of told144 (ask1 (fun a0' => isLf a0' ∧ (dLf a0').Ok) fun a0' => .fn (.bool (decide ((dLf a0').enc.length + (dLf a0').cred.length + (dLf a0').parent.length ≤ 1000)))) (ask1_ok fun a0' h => SaidOk.fn (Fun.weak (.cons (isLf.weak h.1) .nil) (leafFew_spec _ h.2)))
theorem r144_c : r144.c = 144 := rfl
open Classical in
theorem r144_ask (a0' : AV) : r144.ask [a0'] = if isLf a0' ∧ (dLf a0').Ok then some (Said.fn (.bool (decide ((dLf a0').enc.length + (dLf a0').cred.length + (dLf a0').parent.length ≤ 1000)))) else none := by unfold r144 Reg.of ask1; exact ite_cl

theorem innerFew_spec (l : Inner) (hl : l.Ok) : Fun seat 145 [innerA l] (.bool (decide (l.enc.length + l.hash.length + l.unmerged.length ≤ 600))) := by
  have h1 := hl.enc.len
  have h2 := hl.hash.len
  have h3 := hl.unmerged.len
  refine Fun.of0R [] told145 (by simp [il145]) (by simp [idb_patchA]) (by simp [idb_patchA]) 4 ?_
  simp only [il145, List.zipIdx_cons, List.zipIdx_nil, leafA, innerA, nodeA, patchA, Leaf.cells, Inner.cells, Node.cells, wrap64s ((l.enc.length : Int) + l.hash.length) (by omega), wrap64s ((l.enc.length : Int) + l.hash.length + l.unmerged.length) (by omega), go_sem, Nat.reduceEqDiff, reduceIte, Nat.reduceAdd, Nat.reduceLeDiff, Nat.reduceLT, Nat.reduceSub]
  omega
noncomputable def r145 : Reg seat := .of told145 (ask1 (fun a0' => isIn a0' ∧ (dIn a0').Ok) fun a0' => .fn (.bool (decide ((dIn a0').enc.length + (dIn a0').hash.length + (dIn a0').unmerged.length ≤ 600)))) (ask1_ok fun a0' h => SaidOk.fn (Fun.weak (.cons (isIn.weak h.1) .nil) (innerFew_spec _ h.2)))
theorem r145_c : r145.c = 145 := rfl
open Classical in
theorem r145_ask (a0' : AV) : r145.ask [a0'] = if isIn a0' ∧ (dIn a0').Ok then some (Said.fn (.bool (decide ((dIn a0').enc.length + (dIn a0').hash.length + (dIn a0').unmerged.length ≤ 600)))) else none := by unfold r145 Reg.of ask1; exact ite_cl

/-- Has a node few octets, and numbers? -/
def nodeFew (n : Node) : Prop := n.leaf.enc.length + n.leaf.cred.length + n.leaf.parent.length ≤ 1000 ∧ n.inner.enc.length + n.inner.hash.length + n.inner.unmerged.length ≤ 600
instance (n : Node) : Decidable (nodeFew n) := inferInstanceAs (Decidable (_ ∧ _))
theorem nodeFew_spec (n : Node) (hn : n.Ok) : Fun seat 122 [nodeA n] (.bool (decide (nodeFew n))) := by
  refine Fun.of0R [r144, r145] told122 (by simp [il122]) (by simp [idb_patchA]) (by simp [idb_patchA]) 4 ?_
  simp only [il122, List.zipIdx_cons, List.zipIdx_nil, leafA, innerA, nodeA, patchA, Leaf.cells, Inner.cells, Node.cells, r144_c, r144_ask, r145_c, r145_ask, hn.leaf, hn.inner, go_sem, Nat.reduceEqDiff, reduceIte, Nat.reduceAdd, Nat.reduceLeDiff, Nat.reduceLT, Nat.reduceSub]
  iterate 12 ((all_goals intros); (all_goals try refine And.intro ?_ ?_))
  all_goals first | (show WP _ _ _ _ _ _ _) | grind [nodeFew]
noncomputable def r122 : Reg seat := .of told122 (ask1 (fun a0' => isN a0' ∧ (dN a0').Ok) fun a0' => .fn (.bool (decide (nodeFew (dN a0'))))) (ask1_ok fun a0' h => SaidOk.fn (Fun.weak (.cons (isN.weak h.1) .nil) (nodeFew_spec _ h.2)))
theorem r122_c : r122.c = 122 := rfl
open Classical in
theorem r122_ask (a0' : AV) : r122.ask [a0'] = if isN a0' ∧ (dN a0').Ok then some (Said.fn (.bool (decide (nodeFew (dN a0'))))) else none := by unfold r122 Reg.of ask1; exact ite_cl

end Go.Proofs.YtihhinbjhiankaaGreatDoor.Al

set_option linter.unusedSimpArgs false
set_option linter.unusedVariables false
namespace Go.Proofs.YtihhinbjhiankaaGreatDoor.Al

instance (l : List Int) : Decidable (Rises l) := inferInstanceAs (Decidable (List.Pairwise _ _))
/-- May a patch be? -/
def May (p : Patch) : Prop := (Rises p.x ∧ ∀ x ∈ p.x, 0 ≤ x ∧ x < p.len) ∧ (p.len = 0 ∨ Whole p.len) ∧ p.n.length = p.x.length
instance (p : Patch) : Decidable (May p) := inferInstanceAs (Decidable (_ ∧ _))
theorem May.len {p : Patch} (h : May p) : 0 ≤ p.len ∧ p.len ≤ 127 := by
  rcases h.2.1 with h | h
  · omega
  · have := h.le; omega
theorem May.nx {p : Patch} (h : May p) : p.n.length = p.x.length := h.2.2
theorem May.at {p : Patch} (h : May p) {k : Nat} (hk : k < p.x.length) : 0 ≤ p.x[k] ∧ p.x[k] < p.len := h.1.2 _ (List.getElem_mem hk)
theorem May.step {p : Patch} (h : May p) {i j : Nat} (hj : j < p.x.length) (hij : i < j) : p.x[i] < p.x[j] := List.pairwise_iff_getElem.1 h.1.1 i j (by omega) hj hij
/-- The number ahead of a place; ahead of all -1. -/
def prev (l : List Int) (k : Nat) : Int := if h : 0 < k ∧ k ≤ l.length then l[k - 1] else -1
theorem prev_zero (l : List Int) : prev l 0 = -1 := rfl
theorem prev_succ {l : List Int} {k : Nat} (h : k < l.length) : prev l (k + 1) = l[k] := by rw [prev, dif_pos ⟨by omega, h⟩]; rfl
theorem May.prev {p : Patch} (h : May p) {k : Nat} (hk : k < p.x.length) : prev p.x k < p.x[k] := by
  cases k with
  | zero => have := (h.at hk).1; rw [prev_zero]; omega
  | succ k => rw [prev_succ (by omega)]; exact h.step hk (by omega)
theorem may_of {p : Patch} (h : ∀ j (h : j < p.x.length), Al.prev p.x j < p.x[j] ∧ p.x[j] < p.len) (h1 : p.len = 0 ∨ Whole p.len) (h2 : p.n.length = p.x.length) : May p := by
  have h0 : ∀ j (hj : j < p.x.length), 0 ≤ p.x[j] := by
    intro j
    induction j with
    | zero => intro hj; have := (h 0 hj).1; rw [prev_zero] at this; omega
    | succ j ih => intro hj; have := (h (j + 1) hj).1; rw [prev_succ (by omega)] at this; have := ih (by omega); omega
  refine ⟨⟨rises_iff_step.2 fun j hj => ?_, fun x hx => ?_⟩, h1, h2⟩
  · have := (h (j + 1) hj).1; rwa [prev_succ (by omega)] at this
  · obtain ⟨j, hj, rfl⟩ := List.getElem_of_mem hx
    exact ⟨h0 j hj, (h j hj).2⟩

/-- Places are set, one by one. -/
def putsT (t : List Node) (l : List (Int × Node)) : List Node := l.foldl (fun t p => t.set p.1.toNat p.2) t
theorem putsT_snoc (t : List Node) (l : List (Int × Node)) (p : Int × Node) : putsT t (l ++ [p]) = (putsT t l).set p.1.toNat p.2 := by simp [putsT]
theorem putsT_len (t : List Node) (l : List (Int × Node)) : (putsT t l).length = t.length := by
  induction l generalizing t with
  | nil => rfl
  | cons p l ih => rw [putsT, List.foldl_cons]; have := ih (t.set p.1.toNat p.2); rw [putsT] at this; rw [this, List.length_set]
theorem putsT_ok {t : List Node} (ht : Tree.Ok t) {l : List (Int × Node)} (hl : ∀ p ∈ l, p.2.Ok) : Tree.Ok (putsT t l) := by
  induction l generalizing t with
  | nil => exact ht
  | cons p l ih => rw [putsT, List.foldl_cons]; exact ih (set_ok ht (hl p (by simp)) _) fun q hq => hl q (by simp [hq])

/-- What a tree becomes. -/
def applyT (a : List Node) (p : Patch) : List Node × Int :=
  if ¬ May p then ([], 2) else let t := putsT (fitT (known a) p.len.toNat) (p.x.zip p.n); if ¬ Sane t then ([], 14) else (t, 0)

/-- Those below a number. -/
def upTo (p : Nat → Bool) (k : Nat) : List Nat := (List.range k).filter p
def upI (p : Nat → Bool) (k : Nat) : List Int := (upTo p k).map Int.ofNat
def upN (f : Nat → Node) (p : Nat → Bool) (k : Nat) : List Node := (upTo p k).map f
theorem upTo_yes {p : Nat → Bool} {k : Nat} (h : p k = true) : upTo p (k + 1) = upTo p k ++ [k] := by simp [upTo, List.range_succ, h]
theorem upTo_no {p : Nat → Bool} {k : Nat} (h : p k = false) : upTo p (k + 1) = upTo p k := by simp [upTo, List.range_succ, h]
theorem upI_yes {p : Nat → Bool} {k : Nat} (h : p k = true) : upI p (k + 1) = upI p k ++ [(k : Int)] := by rw [upI, upTo_yes h, List.map_append]; rfl
theorem upI_no {p : Nat → Bool} {k : Nat} (h : p k = false) : upI p (k + 1) = upI p k := by rw [upI, upTo_no h]; rfl
theorem upN_yes {f : Nat → Node} {p : Nat → Bool} {k : Nat} (h : p k = true) : upN f p (k + 1) = upN f p k ++ [f k] := by rw [upN, upTo_yes h, List.map_append]; rfl
theorem upN_no {f : Nat → Node} {p : Nat → Bool} {k : Nat} (h : p k = false) : upN f p (k + 1) = upN f p k := by rw [upN, upTo_no h]; rfl
theorem upTo_len (p : Nat → Bool) (k : Nat) : (upTo p k).length ≤ k := by
  have := List.length_filter_le p (List.range k)
  simpa [upTo] using this
theorem upI_len (p : Nat → Bool) (k : Nat) : (upI p k).length ≤ k := by rw [upI, List.length_map]; exact upTo_len p k
theorem upN_len (f : Nat → Node) (p : Nat → Bool) (k : Nat) : (upN f p k).length ≤ k := by rw [upN, List.length_map]; exact upTo_len p k
theorem mem_upTo {p : Nat → Bool} {k x : Nat} : x ∈ upTo p k ↔ x < k ∧ p x = true := by simp [upTo]
theorem mem_upI {p : Nat → Bool} {k : Nat} {x : Int} : x ∈ upI p k ↔ ∃ j : Nat, x = j ∧ j < k ∧ p j = true := by
  simp only [upI, List.mem_map, mem_upTo]
  constructor
  · rintro ⟨j, h, rfl⟩; exact ⟨j, rfl, h⟩
  · rintro ⟨j, rfl, h⟩; exact ⟨j, h, rfl⟩
theorem upI_zero (p : Nat → Bool) : upI p 0 = [] := rfl
theorem upN_zero (f : Nat → Node) (p : Nat → Bool) : upN f p 0 = [] := rfl
def differ (a b : List Node) (x : Nat) : Bool := decide (nodeAt a x ≠ nodeAt b x)
def placesT (a b : List Node) : List Int := upI (differ (known a) (known b)) (known b).length
def makeT (a b : List Node) : Patch := ⟨(known b).length, placesT a b, upN (nodeAt (known b)) (differ (known a) (known b)) (known b).length⟩

/-- A patch's node at a place, if it has one. -/
def ofP (p : Patch) (x : Int) : Option Node := ((p.x.zip p.n).find? fun q => q.1 == x).map (·.2)
theorem find_zip : ∀ {xs : List Int} {ns : List Node} {x : Int} {k : Nat} (hk : k < xs.length) (hn : k < ns.length), xs[k] = x → (∀ j (h : j < xs.length), j < k → xs[j] ≠ x) → ((xs.zip ns).find? fun q => q.1 == x).map (·.2) = some ns[k]
  | y :: xs, n :: ns, x, 0, hk, hn, h, hno => by
    have h' : y = x := h
    simp [h']
  | y :: xs, n :: ns, x, k + 1, hk, hn, h, hno => by
    have h0 : y ≠ x := hno 0 (by simp) (by omega)
    have := find_zip (xs := xs) (ns := ns) (x := x) (k := k) (by simpa using hk) (by simpa using hn) (by simpa using h) fun j hj hjk => by
      have := hno (j + 1) (by simpa using hj) (by omega)
      simpa using this
    rw [List.zip_cons_cons, List.find?_cons_of_neg (by simpa using h0), this]
    rfl
  | [], _, _, _, hk, _, _, _ => by simp at hk
  | _ :: _, [], _, _, _, hn, _, _ => by simp at hn
theorem ofP_at {p : Patch} {x : Int} {k : Nat} (hk : k < p.x.length) (hn : k < p.n.length) (h : p.x[k] = x) (hno : ∀ j (h : j < p.x.length), j < k → p.x[j] ≠ x) : ofP p x = some p.n[k] := find_zip hk hn h hno
theorem ofP_mem {p : Patch} (h : p.n.length = p.x.length) {x : Int} : (ofP p x).isSome = decide (x ∈ p.x) := by
  rw [Bool.eq_iff_iff, decide_eq_true_eq]
  constructor
  · intro hs
    obtain ⟨n, hn⟩ := Option.isSome_iff_exists.1 hs
    rw [ofP, Option.map_eq_some_iff] at hn
    obtain ⟨⟨y, m⟩, h1, rfl⟩ := hn
    have := List.find?_some h1
    rw [show x = y by simpa using (by simpa using this : y = x).symm]
    exact (List.of_mem_zip (List.mem_of_find?_eq_some h1)).1
  · intro hx
    cases ho : ofP p x with
    | some n => rfl
    | none =>
      rw [ofP, Option.map_eq_none_iff, List.find?_eq_none] at ho
      obtain ⟨j, hj, rfl⟩ := List.getElem_of_mem hx
      have : (p.x[j], p.n[j]'(by omega)) ∈ p.x.zip p.n := by
        rw [List.mem_iff_getElem]; exact ⟨j, by simp; omega, by simp⟩
      simpa using ho _ this

def joins (p q : Patch) (x : Nat) : Bool := decide ((x : Int) ∈ p.x ∨ (x : Int) ∈ q.x ∨ (x : Int) ≥ p.len)
def joinN (p q : Patch) (x : Nat) : Node := match ofP q x with
  | some n => n
  | none => (match ofP p x with | some n => n | none => .zero)
def joinT (p q : Patch) : Patch × Int := if May p ∧ May q then (⟨q.len, upI (joins p q) q.len.toNat, upN (joinN p q) (joins p q) q.len.toNat⟩, 0) else (.zero, 2)

end Go.Proofs.YtihhinbjhiankaaGreatDoor.Al

set_option linter.unusedSimpArgs false
set_option linter.unusedVariables false
namespace Go.Proofs.YtihhinbjhiankaaGreatDoor.Al
open Go
attribute [local go_sem] W_mv W_pick W_alloc W_box W_build W_bslice W_load W_store W_bin W_isnil W_un W_convI W_convS W_mkfunc W_mkslice W_slice W_faddr W_field W_iaddr W_extract W_len W_min W_append W_appendZ W_copy W_invoke thenQ_normal thenQ_exit thenQ_goto thenQ_ret blockQ_normal blockQ_ret blockQ_goto blockQ_exit wpc_skip wpc_region wpc_draw wpc_seq wpc_cond wpc_block wpc_exit wpc_goto wpc_label wpc_ret wpc_loop wpc_range wpc_scope condW_true condW_false condW_dec condW_any W_nil W_call resW_some evalOp Opd.ev updo_envL updo_none setL_cons setL_nil envL_cons Option.map_some Option.bind_some evBin evInt List.map_cons List.map_nil Option.pure_def Option.bind_eq_bind W_grd' grdW_tt grdW_ff grdW_tf grdW_ft grdW_tup grdW_dt grdW_df lgrdW_tup L_mv L_load L_bin L_un L_faddr L_iaddr L_nil L_call lresW_some upd_envL evUn beq_dec bne_dec leaves_ret1 leaves_ret0 leaves_end0 rowLen_ints load_iptr0 not_dec heap_get0 heap_get1 heap_set0 heap_set1 heap_len1 heap_app bslice1_int seen_ints seen_one0 Nat.sub_zero Bool.not_true Bool.not_false List.length_nil List.length_cons List.nil_append List.cons_append Nat.zero_add load_iptrA canon_ptrI canon_bool canon_tup canon_agg canon_ints' canon_ints0 rowLen_octs seen_octs canon_octs' seen_intss seen_octss rowLen_nodes seen_nodes canon_nodes' rowLen_nodes0 rowLen_nodes1 seen_list cells_int oneIn_int cells_bool oneIn_bool cells_str oneIn_str cells_list oneIn_list cells_func oneIn_func cells_nilfunc oneIn_nilfunc cells_iptr oneIn_iptr cells_iface oneIn_iface cells_nilIface oneIn_nilIface cells_own cells_ptr cells_anybool oneIn_anybool cells_agg oneIn_own0 oneIn_own1 oneIn_own3 oneIn_own4 oneIn_own5 cells_ints oneIn_ints cells_octs oneIn_octs cells_intss oneIn_intss cells_octss oneIn_octss cells_nodes oneIn_nodes ldB0 ldA0 adB0 stB0 ldB1 ldA1 adB1 stB1 ldB2 ldA2 adB2 stB2 ldB3 ldA3 adB3 stB3 ldB4 ldA4 adB4 stB4 ldB5 ldA5 adB5 stB5 List.getElem?_cons_zero List.getElem?_cons_succ beq_self_eq_true splice List.take_zero List.take_succ_cons List.drop_zero List.drop_succ_cons List.append_nil List.set_cons_zero List.set_cons_succ List.all_cons List.all_nil Bool.and_self and_self and_true true_and Nat.lt_irrefl Nat.zero_lt_one Nat.le_refl fillA evNil notA Bool.false_eq_true evMin_int evMax_int Option.map_none freezeP_all_nil freezeP_all_cons frzE_box frzE_arr frzE_dead foldA List.foldlM_cons List.foldlM_nil callW_f lcallW_f ansW_fn ansW_own lansW_fn lansW_own ansW_none lansW_none tab_cons tab_nil dI_int dB_bool dO_octs dO_ints dO_nil dOs_nil dN_nodeA dLf_agg dIn_agg dN_agg dNs_nodes dNs_nil isI_int isO_octs isO_nil isS_ints isS_nil isNs_nodes isNs_nil isLf_agg isIn_agg isN_agg leaf_eta inner_eta node_eta leaf_zero inner_zero node_zero dP_agg isP_agg patch_eta decide_eq_true_eq decide_eq_false_iff_not eq_self forall_const true_implies false_implies Bool.not_eq_true' Bool.not_eq_false' Bool.true_eq_false implies_true ne_eq ldI ldIA adI AV.tup.injEq AV.agg.injEq List.cons.injEq AV.int.injEq AV.bool.injEq nodes_inj octs_inj ints_inj nil_nodes nil_octs nil_ints canon_nilL decide_eq_decide two_ne lendA_fn lendA_own lendA_none llendA_fn llendA_none plain_bool plain_int isNs_own isS_own false_and and_false Q_nil Q_l Q_g Q_h qgrdW_b qgrdW_tup lightD_some heavyD_some readD_some fnD_some fnD_own fnD_none callL_f ownH_some callH_f litD_some litE_some Q_call Q_bslice H_call pendOk_nil pendOk_cons pastOk_nil pastOk_cons Q_mv Q_pick Q_bin Q_un Q_convI Q_mkfunc Q_extract Q_min Q_max Q_lenS Q_lenA Q_field Q_idxA Q_mkiface Q_tassert Q_alloc Q_box Q_store Q_mkslice Q_append Q_appendZ Q_copy Q_clear Q_build Q_load Q_nilck Q_isnil Q_convS Q_slice Q_faddr Q_iaddr Q_iaddrA Q_len H_alloc H_box H_bslice H_store H_mkslice H_append H_appendZ H_copy H_clear free_mv free_pick free_bin free_un free_convI free_mkfunc free_extract free_min free_max free_lenS free_lenA free_field free_idxA free_mkiface free_tassert free_build free_load free_nilck free_isnil free_convS free_slice free_faddr free_iaddr free_iaddrA free_len callW_y List.length_map List.length_set leaves_r evR_some evRess1 evRess2 evRess3 evRes_t evRes_c nz_kind nz_enc nz_cred nz_source nz_parent nz_ienc nz_hash nz_un true_or or_true bsl_node idbs_node idbs_int appN appI ixo_nodes canon_row canon_rowI canon_rowO not_false_eq_true not_true_eq_false ldE_a ldE_c adE_b stE_b onE_a onP_b bsl_zero idbs_zero appN_zero
attribute [local go_sem low] condW_b grdW_b lgrdW_b ldP adP stP onO onPt
attribute [local simp] envL_cons envL_nil idb_int idb_bool idb_ints idb_nil idb_own idb_ptr idb_octs idb_nodes idb_leafA idb_innerA idb_nodeA idb_agg idb_tup idb_iptr idb_fn entB_dead entB_box
end Go.Proofs.YtihhinbjhiankaaGreatDoor.Al

set_option linter.unusedSimpArgs false
set_option linter.unusedVariables false
namespace Go.Proofs.YtihhinbjhiankaaGreatDoor.Al
open Go
attribute [local go_sem] W_mv W_pick W_alloc W_box W_build W_bslice W_load W_store W_bin W_isnil W_un W_convI W_convS W_mkfunc W_mkslice W_slice W_faddr W_field W_iaddr W_extract W_len W_min W_append W_appendZ W_copy W_invoke thenQ_normal thenQ_exit thenQ_goto thenQ_ret blockQ_normal blockQ_ret blockQ_goto blockQ_exit wpc_skip wpc_region wpc_draw wpc_seq wpc_cond wpc_block wpc_exit wpc_goto wpc_label wpc_ret wpc_loop wpc_range wpc_scope condW_true condW_false condW_dec condW_any W_nil W_call resW_some evalOp Opd.ev updo_envL updo_none setL_cons setL_nil envL_cons Option.map_some Option.bind_some evBin evInt List.map_cons List.map_nil Option.pure_def Option.bind_eq_bind W_grd' grdW_tt grdW_ff grdW_tf grdW_ft grdW_tup grdW_dt grdW_df lgrdW_tup L_mv L_load L_bin L_un L_faddr L_iaddr L_nil L_call lresW_some upd_envL evUn beq_dec bne_dec leaves_ret1 leaves_ret0 leaves_end0 rowLen_ints load_iptr0 not_dec heap_get0 heap_get1 heap_set0 heap_set1 heap_len1 heap_app bslice1_int seen_ints seen_one0 Nat.sub_zero Bool.not_true Bool.not_false List.length_nil List.length_cons List.nil_append List.cons_append Nat.zero_add load_iptrA canon_ptrI canon_bool canon_tup canon_agg canon_ints' canon_ints0 rowLen_octs seen_octs canon_octs' seen_intss seen_octss rowLen_nodes seen_nodes canon_nodes' rowLen_nodes0 rowLen_nodes1 seen_list cells_int oneIn_int cells_bool oneIn_bool cells_str oneIn_str cells_list oneIn_list cells_func oneIn_func cells_nilfunc oneIn_nilfunc cells_iptr oneIn_iptr cells_iface oneIn_iface cells_nilIface oneIn_nilIface cells_own cells_ptr cells_anybool oneIn_anybool cells_agg oneIn_own0 oneIn_own1 oneIn_own3 oneIn_own4 oneIn_own5 cells_ints oneIn_ints cells_octs oneIn_octs cells_intss oneIn_intss cells_octss oneIn_octss cells_nodes oneIn_nodes ldB0 ldA0 adB0 stB0 ldB1 ldA1 adB1 stB1 ldB2 ldA2 adB2 stB2 ldB3 ldA3 adB3 stB3 ldB4 ldA4 adB4 stB4 ldB5 ldA5 adB5 stB5 List.getElem?_cons_zero List.getElem?_cons_succ beq_self_eq_true splice List.take_zero List.take_succ_cons List.drop_zero List.drop_succ_cons List.append_nil List.set_cons_zero List.set_cons_succ List.all_cons List.all_nil Bool.and_self and_self and_true true_and Nat.lt_irrefl Nat.zero_lt_one Nat.le_refl fillA evNil notA Bool.false_eq_true evMin_int evMax_int Option.map_none freezeP_all_nil freezeP_all_cons frzE_box frzE_arr frzE_dead foldA List.foldlM_cons List.foldlM_nil callW_f lcallW_f ansW_fn ansW_own lansW_fn lansW_own ansW_none lansW_none tab_cons tab_nil dI_int dB_bool dO_octs dO_ints dO_nil dOs_nil dN_nodeA dLf_agg dIn_agg dN_agg dNs_nodes dNs_nil isI_int isO_octs isO_nil isS_ints isS_nil isNs_nodes isNs_nil isLf_agg isIn_agg isN_agg leaf_eta inner_eta node_eta leaf_zero inner_zero node_zero dP_agg isP_agg patch_eta decide_eq_true_eq decide_eq_false_iff_not eq_self forall_const true_implies false_implies Bool.not_eq_true' Bool.not_eq_false' Bool.true_eq_false implies_true ne_eq ldI ldIA adI AV.tup.injEq AV.agg.injEq List.cons.injEq AV.int.injEq AV.bool.injEq nodes_inj octs_inj ints_inj nil_nodes nil_octs nil_ints canon_nilL decide_eq_decide two_ne lendA_fn lendA_own lendA_none llendA_fn llendA_none plain_bool plain_int isNs_own isS_own false_and and_false Q_nil Q_l Q_g Q_h qgrdW_b qgrdW_tup lightD_some heavyD_some readD_some fnD_some fnD_own fnD_none callL_f ownH_some callH_f litD_some litE_some Q_call Q_bslice H_call pendOk_nil pendOk_cons pastOk_nil pastOk_cons Q_mv Q_pick Q_bin Q_un Q_convI Q_mkfunc Q_extract Q_min Q_max Q_lenS Q_lenA Q_field Q_idxA Q_mkiface Q_tassert Q_alloc Q_box Q_store Q_mkslice Q_append Q_appendZ Q_copy Q_clear Q_build Q_load Q_nilck Q_isnil Q_convS Q_slice Q_faddr Q_iaddr Q_iaddrA Q_len H_alloc H_box H_bslice H_store H_mkslice H_append H_appendZ H_copy H_clear free_mv free_pick free_bin free_un free_convI free_mkfunc free_extract free_min free_max free_lenS free_lenA free_field free_idxA free_mkiface free_tassert free_build free_load free_nilck free_isnil free_convS free_slice free_faddr free_iaddr free_iaddrA free_len callW_y List.length_map List.length_set leaves_r evR_some evRess1 evRess2 evRess3 evRes_t evRes_c nz_kind nz_enc nz_cred nz_source nz_parent nz_ienc nz_hash nz_un true_or or_true bsl_node idbs_node idbs_int appN appI ixo_nodes canon_row canon_rowI canon_rowO not_false_eq_true not_true_eq_false ldE_a ldE_c adE_b stE_b onE_a onP_b bsl_zero idbs_zero appN_zero
attribute [local go_sem low] condW_b grdW_b lgrdW_b ldP adP stP onO onPt
attribute [local simp] envL_cons envL_nil idb_int idb_bool idb_ints idb_nil idb_own idb_ptr idb_octs idb_nodes idb_leafA idb_innerA idb_nodeA idb_agg idb_tup idb_iptr idb_fn entB_dead entB_box
end Go.Proofs.YtihhinbjhiankaaGreatDoor.Al

set_option linter.unusedSimpArgs false
set_option linter.unusedVariables false
namespace Go.Proofs.YtihhinbjhiankaaGreatDoor.Al
open Go
attribute [local go_sem] W_mv W_pick W_alloc W_box W_build W_bslice W_load W_store W_bin W_isnil W_un W_convI W_convS W_mkfunc W_mkslice W_slice W_faddr W_field W_iaddr W_extract W_len W_min W_append W_appendZ W_copy W_invoke thenQ_normal thenQ_exit thenQ_goto thenQ_ret blockQ_normal blockQ_ret blockQ_goto blockQ_exit wpc_skip wpc_region wpc_draw wpc_seq wpc_cond wpc_block wpc_exit wpc_goto wpc_label wpc_ret wpc_loop wpc_range wpc_scope condW_true condW_false condW_dec condW_any W_nil W_call resW_some evalOp Opd.ev updo_envL updo_none setL_cons setL_nil envL_cons Option.map_some Option.bind_some evBin evInt List.map_cons List.map_nil Option.pure_def Option.bind_eq_bind W_grd' grdW_tt grdW_ff grdW_tf grdW_ft grdW_tup grdW_dt grdW_df lgrdW_tup L_mv L_load L_bin L_un L_faddr L_iaddr L_nil L_call lresW_some upd_envL evUn beq_dec bne_dec leaves_ret1 leaves_ret0 leaves_end0 rowLen_ints load_iptr0 not_dec heap_get0 heap_get1 heap_set0 heap_set1 heap_len1 heap_app bslice1_int seen_ints seen_one0 Nat.sub_zero Bool.not_true Bool.not_false List.length_nil List.length_cons List.nil_append List.cons_append Nat.zero_add load_iptrA canon_ptrI canon_bool canon_tup canon_agg canon_ints' canon_ints0 rowLen_octs seen_octs canon_octs' seen_intss seen_octss rowLen_nodes seen_nodes canon_nodes' rowLen_nodes0 rowLen_nodes1 seen_list cells_int oneIn_int cells_bool oneIn_bool cells_str oneIn_str cells_list oneIn_list cells_func oneIn_func cells_nilfunc oneIn_nilfunc cells_iptr oneIn_iptr cells_iface oneIn_iface cells_nilIface oneIn_nilIface cells_own cells_ptr cells_anybool oneIn_anybool cells_agg oneIn_own0 oneIn_own1 oneIn_own3 oneIn_own4 oneIn_own5 cells_ints oneIn_ints cells_octs oneIn_octs cells_intss oneIn_intss cells_octss oneIn_octss cells_nodes oneIn_nodes ldB0 ldA0 adB0 stB0 ldB1 ldA1 adB1 stB1 ldB2 ldA2 adB2 stB2 ldB3 ldA3 adB3 stB3 ldB4 ldA4 adB4 stB4 ldB5 ldA5 adB5 stB5 List.getElem?_cons_zero List.getElem?_cons_succ beq_self_eq_true splice List.take_zero List.take_succ_cons List.drop_zero List.drop_succ_cons List.append_nil List.set_cons_zero List.set_cons_succ List.all_cons List.all_nil Bool.and_self and_self and_true true_and Nat.lt_irrefl Nat.zero_lt_one Nat.le_refl fillA evNil notA Bool.false_eq_true evMin_int evMax_int Option.map_none freezeP_all_nil freezeP_all_cons frzE_box frzE_arr frzE_dead foldA List.foldlM_cons List.foldlM_nil callW_f lcallW_f ansW_fn ansW_own lansW_fn lansW_own ansW_none lansW_none tab_cons tab_nil dI_int dB_bool dO_octs dO_ints dO_nil dOs_nil dN_nodeA dLf_agg dIn_agg dN_agg dNs_nodes dNs_nil isI_int isO_octs isO_nil isS_ints isS_nil isNs_nodes isNs_nil isLf_agg isIn_agg isN_agg leaf_eta inner_eta node_eta leaf_zero inner_zero node_zero dP_agg isP_agg patch_eta decide_eq_true_eq decide_eq_false_iff_not eq_self forall_const true_implies false_implies Bool.not_eq_true' Bool.not_eq_false' Bool.true_eq_false implies_true ne_eq ldI ldIA adI AV.tup.injEq AV.agg.injEq List.cons.injEq AV.int.injEq AV.bool.injEq nodes_inj octs_inj ints_inj nil_nodes nil_octs nil_ints canon_nilL decide_eq_decide two_ne lendA_fn lendA_own lendA_none llendA_fn llendA_none plain_bool plain_int isNs_own isS_own false_and and_false Q_nil Q_l Q_g Q_h qgrdW_b qgrdW_tup lightD_some heavyD_some readD_some fnD_some fnD_own fnD_none callL_f ownH_some callH_f litD_some litE_some Q_call Q_bslice H_call pendOk_nil pendOk_cons pastOk_nil pastOk_cons Q_mv Q_pick Q_bin Q_un Q_convI Q_mkfunc Q_extract Q_min Q_max Q_lenS Q_lenA Q_field Q_idxA Q_mkiface Q_tassert Q_alloc Q_box Q_store Q_mkslice Q_append Q_appendZ Q_copy Q_clear Q_build Q_load Q_nilck Q_isnil Q_convS Q_slice Q_faddr Q_iaddr Q_iaddrA Q_len H_alloc H_box H_bslice H_store H_mkslice H_append H_appendZ H_copy H_clear free_mv free_pick free_bin free_un free_convI free_mkfunc free_extract free_min free_max free_lenS free_lenA free_field free_idxA free_mkiface free_tassert free_build free_load free_nilck free_isnil free_convS free_slice free_faddr free_iaddr free_iaddrA free_len callW_y List.length_map List.length_set leaves_r evR_some evRess1 evRess2 evRess3 evRes_t evRes_c nz_kind nz_enc nz_cred nz_source nz_parent nz_ienc nz_hash nz_un true_or or_true bsl_node idbs_node idbs_int appN appI ixo_nodes canon_row canon_rowI canon_rowO not_false_eq_true not_true_eq_false ldE_a ldE_c adE_b stE_b onE_a onP_b bsl_zero idbs_zero appN_zero
attribute [local go_sem low] condW_b grdW_b lgrdW_b ldP adP stP onO onPt
attribute [local simp] envL_cons envL_nil idb_int idb_bool idb_ints idb_nil idb_own idb_ptr idb_octs idb_nodes idb_leafA idb_innerA idb_nodeA idb_agg idb_tup idb_iptr idb_fn entB_dead entB_box
theorem fits_spec (x k : Int) : Fun seat 123 [.int .i64 x, .int .i64 k] (.bool (decide (Stands x k))) := by
  refine Fun.of0R [] told123 (by simp [il123]) (by simp [idb_patchA]) (by simp [idb_patchA]) 4 ?_
  simp only [il123, List.zipIdx_cons, List.zipIdx_nil, leafA, innerA, nodeA, patchA, Leaf.cells, Inner.cells, Node.cells, go_sem, Nat.reduceEqDiff, reduceIte, Nat.reduceAdd, Nat.reduceLeDiff, Nat.reduceLT, Nat.reduceSub]
  iterate 12 ((all_goals intros); (all_goals try refine And.intro ?_ ?_))
  all_goals first | (show WP _ _ _ _ _ _ _) | grind [Stands]
noncomputable def r123 : Reg seat := .of told123 (ask2 (fun a0' a1' => isI a0' ∧ isI a1') fun a0' a1' => .fn (.bool (decide (Stands (dI a0') (dI a1'))))) (ask2_ok fun a0' a1' h => SaidOk.fn (Fun.weak (.cons (isI.weak h.1) (.cons (isI.weak h.2) .nil)) (fits_spec _ _)))
theorem r123_c : r123.c = 123 := rfl
open Classical in
theorem r123_ask (a0' a1' : AV) : r123.ask [a0', a1'] = if isI a0' ∧ isI a1' then some (Said.fn (.bool (decide (Stands (dI a0') (dI a1'))))) else none := by unfold r123 Reg.of ask2; exact ite_cl
theorem blank_spec (n : Node) : Fun seat 127 [nodeA n] (.bool (decide (n.kind = 0))) := by
  refine Fun.of0R [] told127 (by simp [il127]) (by simp [idb_patchA]) (by simp [idb_patchA]) 4 ?_
  simp only [il127, List.zipIdx_cons, List.zipIdx_nil, leafA, innerA, nodeA, patchA, Leaf.cells, Inner.cells, Node.cells, go_sem, Nat.reduceEqDiff, reduceIte, Nat.reduceAdd, Nat.reduceLeDiff, Nat.reduceLT, Nat.reduceSub]
noncomputable def r127 : Reg seat := .of told127 (ask1 (fun a0' => isN a0') fun a0' => .fn (.bool (decide ((dN a0').kind = 0)))) (ask1_ok fun a0' h => SaidOk.fn (Fun.weak (.cons (isN.weak h) .nil) (blank_spec _)))
theorem r127_c : r127.c = 127 := rfl
open Classical in
theorem r127_ask (a0' : AV) : r127.ask [a0'] = if isN a0' then some (Said.fn (.bool (decide ((dN a0').kind = 0)))) else none := by unfold r127 Reg.of ask1; exact ite_cl
theorem whole_spec (w : Int) : Fun seat 125 [.int .i64 w] (.bool (decide (Whole w))) := by
  by_cases h : 0 < w ∧ w ≤ 127
  · refine Fun.of0R [] told125 (by simp [il125]) (by simp [idb_patchA]) (by simp [idb_patchA]) 4 ?_
    simp only [il125, List.zipIdx_cons, List.zipIdx_nil, leafA, innerA, nodeA, patchA, Leaf.cells, Inner.cells, Node.cells, h, wrap64s (w + 1) (by omega), whole_bits w h.1 h.2, go_sem, Nat.reduceEqDiff, reduceIte, Nat.reduceAdd, Nat.reduceLeDiff, Nat.reduceLT, Nat.reduceSub]
    iterate 12 ((all_goals intros); (all_goals try refine And.intro ?_ ?_))
    all_goals first | (show WP _ _ _ _ _ _ _) | grind
  · have h' : ¬ Whole w := fun hw => h hw.le
    refine Fun.of0R [] told125 (by simp [il125]) (by simp [idb_patchA]) (by simp [idb_patchA]) 4 ?_
    simp only [il125, List.zipIdx_cons, List.zipIdx_nil, leafA, innerA, nodeA, patchA, Leaf.cells, Inner.cells, Node.cells, h', go_sem, Nat.reduceEqDiff, reduceIte, Nat.reduceAdd, Nat.reduceLeDiff, Nat.reduceLT, Nat.reduceSub]
    iterate 12 ((all_goals intros); (all_goals try refine And.intro ?_ ?_))
    all_goals first | (show WP _ _ _ _ _ _ _) | grind
noncomputable def r125 : Reg seat := .of told125 (ask1 (fun a0' => isI a0') fun a0' => .fn (.bool (decide (Whole (dI a0'))))) (ask1_ok fun a0' h => SaidOk.fn (Fun.weak (.cons (isI.weak h) .nil) (whole_spec _)))
theorem r125_c : r125.c = 125 := rfl
open Classical in
theorem r125_ask (a0' : AV) : r125.ask [a0'] = if isI a0' then some (Said.fn (.bool (decide (Whole (dI a0'))))) else none := by unfold r125 Reg.of ask1; exact ite_cl
theorem root_spec (w : Int) : Fun seat 109 [.int .i64 w] (.int .i64 (if Whole w then w / 2 else -1)) := by
  by_cases h : Whole w
  · have := h.le
    refine Fun.of0R [r125] told109 (by simp [il109]) (by simp [idb_patchA]) (by simp [idb_patchA]) 4 ?_
    simp only [il109, List.zipIdx_cons, List.zipIdx_nil, leafA, innerA, nodeA, patchA, Leaf.cells, Inner.cells, Node.cells, r125_c, r125_ask, h, quo2 w (by omega), go_sem, Nat.reduceEqDiff, reduceIte, Nat.reduceAdd, Nat.reduceLeDiff, Nat.reduceLT, Nat.reduceSub]
  · refine Fun.of0R [r125] told109 (by simp [il109]) (by simp [idb_patchA]) (by simp [idb_patchA]) 4 ?_
    simp only [il109, List.zipIdx_cons, List.zipIdx_nil, leafA, innerA, nodeA, patchA, Leaf.cells, Inner.cells, Node.cells, r125_c, r125_ask, h, go_sem, Nat.reduceEqDiff, reduceIte, Nat.reduceAdd, Nat.reduceLeDiff, Nat.reduceLT, Nat.reduceSub]
noncomputable def r109 : Reg seat := .of told109 (ask1 (fun a0' => isI a0') fun a0' => .fn (.int .i64 (if Whole (dI a0') then (dI a0') / 2 else -1))) (ask1_ok fun a0' h => SaidOk.fn (Fun.weak (.cons (isI.weak h) .nil) (root_spec _)))
theorem r109_c : r109.c = 109 := rfl
open Classical in
theorem r109_ask (a0' : AV) : r109.ask [a0'] = if isI a0' then some (Said.fn (.int .i64 (if Whole (dI a0') then (dI a0') / 2 else -1))) else none := by unfold r109 Reg.of ask1; exact ite_cl
end Go.Proofs.YtihhinbjhiankaaGreatDoor.Al
