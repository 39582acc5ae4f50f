/-
  JOINED: N1, N2, N3, N4, S1, Q1, Q2, Q3, Q4, Q5
-/
import Derived.Test.YtihhinbjhiankaaGreatDoorLawSetBP5
import Derived.Test.YtihhinbjhiankaaGreatDoorLawSetBP3
import Derived.Test.YtihhinbjhiankaaGreatDoorLawSetBP4
set_option linter.unusedSimpArgs false
set_option linter.unusedVariables false
namespace Go.Proofs.YtihhinbjhiankaaGreatDoor.Al
open Go
attribute [local go_sem] W_mv W_pick W_alloc W_box W_build W_bslice W_load W_store W_bin W_isnil W_un W_convI W_convS W_mkiface W_mkfunc W_slice W_faddr W_iaddr W_idxA W_extract W_len W_min W_max W_append W_appendZ W_clear W_invoke thenQ_normal thenQ_exit thenQ_goto thenQ_ret blockQ_normal blockQ_ret blockQ_goto blockQ_exit wpc_skip wpc_region wpc_draw wpc_seq wpc_cond wpc_block wpc_exit wpc_goto wpc_label wpc_ret wpc_loop wpc_range wpc_scope condW_true condW_false condW_dec condW_any W_nil W_call resW_some evalOp Opd.ev updo_envL updo_none setL_cons setL_nil envL_cons Option.map_some Option.bind_some evBin evInt List.map_cons List.map_nil Option.pure_def Option.bind_eq_bind W_grd' grdW_tt grdW_ff grdW_tf grdW_ft grdW_tup grdW_dt grdW_df lgrdW_tup L_mv L_load L_bin L_un L_faddr L_iaddr L_nil L_call lresW_some upd_envL evUn beq_dec bne_dec leaves_ret1 leaves_ret0 leaves_end0 rowLen_ints load_iptr0 not_dec heap_get0 heap_get1 heap_set0 heap_set1 heap_len1 heap_app bslice1_int seen_ints seen_one0 bslice0_int Nat.sub_zero Bool.not_true Bool.not_false List.length_nil List.length_cons List.nil_append List.cons_append Nat.zero_add load_iptrA canon_ptrI canon_bool canon_tup canon_agg canon_ints' canon_ints0 rowLen_ints1 rowLen_octs seen_octs canon_octs' seen_intss seen_octss rowLen_nodes seen_nodes canon_nodes' rowLen_nodes3 seen_list cells_int oneIn_int cells_bool oneIn_bool cells_str oneIn_str cells_list oneIn_list cells_func oneIn_func cells_nilfunc oneIn_nilfunc cells_iptr oneIn_iptr cells_iface oneIn_iface cells_nilIface oneIn_nilIface cells_own cells_ptr cells_anybool oneIn_anybool cells_agg oneIn_own0 oneIn_own1 seenL1 seenM1 oneIn_ptr2 seenL2 oneIn_own3 seenL3 cells_ints oneIn_ints cells_octs oneIn_octs cells_intss oneIn_intss cells_octss oneIn_octss cells_nodes oneIn_nodes ldB0 ldA0 adB0 stB0 ldB1 ldA1 adB1 stB1 ldB2 ldA2 adB2 stB2 ldB3 ldA3 adB3 stB3 ldB4 ldA4 adB4 stB4 ldB5 ldA5 adB5 stB5 List.getElem?_cons_zero List.getElem?_cons_succ beq_self_eq_true splice List.take_zero List.take_succ_cons List.drop_zero List.drop_succ_cons List.append_nil List.set_cons_zero List.set_cons_succ List.all_cons List.all_nil Bool.and_self and_self and_true true_and Nat.lt_irrefl Nat.zero_lt_one Nat.le_refl fillA evNil notA Bool.false_eq_true evMin_int evMax_int Option.map_none freezeP_all_nil freezeP_all_cons frzE_box frzE_arr frzE_dead foldA List.foldlM_cons List.foldlM_nil
attribute [local simp] envL_cons envL_nil idb_int idb_bool idb_ints idb_nil idb_own idb_ptr idb_octs idb_nodes idb_leafA idb_innerA idb_nodeA idb_agg idb_tup idb_iptr idb_fn entB_dead entB_box
def bytesOf (l : List Int) : List UInt8 := l.map fun n => UInt8.ofNat n.toNat
theorem bytes_octs (l : List Int) : (l.map (AV.int .u8)).mapM byteOf = some (bytesOf l) := by
  induction l with
  | nil => rfl
  | cons x l ih => rw [List.map_cons, List.mapM_cons, ih]; rfl
theorem bytesOf_inj1 : ∀ {a b : List Int}, (∀ x ∈ a, IntKind.u8.min ≤ x ∧ x ≤ IntKind.u8.max) → (∀ x ∈ b, IntKind.u8.min ≤ x ∧ x ≤ IntKind.u8.max) → bytesOf a = bytesOf b → a = b
  | [], [], _, _, _ => rfl
  | [], y :: b, _, _, h => by simp [bytesOf] at h
  | x :: a, [], _, _, h => by simp [bytesOf] at h
  | x :: a, y :: b, ha, hb, h => by
    simp only [bytesOf, List.map_cons, List.cons.injEq] at h
    have hx := ha x (by simp)
    have hy := hb y (by simp)
    have hx0 : 0 ≤ x := hx.1
    have hx1 : x ≤ 255 := hx.2
    have hy0 : 0 ≤ y := hy.1
    have hy1 : y ≤ 255 := hy.2
    have e : x.toNat = y.toNat := by
      have := congrArg UInt8.toNat h.1
      rw [UInt8.toNat_ofNat', UInt8.toNat_ofNat', Nat.mod_eq_of_lt (by omega), Nat.mod_eq_of_lt (by omega)] at this
      exact this
    rw [show x = y by omega, bytesOf_inj1 (a := a) (b := b) (fun z hz => ha z (by simp [hz])) (fun z hz => hb z (by simp [hz])) h.2]
theorem bytesOf_inj {a b : List Int} (ha : Oct a) (hb : Oct b) (h : bytesOf a = bytesOf b) : a = b := bytesOf_inj1 ha.2 hb.2 h
theorem bytesOf_eq {a b : List Int} (ha : Oct a) (hb : Oct b) : (decide (bytesOf a = bytesOf b)) = decide (a = b) := by
  rw [decide_eq_decide]
  exact ⟨bytesOf_inj ha hb, fun h => by rw [h]⟩

theorem evStr_eql (a b : List UInt8) : evStr .eql a b = some (.bool (decide (a = b))) := by
  simp only [evStr]
  congr 2
  by_cases h : a = b
  · subst h; simp
  · simp [h]
/-- bytes.Equal. -/
theorem bytesEq_spec (a b : List Int) (ha : Oct a) (hb : Oct b) : Fun seat 156 [octs a, octs b] (.bool (decide (a = b))) := by
  refine Fun.of0 told156 (by simp [il156]) (by simp ) (by simp ) 0 ?_
  rw [← bytesOf_eq ha hb]
  simp only [il156, List.zipIdx_cons, List.zipIdx_nil, Nat.zero_add, go_sem, Nat.reduceEqDiff, reduceIte, Nat.reduceAdd, Nat.reduceLeDiff, Nat.reduceLT, Nat.reduceSub, bytes_octs, evStr_eql]

theorem big_spec (l : List Int) : Fun seat 158 [octs l] (.bool (decide ((l.length : Int) > 200))) := by
  refine Fun.of0 told158 (by simp [il158]) (by simp ) (by simp ) 0 ?_
  simp only [il158, List.zipIdx_cons, List.zipIdx_nil, Nat.zero_add, go_sem, Nat.reduceEqDiff, reduceIte, Nat.reduceAdd, Nat.reduceLeDiff, Nat.reduceLT, Nat.reduceSub]
theorem source_spec (x : Int) : Fun seat 160 [.int .i64 x] (.bool (decide (x ≥ 1 ∧ x ≤ 3))) := by
  refine Fun.of0 told160 (by simp [il160]) (by simp ) (by simp ) 0 ?_
  by_cases h : x ≥ 1
  · simp only [il160, List.zipIdx_cons, List.zipIdx_nil, Nat.zero_add, go_sem, Nat.reduceEqDiff, reduceIte, Nat.reduceAdd, Nat.reduceLeDiff, Nat.reduceLT, Nat.reduceSub, h, decide_true, true_and]
  · simp only [il160, List.zipIdx_cons, List.zipIdx_nil, Nat.zero_add, go_sem, Nat.reduceEqDiff, reduceIte, Nat.reduceAdd, Nat.reduceLeDiff, Nat.reduceLT, Nat.reduceSub, h, decide_false, false_and]
theorem wide_spec (x : Int) : Fun seat 161 [.int .i64 x] (.bool (decide (x < 0 ∨ x > 63))) := by
  refine Fun.of0 told161 (by simp [il161]) (by simp ) (by simp ) 0 ?_
  by_cases h : x < 0
  · simp only [il161, List.zipIdx_cons, List.zipIdx_nil, Nat.zero_add, go_sem, Nat.reduceEqDiff, reduceIte, Nat.reduceAdd, Nat.reduceLeDiff, Nat.reduceLT, Nat.reduceSub, h, decide_true, true_or]
  · simp only [il161, List.zipIdx_cons, List.zipIdx_nil, Nat.zero_add, go_sem, Nat.reduceEqDiff, reduceIte, Nat.reduceAdd, Nat.reduceLeDiff, Nat.reduceLT, Nat.reduceSub, h, decide_false, false_or]

end Go.Proofs.YtihhinbjhiankaaGreatDoor.Al
namespace Go.Proofs.YtihhinbjhiankaaGreatDoor.Al
open Go
attribute [local go_sem] W_mv W_pick W_alloc W_box W_build W_bslice W_load W_store W_bin W_isnil W_un W_convI W_convS W_mkiface W_mkfunc W_slice W_faddr W_iaddr W_idxA W_extract W_len W_min W_max W_append W_appendZ W_clear W_invoke thenQ_normal thenQ_exit thenQ_goto thenQ_ret blockQ_normal blockQ_ret blockQ_goto blockQ_exit wpc_skip wpc_region wpc_draw wpc_seq wpc_cond wpc_block wpc_exit wpc_goto wpc_label wpc_ret wpc_loop wpc_range wpc_scope condW_true condW_false condW_dec condW_any W_nil W_call resW_some evalOp Opd.ev updo_envL updo_none setL_cons setL_nil envL_cons Option.map_some Option.bind_some evBin evInt List.map_cons List.map_nil Option.pure_def Option.bind_eq_bind W_grd' grdW_tt grdW_ff grdW_tf grdW_ft grdW_tup grdW_dt grdW_df lgrdW_tup L_mv L_load L_bin L_un L_faddr L_iaddr L_nil L_call lresW_some upd_envL evUn beq_dec bne_dec leaves_ret1 leaves_ret0 leaves_end0 rowLen_ints load_iptr0 not_dec heap_get0 heap_get1 heap_set0 heap_set1 heap_len1 heap_app bslice1_int seen_ints seen_one0 bslice0_int Nat.sub_zero Bool.not_true Bool.not_false
attribute [local simp] envL_cons envL_nil idb_int idb_bool idb_ints idb_nil idb_own idb_ptr
/-- slices.Equal. -/
theorem eqInts_spec (a b : List Int) : Fun seat 157 [ints a, ints b] (.bool (decide (a = b))) := by
  intro H
  refine ACall.bnd (t := false) (xs := a.map (AV.int .i64)) (by simp [ints]) fun hlen => ?_
  rw [List.length_map] at hlen
  refine Fun.of_wp told157 (by simp [il157]) (.bool _) (fun H hwf hi => ?_) H
  simp only [il157, List.zipIdx_cons, List.zipIdx_nil, Nat.zero_add, go_sem, Nat.reduceEqDiff, reduceIte]
  refine ⟨fun hne => ⟨?_, by simp⟩, fun heq => ?_⟩
  · have : a ≠ b := fun e => hne (by rw [e])
    simp [this]
  have hll : a.length = b.length := by omega
  refine WP.loopF (fun k => k ≤ a.length ∧ ∀ j (hj : j < a.length), j < k → a[j] = b[j]) (fun k => ⟨envL [(0, ints a), (1, ints b), (4, .bool false), (12, .int .i64 a.length), (13, .int .i64 k)], H⟩) (fun k => a.length - k) 0 (by simp) (Fits.of (by simp ) (by simp ) (by simp) hwf) (fun _ _ => Nat.le_refl _) ?_
  rintro k ⟨hk, hno⟩
  refine wpc_sound ?_
  simp only [go_sem, Nat.reduceEqDiff, reduceIte]
  refine ⟨fun h => ?_, fun h => ?_⟩
  · have hk' : k < a.length := by omega
    refine WP.drawL mixed (by decide) ?_
    simp only [go_sem, Nat.reduceEqDiff, reduceIte, index_ints H a k hk', index_ints H b k (by omega)]
    refine ⟨fun ht => ⟨?_, by simp⟩, fun ht => ?_⟩
    · have : a ≠ b := fun e => ht (by simp [e])
      simp [this]
    · refine ⟨k + 1, ⟨hk', fun j hj hjk => ?_⟩, by omega, Fits.of ?_ (by simp ) (by simp) hwf⟩
      · rcases Nat.lt_or_ge j k with h | h
        · exact hno j hj h
        · have : j = k := by omega
          subst this; exact Classical.not_not.1 ht
      · simp 
        exact wrap64 _ (by omega) (by omega)
  · refine ⟨?_, by simp⟩
    have : a = b := List.ext_getElem hll fun j h1 h2 => hno j h1 (by omega)
    simp [this]

end Go.Proofs.YtihhinbjhiankaaGreatDoor.Al
namespace Go.Proofs.YtihhinbjhiankaaGreatDoor.Al
open Go
attribute [local go_sem] W_mv W_pick W_alloc W_box W_build W_bslice W_load W_store W_bin W_isnil W_un W_convI W_convS W_mkiface W_mkfunc W_slice W_faddr W_iaddr W_idxA W_extract W_len W_min W_max W_append W_appendZ W_clear W_invoke thenQ_normal thenQ_exit thenQ_goto thenQ_ret blockQ_normal blockQ_ret blockQ_goto blockQ_exit wpc_skip wpc_region wpc_draw wpc_seq wpc_cond wpc_block wpc_exit wpc_goto wpc_label wpc_ret wpc_loop wpc_range wpc_scope condW_true condW_false condW_dec condW_any W_nil W_call resW_some evalOp Opd.ev updo_envL updo_none setL_cons setL_nil envL_cons Option.map_some Option.bind_some evBin evInt List.map_cons List.map_nil Option.pure_def Option.bind_eq_bind W_grd' grdW_tt grdW_ff grdW_tf grdW_ft grdW_tup grdW_dt grdW_df lgrdW_tup L_mv L_load L_bin L_un L_faddr L_iaddr L_nil L_call lresW_some upd_envL evUn beq_dec bne_dec leaves_ret1 leaves_ret0 leaves_end0 rowLen_ints load_iptr0 not_dec heap_get0 heap_get1 heap_set0 heap_set1 heap_len1 heap_app bslice1_int seen_ints seen_one0 bslice0_int Nat.sub_zero Bool.not_true Bool.not_false List.length_nil List.length_cons List.nil_append List.cons_append Nat.zero_add load_iptrA canon_ptrI canon_bool canon_tup canon_agg canon_ints' canon_ints0 rowLen_ints1 rowLen_octs seen_octs canon_octs' seen_intss seen_octss rowLen_nodes seen_nodes canon_nodes' rowLen_nodes3 seen_list cells_int oneIn_int cells_bool oneIn_bool cells_str oneIn_str cells_list oneIn_list cells_func oneIn_func cells_nilfunc oneIn_nilfunc cells_iptr oneIn_iptr cells_iface oneIn_iface cells_nilIface oneIn_nilIface cells_own cells_ptr cells_anybool oneIn_anybool cells_agg oneIn_own0 oneIn_own1 seenL1 seenM1 oneIn_ptr2 seenL2 oneIn_own3 seenL3 cells_ints oneIn_ints cells_octs oneIn_octs cells_intss oneIn_intss cells_octss oneIn_octss cells_nodes oneIn_nodes ldB0 ldA0 adB0 stB0 ldB1 ldA1 adB1 stB1 ldB2 ldA2 adB2 stB2 ldB3 ldA3 adB3 stB3 ldB4 ldA4 adB4 stB4 ldB5 ldA5 adB5 stB5 List.getElem?_cons_zero List.getElem?_cons_succ beq_self_eq_true splice List.take_zero List.take_succ_cons List.drop_zero List.drop_succ_cons List.append_nil List.set_cons_zero List.set_cons_succ List.all_cons List.all_nil Bool.and_self and_self and_true true_and Nat.lt_irrefl Nat.zero_lt_one Nat.le_refl fillA evNil notA Bool.false_eq_true evMin_int evMax_int Option.map_none freezeP_all_nil freezeP_all_cons frzE_box frzE_arr frzE_dead foldA List.foldlM_cons List.foldlM_nil
attribute [local simp] envL_cons envL_nil idb_int idb_bool idb_ints idb_nil idb_own idb_ptr idb_octs idb_nodes idb_leafA idb_innerA idb_nodeA idb_agg idb_tup idb_iptr idb_fn entB_dead entB_box
theorem idx166_spec (l : List (List Int)) (p : List Int → Bool) (c : Nat) (f : IFn) (ht : trFn seat c = some f) (cap : List AV) (hcap : ∀ x ∈ cap, Idb 0 x) (h : ∀ x ∈ l, Fun seat c ([octs x] ++ cap) (.bool (p x))) : Fun seat 166 [encOcts.row l, .func (.f c) [] cap] (.int .i64 (idxF p l)) := by
  refine Fun.bd fun hbd => ?_
  have hlb : l.length ≤ 9223372036854775807 := encOcts.bd_len (t := false) hbd (by simp [Enc.row])
  refine Fun.of0 told166 (by simp [il166]) (by simpa [encOcts.idb_row] using hcap) (by simp ) 0 ?_
  simp only [il166, List.zipIdx_cons, List.zipIdx_nil, Nat.zero_add, go_sem, Nat.reduceEqDiff, reduceIte, Nat.reduceAdd, Nat.reduceLeDiff, Nat.reduceLT, Nat.reduceSub, encOcts.rowLen]
  refine WP.loop0 (fun k => k ≤ l.length ∧ ∀ j (hj : j < l.length), j < k → p l[j] = false) (fun k => [(0, encOcts.row l), (1, .func (.f c) [] cap), (7, .int .i64 l.length), (8, .int .i64 k)]) (fun k => l.length - k) 0 ⟨Nat.zero_le _, fun j _ h => by omega⟩
    (fun k _ => by simpa [encOcts.idb_row] using hcap) (by simp ) ?_
  rintro k ⟨hk, hno⟩
  refine wpc_sound ?_
  simp only [go_sem, Nat.reduceEqDiff, reduceIte, Nat.reduceAdd, Nat.reduceLeDiff, Nat.reduceLT, Nat.reduceSub]
  refine ⟨fun hlt => ?_, fun hge => ?_⟩
  · have hk' : k < l.length := by omega
    have ix : evIndex [] 1 (encOcts.row l) (.int .i64 (k : Int)) = some (.iptr ([octs l[k]]) 0) := encOcts.index [] l k hk'
    have ld : evLoad [] false 1 (.iptr ([octs l[k]]) 0) = some (octs l[k]) := rfl
    simp only [go_sem, Nat.reduceEqDiff, reduceIte, Nat.reduceAdd, Nat.reduceLeDiff, Nat.reduceLT, Nat.reduceSub, ix, ld]
    refine Callee.c ht (h l[k] (List.getElem_mem hk')) ?_
    cases hp : p l[k] with
    | true =>
      simp only [go_sem, Nat.reduceEqDiff, reduceIte, Nat.reduceAdd, Nat.reduceLeDiff, Nat.reduceLT, Nat.reduceSub]
      rw [findIdx_at hk' hp fun j hj => hno j (by omega) hj]
    | false =>
      simp only [go_sem, Nat.reduceEqDiff, reduceIte, Nat.reduceAdd, Nat.reduceLeDiff, Nat.reduceLT, Nat.reduceSub]
      refine ⟨k + 1, ⟨hk', fun j hj hjk => ?_⟩, by omega, by simp [wrapS (show k < 9223372036854775807 by omega)]⟩
      rcases Nat.lt_or_ge j k with hlt | hge
      · exact hno j hj hlt
      · obtain rfl : j = k := by omega
        exact hp
  · have hke : k = l.length := by omega
    subst hke
    rw [idxF_none fun j hj => hno j hj hj]

theorem idx167_spec (l : List (Int)) (p : Int → Bool) (c : Nat) (f : IFn) (ht : trFn seat c = some f) (cap : List AV) (hcap : ∀ x ∈ cap, Idb 0 x) (h : ∀ x ∈ l, Fun seat c ([.int .i64 x] ++ cap) (.bool (p x))) : Fun seat 167 [encI64.row l, .func (.f c) [] cap] (.int .i64 (idxF p l)) := by
  refine Fun.bd fun hbd => ?_
  have hlb : l.length ≤ 9223372036854775807 := encI64.bd_len (t := false) hbd (by simp [Enc.row])
  refine Fun.of0 told167 (by simp [il167]) (by simpa [encI64.idb_row] using hcap) (by simp ) 0 ?_
  simp only [il167, List.zipIdx_cons, List.zipIdx_nil, Nat.zero_add, go_sem, Nat.reduceEqDiff, reduceIte, Nat.reduceAdd, Nat.reduceLeDiff, Nat.reduceLT, Nat.reduceSub, encI64.rowLen]
  refine WP.loop0 (fun k => k ≤ l.length ∧ ∀ j (hj : j < l.length), j < k → p l[j] = false) (fun k => [(0, encI64.row l), (1, .func (.f c) [] cap), (7, .int .i64 l.length), (8, .int .i64 k)]) (fun k => l.length - k) 0 ⟨Nat.zero_le _, fun j _ h => by omega⟩
    (fun k _ => by simpa [encI64.idb_row] using hcap) (by simp ) ?_
  rintro k ⟨hk, hno⟩
  refine wpc_sound ?_
  simp only [go_sem, Nat.reduceEqDiff, reduceIte, Nat.reduceAdd, Nat.reduceLeDiff, Nat.reduceLT, Nat.reduceSub]
  refine ⟨fun hlt => ?_, fun hge => ?_⟩
  · have hk' : k < l.length := by omega
    have ix : evIndex [] 1 (encI64.row l) (.int .i64 (k : Int)) = some (.iptr ([.int .i64 l[k]]) 0) := encI64.index [] l k hk'
    have ld : evLoad [] false 1 (.iptr ([.int .i64 l[k]]) 0) = some (.int .i64 l[k]) := rfl
    simp only [go_sem, Nat.reduceEqDiff, reduceIte, Nat.reduceAdd, Nat.reduceLeDiff, Nat.reduceLT, Nat.reduceSub, ix, ld]
    refine Callee.c ht (h l[k] (List.getElem_mem hk')) ?_
    cases hp : p l[k] with
    | true =>
      simp only [go_sem, Nat.reduceEqDiff, reduceIte, Nat.reduceAdd, Nat.reduceLeDiff, Nat.reduceLT, Nat.reduceSub]
      rw [findIdx_at hk' hp fun j hj => hno j (by omega) hj]
    | false =>
      simp only [go_sem, Nat.reduceEqDiff, reduceIte, Nat.reduceAdd, Nat.reduceLeDiff, Nat.reduceLT, Nat.reduceSub]
      refine ⟨k + 1, ⟨hk', fun j hj hjk => ?_⟩, by omega, by simp [wrapS (show k < 9223372036854775807 by omega)]⟩
      rcases Nat.lt_or_ge j k with hlt | hge
      · exact hno j hj hlt
      · obtain rfl : j = k := by omega
        exact hp
  · have hke : k = l.length := by omega
    subst hke
    rw [idxF_none fun j hj => hno j hj hj]

theorem any159_spec (l : List (List Int)) (p : List Int → Bool) (c : Nat) (f : IFn) (ht : trFn seat c = some f) (cap : List AV) (hcap : ∀ x ∈ cap, Idb 0 x) (h : ∀ x ∈ l, Fun seat c ([octs x] ++ cap) (.bool (p x))) : Fun seat 159 [encOcts.row l, .func (.f c) [] cap] (.bool (l.any p)) := by
  refine Fun.of0 told159 (by simp [il159]) (by simpa [encOcts.idb_row] using hcap) (by simp ) 0 ?_
  rw [← idxF_ge]
  simp only [il159, List.zipIdx_cons, List.zipIdx_nil, Nat.zero_add, go_sem, Nat.reduceEqDiff, reduceIte, Nat.reduceAdd, Nat.reduceLeDiff, Nat.reduceLT, Nat.reduceSub]
  refine Callee.f told166 (idx166_spec l p c f ht cap hcap h) ?_
  simp only [go_sem, Nat.reduceEqDiff, reduceIte, Nat.reduceAdd, Nat.reduceLeDiff, Nat.reduceLT, Nat.reduceSub]
theorem any162_spec (l : List Int) (p : Int → Bool) (c : Nat) (f : IFn) (ht : trFn seat c = some f) (cap : List AV) (hcap : ∀ x ∈ cap, Idb 0 x) (h : ∀ x ∈ l, Fun seat c ([.int .i64 x] ++ cap) (.bool (p x))) : Fun seat 162 [encI64.row l, .func (.f c) [] cap] (.bool (l.any p)) := by
  refine Fun.of0 told162 (by simp [il162]) (by simpa [encI64.idb_row] using hcap) (by simp ) 0 ?_
  rw [← idxF_ge]
  simp only [il162, List.zipIdx_cons, List.zipIdx_nil, Nat.zero_add, go_sem, Nat.reduceEqDiff, reduceIte, Nat.reduceAdd, Nat.reduceLeDiff, Nat.reduceLT, Nat.reduceSub]
  refine Callee.f told167 (idx167_spec l p c f ht cap hcap h) ?_
  simp only [go_sem, Nat.reduceEqDiff, reduceIte, Nat.reduceAdd, Nat.reduceLeDiff, Nat.reduceLT, Nat.reduceSub]
end Go.Proofs.YtihhinbjhiankaaGreatDoor.Al

set_option linter.unusedSimpArgs false
set_option linter.unusedVariables false
namespace Go.Proofs.YtihhinbjhiankaaGreatDoor.Al
open Go
attribute [local go_sem] W_mv W_pick W_alloc W_box W_build W_bslice W_load W_store W_bin W_isnil W_un W_convI W_convS W_mkiface W_mkfunc W_slice W_faddr W_iaddr W_idxA W_extract W_len W_min W_max W_append W_appendZ W_clear W_invoke thenQ_normal thenQ_exit thenQ_goto thenQ_ret blockQ_normal blockQ_ret blockQ_goto blockQ_exit wpc_skip wpc_region wpc_draw wpc_seq wpc_cond wpc_block wpc_exit wpc_goto wpc_label wpc_ret wpc_loop wpc_range wpc_scope condW_true condW_false condW_dec condW_any W_nil W_call resW_some evalOp Opd.ev updo_envL updo_none setL_cons setL_nil envL_cons Option.map_some Option.bind_some evBin evInt List.map_cons List.map_nil Option.pure_def Option.bind_eq_bind W_grd' grdW_tt grdW_ff grdW_tf grdW_ft grdW_tup grdW_dt grdW_df lgrdW_tup L_mv L_load L_bin L_un L_faddr L_iaddr L_nil L_call lresW_some upd_envL evUn beq_dec bne_dec leaves_ret1 leaves_ret0 leaves_end0 rowLen_ints load_iptr0 not_dec heap_get0 heap_get1 heap_set0 heap_set1 heap_len1 heap_app bslice1_int seen_ints seen_one0 bslice0_int Nat.sub_zero Bool.not_true Bool.not_false List.length_nil List.length_cons List.nil_append List.cons_append Nat.zero_add load_iptrA canon_ptrI canon_bool canon_tup canon_agg canon_ints' canon_ints0 rowLen_ints1 rowLen_octs seen_octs canon_octs' seen_intss seen_octss rowLen_nodes seen_nodes canon_nodes' rowLen_nodes3 seen_list cells_int oneIn_int cells_bool oneIn_bool cells_str oneIn_str cells_list oneIn_list cells_func oneIn_func cells_nilfunc oneIn_nilfunc cells_iptr oneIn_iptr cells_iface oneIn_iface cells_nilIface oneIn_nilIface cells_own cells_ptr cells_anybool oneIn_anybool cells_agg oneIn_own0 oneIn_own1 seenL1 seenM1 oneIn_ptr2 seenL2 oneIn_own3 seenL3 cells_ints oneIn_ints cells_octs oneIn_octs cells_intss oneIn_intss cells_octss oneIn_octss cells_nodes oneIn_nodes ldB0 ldA0 adB0 stB0 ldB1 ldA1 adB1 stB1 ldB2 ldA2 adB2 stB2 ldB3 ldA3 adB3 stB3 ldB4 ldA4 adB4 stB4 ldB5 ldA5 adB5 stB5 List.getElem?_cons_zero List.getElem?_cons_succ beq_self_eq_true splice List.take_zero List.take_succ_cons List.drop_zero List.drop_succ_cons List.append_nil List.set_cons_zero List.set_cons_succ List.all_cons List.all_nil Bool.and_self and_self and_true true_and Nat.lt_irrefl Nat.zero_lt_one Nat.le_refl fillA evNil notA Bool.false_eq_true evMin_int evMax_int Option.map_none freezeP_all_nil freezeP_all_cons frzE_box frzE_arr frzE_dead foldA List.foldlM_cons List.foldlM_nil
attribute [local simp] envL_cons envL_nil idb_int idb_bool idb_ints idb_nil idb_own idb_ptr idb_octs idb_nodes idb_leafA idb_innerA idb_nodeA idb_agg idb_tup idb_iptr idb_fn entB_dead entB_box
/-- slices.Compact(slices.Sorted(slices.Values(l))). -/
theorem thin_spec (l : List Int) (hl : l.length ≤ 4294967295) : Fun seat 163 [ints l] (ints (rise l)) := by
  refine Fun.of0 told163 (by simp [il163]) (by simp ) (by simp ) 1 ?_
  simp only [il163, List.zipIdx_cons, List.zipIdx_nil, Nat.zero_add, go_sem, Nat.reduceEqDiff, reduceIte, Nat.reduceAdd, Nat.reduceLeDiff, Nat.reduceLT, Nat.reduceSub]
  refine Callee.f told26 (values_spec l) ?_
  simp only [go_sem, Nat.reduceEqDiff, reduceIte, Nat.reduceAdd, Nat.reduceLeDiff, Nat.reduceLT, Nat.reduceSub]
  refine Callee.own told25 (sortedSeq_spec l hl 42 il42 told42 [.iptr [ints l] 0] (by simp ) (valuesIter l (by omega))) ?_
  simp only [go_sem, Nat.reduceEqDiff, reduceIte, Nat.reduceAdd, Nat.reduceLeDiff, Nat.reduceLT, Nat.reduceSub, List.length_map]
  refine Callee.plain (Callable.of told24) (compact_spec' (sorted l) rfl) ?_
  rintro _ _ ⟨rfl, rfl⟩
  simp only [go_sem, Nat.reduceEqDiff, reduceIte, Nat.reduceAdd, Nat.reduceLeDiff, Nat.reduceLT, Nat.reduceSub]
  rw [← compact_sorted]

/-- leaf.Same. -/
theorem leafSame_spec (a b : Leaf) (ha : a.Ok) (hb : b.Ok) : Fun seat 142 [leafA a, leafA b] (.bool (decide (a = b))) := by
  refine Fun.of0 told142 (by simp [il142]) (by simp [idb_leafA]) (by simp ) 0 ?_
  simp only [il142, List.zipIdx_cons, List.zipIdx_nil, Nat.zero_add, leafA, Leaf.cells]
  have e : decide (a = b) = (decide (a.source = b.source) && decide (a.enc = b.enc) && decide (a.cred = b.cred) && decide (a.parent = b.parent)) := by
    cases a; cases b
    simp only [Leaf.mk.injEq]
    rw [Bool.eq_iff_iff]
    simp only [decide_eq_true_eq, Bool.and_eq_true]
    constructor
    · rintro ⟨h1, h2, h3, h4⟩; exact ⟨⟨⟨h3, h1⟩, h2⟩, h4⟩
    · rintro ⟨⟨⟨h3, h1⟩, h2⟩, h4⟩; exact ⟨h1, h2, h3, h4⟩
  rw [e]
  by_cases h1 : a.source = b.source
  · by_cases h2 : a.enc = b.enc
    · by_cases h3 : a.cred = b.cred
      · simp only [go_sem, Nat.reduceEqDiff, reduceIte, Nat.reduceAdd, Nat.reduceLeDiff, Nat.reduceLT, Nat.reduceSub, h1, decide_true]
        refine Callee.f told156 (bytesEq_spec a.enc b.enc ha.enc hb.enc) ?_
        simp only [go_sem, Nat.reduceEqDiff, reduceIte, Nat.reduceAdd, Nat.reduceLeDiff, Nat.reduceLT, Nat.reduceSub, h2, decide_true]
        refine Callee.f told156 (bytesEq_spec a.cred b.cred ha.cred hb.cred) ?_
        simp only [go_sem, Nat.reduceEqDiff, reduceIte, Nat.reduceAdd, Nat.reduceLeDiff, Nat.reduceLT, Nat.reduceSub, h3, decide_true]
        refine Callee.f told156 (bytesEq_spec a.parent b.parent ha.parent hb.parent) ?_
        simp only [go_sem, Nat.reduceEqDiff, reduceIte, Nat.reduceAdd, Nat.reduceLeDiff, Nat.reduceLT, Nat.reduceSub, Bool.true_and]
      · simp only [go_sem, Nat.reduceEqDiff, reduceIte, Nat.reduceAdd, Nat.reduceLeDiff, Nat.reduceLT, Nat.reduceSub, h1, decide_true]
        refine Callee.f told156 (bytesEq_spec a.enc b.enc ha.enc hb.enc) ?_
        simp only [go_sem, Nat.reduceEqDiff, reduceIte, Nat.reduceAdd, Nat.reduceLeDiff, Nat.reduceLT, Nat.reduceSub, h2, decide_true]
        refine Callee.f told156 (bytesEq_spec a.cred b.cred ha.cred hb.cred) ?_
        simp only [go_sem, Nat.reduceEqDiff, reduceIte, Nat.reduceAdd, Nat.reduceLeDiff, Nat.reduceLT, Nat.reduceSub, h3, decide_false, Bool.and_false, Bool.false_and]
    · simp only [go_sem, Nat.reduceEqDiff, reduceIte, Nat.reduceAdd, Nat.reduceLeDiff, Nat.reduceLT, Nat.reduceSub, h1, decide_true]
      refine Callee.f told156 (bytesEq_spec a.enc b.enc ha.enc hb.enc) ?_
      simp only [go_sem, Nat.reduceEqDiff, reduceIte, Nat.reduceAdd, Nat.reduceLeDiff, Nat.reduceLT, Nat.reduceSub, h2, decide_false, Bool.and_false, Bool.false_and]
  · simp only [go_sem, Nat.reduceEqDiff, reduceIte, Nat.reduceAdd, Nat.reduceLeDiff, Nat.reduceLT, Nat.reduceSub, h1, decide_false, Bool.false_and]

/-- inner.Same. -/
theorem innerSame_spec (a b : Inner) (ha : a.Ok) (hb : b.Ok) : Fun seat 143 [innerA a, innerA b] (.bool (decide (a = b))) := by
  refine Fun.of0 told143 (by simp [il143]) (by simp [idb_innerA]) (by simp ) 0 ?_
  simp only [il143, List.zipIdx_cons, List.zipIdx_nil, Nat.zero_add, innerA, Inner.cells]
  have e : decide (a = b) = (decide (a.enc = b.enc) && decide (a.hash = b.hash) && decide (a.unmerged = b.unmerged)) := by
    cases a; cases b
    simp only [Inner.mk.injEq]
    rw [Bool.eq_iff_iff]
    simp only [decide_eq_true_eq, Bool.and_eq_true, and_assoc]
  rw [e]
  simp only [go_sem, Nat.reduceEqDiff, reduceIte, Nat.reduceAdd, Nat.reduceLeDiff, Nat.reduceLT, Nat.reduceSub]
  refine Callee.f told156 (bytesEq_spec a.enc b.enc ha.enc hb.enc) ?_
  by_cases h2 : a.enc = b.enc
  · by_cases h3 : a.hash = b.hash
    · simp only [go_sem, Nat.reduceEqDiff, reduceIte, Nat.reduceAdd, Nat.reduceLeDiff, Nat.reduceLT, Nat.reduceSub, h2, decide_true]
      refine Callee.f told156 (bytesEq_spec a.hash b.hash ha.hash hb.hash) ?_
      simp only [go_sem, Nat.reduceEqDiff, reduceIte, Nat.reduceAdd, Nat.reduceLeDiff, Nat.reduceLT, Nat.reduceSub, h3, decide_true]
      refine Callee.f told157 (eqInts_spec a.unmerged b.unmerged) ?_
      simp only [go_sem, Nat.reduceEqDiff, reduceIte, Nat.reduceAdd, Nat.reduceLeDiff, Nat.reduceLT, Nat.reduceSub, Bool.true_and]
    · simp only [go_sem, Nat.reduceEqDiff, reduceIte, Nat.reduceAdd, Nat.reduceLeDiff, Nat.reduceLT, Nat.reduceSub, h2, decide_true]
      refine Callee.f told156 (bytesEq_spec a.hash b.hash ha.hash hb.hash) ?_
      simp only [go_sem, Nat.reduceEqDiff, reduceIte, Nat.reduceAdd, Nat.reduceLeDiff, Nat.reduceLT, Nat.reduceSub, h3, decide_false, Bool.and_false, Bool.false_and]
  · simp only [go_sem, Nat.reduceEqDiff, reduceIte, Nat.reduceAdd, Nat.reduceLeDiff, Nat.reduceLT, Nat.reduceSub, h2, decide_false, Bool.false_and]

end Go.Proofs.YtihhinbjhiankaaGreatDoor.Al

set_option linter.unusedSimpArgs false
set_option linter.unusedVariables false
namespace Go.Proofs.YtihhinbjhiankaaGreatDoor.Al
open Go
attribute [local go_sem] W_mv W_pick W_alloc W_box W_build W_bslice W_load W_store W_bin W_isnil W_un W_convI W_convS W_mkiface W_mkfunc W_slice W_faddr W_iaddr W_idxA W_extract W_len W_min W_max W_append W_appendZ W_clear W_invoke thenQ_normal thenQ_exit thenQ_goto thenQ_ret blockQ_normal blockQ_ret blockQ_goto blockQ_exit wpc_skip wpc_region wpc_draw wpc_seq wpc_cond wpc_block wpc_exit wpc_goto wpc_label wpc_ret wpc_loop wpc_range wpc_scope condW_true condW_false condW_dec condW_any W_nil W_call resW_some evalOp Opd.ev updo_envL updo_none setL_cons setL_nil envL_cons Option.map_some Option.bind_some evBin evInt List.map_cons List.map_nil Option.pure_def Option.bind_eq_bind W_grd' grdW_tt grdW_ff grdW_tf grdW_ft grdW_tup grdW_dt grdW_df lgrdW_tup L_mv L_load L_bin L_un L_faddr L_iaddr L_nil L_call lresW_some upd_envL evUn beq_dec bne_dec leaves_ret1 leaves_ret0 leaves_end0 rowLen_ints load_iptr0 not_dec heap_get0 heap_get1 heap_set0 heap_set1 heap_len1 heap_app bslice1_int seen_ints seen_one0 bslice0_int Nat.sub_zero Bool.not_true Bool.not_false List.length_nil List.length_cons List.nil_append List.cons_append Nat.zero_add load_iptrA canon_ptrI canon_bool canon_tup canon_agg canon_ints' canon_ints0 rowLen_ints1 rowLen_octs seen_octs canon_octs' seen_intss seen_octss rowLen_nodes seen_nodes canon_nodes' rowLen_nodes3 seen_list cells_int oneIn_int cells_bool oneIn_bool cells_str oneIn_str cells_list oneIn_list cells_func oneIn_func cells_nilfunc oneIn_nilfunc cells_iptr oneIn_iptr cells_iface oneIn_iface cells_nilIface oneIn_nilIface cells_own cells_ptr cells_anybool oneIn_anybool cells_agg oneIn_own0 oneIn_own1 seenL1 seenM1 oneIn_ptr2 seenL2 oneIn_own3 seenL3 cells_ints oneIn_ints cells_octs oneIn_octs cells_intss oneIn_intss cells_octss oneIn_octss cells_nodes oneIn_nodes ldB0 ldA0 adB0 stB0 ldB1 ldA1 adB1 stB1 ldB2 ldA2 adB2 stB2 ldB3 ldA3 adB3 stB3 ldB4 ldA4 adB4 stB4 ldB5 ldA5 adB5 stB5 List.getElem?_cons_zero List.getElem?_cons_succ beq_self_eq_true splice List.take_zero List.take_succ_cons List.drop_zero List.drop_succ_cons List.append_nil List.set_cons_zero List.set_cons_succ List.all_cons List.all_nil Bool.and_self and_self and_true true_and Nat.lt_irrefl Nat.zero_lt_one Nat.le_refl fillA evNil notA Bool.false_eq_true evMin_int evMax_int Option.map_none freezeP_all_nil freezeP_all_cons frzE_box frzE_arr frzE_dead foldA List.foldlM_cons List.foldlM_nil
attribute [local simp] envL_cons envL_nil idb_int idb_bool idb_ints idb_nil idb_own idb_ptr idb_octs idb_nodes idb_leafA idb_innerA idb_nodeA idb_agg idb_tup idb_iptr idb_fn entB_dead entB_box
/-- leaf.Check. -/
theorem leafCheck_spec (l : Leaf) : Fun seat 146 [leafA l] (.int .i64 (leafCheck l)) := by
  refine Fun.of0 told146 (by simp [il146]) (by simp [idb_leafA]) (by simp ) 0 ?_
  simp only [il146, List.zipIdx_cons, List.zipIdx_nil, Nat.zero_add, leafA, Leaf.cells, go_sem, Nat.reduceEqDiff, reduceIte, Nat.reduceAdd, Nat.reduceLeDiff, Nat.reduceLT, Nat.reduceSub]
  refine ⟨fun h => ?_, fun h => ?_⟩
  · have h0 : l.enc.length = 0 := by omega
    simp [leafCheck, h0]
  have h0 : ¬ l.enc.length = 0 := by omega
  have bs : evBslice [.box [octs l.enc, octs l.cred, .int .i64 l.source, octs l.parent]] 1 3 (.list true []) [(0, octs l.enc), (1, octs l.cred), (2, octs l.parent)] = some (.own 1 0 0 3, [.box [octs l.enc, octs l.cred, .int .i64 l.source, octs l.parent], .arr 1 0 [octs l.enc, octs l.cred, octs l.parent]]) := rfl
  simp only [go_sem, Nat.reduceEqDiff, reduceIte, Nat.reduceAdd, Nat.reduceLeDiff, Nat.reduceLT, Nat.reduceSub, bs]
  refine Callee.lend (r := .bool ([l.enc, l.cred, l.parent].any fun x => decide ((x.length : Int) > 200))) 1 told159 (any159_spec [l.enc, l.cred, l.parent] (fun x => decide ((x.length : Int) > 200)) 158 il158 told158 [] (by simp) fun x _ => big_spec x) (.bool _) ?_
  by_cases h1 : l.enc.length > 200 ∨ l.cred.length > 200 ∨ l.parent.length > 200
  · have e : ([l.enc, l.cred, l.parent].any fun x => decide ((x.length : Int) > 200)) = true := by simp; omega
    simp only [go_sem, Nat.reduceEqDiff, reduceIte, Nat.reduceAdd, Nat.reduceLeDiff, Nat.reduceLT, Nat.reduceSub, e]
    simp [leafCheck, h0, h1]
  have e : ([l.enc, l.cred, l.parent].any fun x => decide ((x.length : Int) > 200)) = false := by simp; omega
  simp only [go_sem, Nat.reduceEqDiff, reduceIte, Nat.reduceAdd, Nat.reduceLeDiff, Nat.reduceLT, Nat.reduceSub, e]
  refine Callee.f told160 (source_spec l.source) ?_
  by_cases h2 : l.source < 1 ∨ l.source > 3
  · have e2 : decide (l.source ≥ 1 ∧ l.source ≤ 3) = false := by simp; omega
    simp only [go_sem, Nat.reduceEqDiff, reduceIte, Nat.reduceAdd, Nat.reduceLeDiff, Nat.reduceLT, Nat.reduceSub, e2]
    simp [leafCheck, h0, h1, h2]
  have e2 : decide (l.source ≥ 1 ∧ l.source ≤ 3) = true := by simp; omega
  by_cases h3 : l.source = 3
  · simp only [go_sem, Nat.reduceEqDiff, reduceIte, Nat.reduceAdd, Nat.reduceLeDiff, Nat.reduceLT, Nat.reduceSub, e2, h3, decide_true, decide_false, ne_eq, not_true_eq_false, Bool.not_true]
    simp [leafCheck, h0, h1, h3]
  · simp only [go_sem, Nat.reduceEqDiff, reduceIte, Nat.reduceAdd, Nat.reduceLeDiff, Nat.reduceLT, Nat.reduceSub, e2, h3, decide_true, decide_false, ne_eq, not_true_eq_false, not_false_eq_true, Bool.not_true]
    refine ⟨fun h4 => ?_, fun h4 => ?_⟩
    · have h5 : l.parent.length > 0 := by omega
      rw [show leafCheck l = 2 from by rw [leafCheck, if_neg h0, if_neg h1, if_neg h2, if_pos ⟨h3, h5⟩]]
    · have h5 : l.parent.length = 0 := by omega
      rw [show leafCheck l = 0 from by rw [leafCheck, if_neg h0, if_neg h1, if_neg h2, if_neg (by omega)]]

/-- inner.Check. -/
theorem innerCheck_spec (l : Inner) : Fun seat 147 [innerA l] (.int .i64 (innerCheck l)) := by
  refine Fun.of0 told147 (by simp [il147]) (by simp [idb_innerA]) (by simp ) 0 ?_
  simp only [il147, List.zipIdx_cons, List.zipIdx_nil, Nat.zero_add, innerA, Inner.cells]
  by_cases h : (l.enc.length : Int) = 0
  · have h0 : l.enc.length = 0 := by omega
    simp only [go_sem, Nat.reduceEqDiff, reduceIte, Nat.reduceAdd, Nat.reduceLeDiff, Nat.reduceLT, Nat.reduceSub, h, decide_true]
    simp [innerCheck, h0]
  have h0 : ¬ l.enc.length = 0 := by omega
  by_cases hA : (l.enc.length : Int) > 200
  · have h1 : l.enc.length > 200 ∨ l.hash.length > 200 ∨ l.unmerged.length > 64 := by omega
    simp only [go_sem, Nat.reduceEqDiff, reduceIte, Nat.reduceAdd, Nat.reduceLeDiff, Nat.reduceLT, Nat.reduceSub, h, hA, decide_true, decide_false]
    rw [show innerCheck l = 4 from by rw [innerCheck, if_neg h0, if_pos h1]]
  by_cases hB : (l.hash.length : Int) > 200
  · have h1 : l.enc.length > 200 ∨ l.hash.length > 200 ∨ l.unmerged.length > 64 := by omega
    simp only [go_sem, Nat.reduceEqDiff, reduceIte, Nat.reduceAdd, Nat.reduceLeDiff, Nat.reduceLT, Nat.reduceSub, h, hA, hB, decide_true, decide_false]
    rw [show innerCheck l = 4 from by rw [innerCheck, if_neg h0, if_pos h1]]
  by_cases hC : (l.unmerged.length : Int) > 64
  · have h1 : l.enc.length > 200 ∨ l.hash.length > 200 ∨ l.unmerged.length > 64 := by omega
    simp only [go_sem, Nat.reduceEqDiff, reduceIte, Nat.reduceAdd, Nat.reduceLeDiff, Nat.reduceLT, Nat.reduceSub, h, hA, hB, hC, decide_true, decide_false]
    rw [show innerCheck l = 4 from by rw [innerCheck, if_neg h0, if_pos h1]]
  have h1 : ¬ (l.enc.length > 200 ∨ l.hash.length > 200 ∨ l.unmerged.length > 64) := by omega
  simp only [go_sem, Nat.reduceEqDiff, reduceIte, Nat.reduceAdd, Nat.reduceLeDiff, Nat.reduceLT, Nat.reduceSub, h, hA, hB, hC, decide_true, decide_false]
  refine Callee.f told162 (any162_spec l.unmerged (fun i => decide (i < 0 ∨ i > 63)) 161 il161 told161 [] (by simp) fun x _ => wide_spec x) ?_
  by_cases h2 : ∃ i ∈ l.unmerged, i < 0 ∨ i > 63
  · have e : (l.unmerged.any fun i => decide (i < 0 ∨ i > 63)) = true := by
      obtain ⟨i, hi, hw⟩ := h2
      exact List.any_eq_true.2 ⟨i, hi, by simpa using hw⟩
    simp only [go_sem, Nat.reduceEqDiff, reduceIte, Nat.reduceAdd, Nat.reduceLeDiff, Nat.reduceLT, Nat.reduceSub, e]
    rw [show innerCheck l = 3 from by rw [innerCheck, if_neg h0, if_neg h1, if_pos h2]]
  have e : (l.unmerged.any fun i => decide (i < 0 ∨ i > 63)) = false := by
    rw [Bool.eq_false_iff]
    intro h
    obtain ⟨i, hi, hw⟩ := List.any_eq_true.1 h
    exact h2 ⟨i, hi, by simpa using hw⟩
  simp only [go_sem, Nat.reduceEqDiff, reduceIte, Nat.reduceAdd, Nat.reduceLeDiff, Nat.reduceLT, Nat.reduceSub, e]
  refine WP.drawL mixed (by decide) ?_
  simp only [go_sem, Nat.reduceEqDiff, reduceIte, Nat.reduceAdd, Nat.reduceLeDiff, Nat.reduceLT, Nat.reduceSub]
  refine ⟨_, CallF.f told163 (thin_spec l.unmerged (by omega)), ?_⟩
  simp only [go_sem, Nat.reduceEqDiff, reduceIte, Nat.reduceAdd, Nat.reduceLeDiff, Nat.reduceLT, Nat.reduceSub]
  refine ⟨_, CallF.f told157 (eqInts_spec _ _), ?_⟩
  by_cases h3 : rise l.unmerged = l.unmerged
  · simp only [go_sem, Nat.reduceEqDiff, reduceIte, Nat.reduceAdd, Nat.reduceLeDiff, Nat.reduceLT, Nat.reduceSub, h3, decide_true, Bool.not_true]
    rw [show innerCheck l = 0 from by rw [innerCheck, if_neg h0, if_neg h1, if_neg h2, if_neg (not_not_intro h3)]]
  · simp only [go_sem, Nat.reduceEqDiff, reduceIte, Nat.reduceAdd, Nat.reduceLeDiff, Nat.reduceLT, Nat.reduceSub, h3, decide_false, Bool.not_false]
    rw [show innerCheck l = 8 from by rw [innerCheck, if_neg h0, if_neg h1, if_neg h2, if_pos h3]]

end Go.Proofs.YtihhinbjhiankaaGreatDoor.Al

set_option linter.unusedSimpArgs false
set_option linter.unusedVariables false
namespace Go.Proofs.YtihhinbjhiankaaGreatDoor.Al
open Go
attribute [local go_sem] W_mv W_pick W_alloc W_box W_build W_bslice W_load W_store W_bin W_isnil W_un W_convI W_convS W_mkiface W_mkfunc W_slice W_faddr W_iaddr W_idxA W_extract W_len W_min W_max W_append W_appendZ W_clear W_invoke thenQ_normal thenQ_exit thenQ_goto thenQ_ret blockQ_normal blockQ_ret blockQ_goto blockQ_exit wpc_skip wpc_region wpc_draw wpc_seq wpc_cond wpc_block wpc_exit wpc_goto wpc_label wpc_ret wpc_loop wpc_range wpc_scope condW_true condW_false condW_dec condW_any W_nil W_call resW_some evalOp Opd.ev updo_envL updo_none setL_cons setL_nil envL_cons Option.map_some Option.bind_some evBin evInt List.map_cons List.map_nil Option.pure_def Option.bind_eq_bind W_grd' grdW_tt grdW_ff grdW_tf grdW_ft grdW_tup grdW_dt grdW_df lgrdW_tup L_mv L_load L_bin L_un L_faddr L_iaddr L_nil L_call lresW_some upd_envL evUn beq_dec bne_dec leaves_ret1 leaves_ret0 leaves_end0 rowLen_ints load_iptr0 not_dec heap_get0 heap_get1 heap_set0 heap_set1 heap_len1 heap_app bslice1_int seen_ints seen_one0 bslice0_int Nat.sub_zero Bool.not_true Bool.not_false List.length_nil List.length_cons List.nil_append List.cons_append Nat.zero_add load_iptrA canon_ptrI canon_bool canon_tup canon_agg canon_ints' canon_ints0 rowLen_ints1 rowLen_octs seen_octs canon_octs' seen_intss seen_octss rowLen_nodes seen_nodes canon_nodes' rowLen_nodes3 seen_list cells_int oneIn_int cells_bool oneIn_bool cells_str oneIn_str cells_list oneIn_list cells_func oneIn_func cells_nilfunc oneIn_nilfunc cells_iptr oneIn_iptr cells_iface oneIn_iface cells_nilIface oneIn_nilIface cells_own cells_ptr cells_anybool oneIn_anybool cells_agg oneIn_own0 oneIn_own1 seenL1 seenM1 oneIn_ptr2 seenL2 oneIn_own3 seenL3 cells_ints oneIn_ints cells_octs oneIn_octs cells_intss oneIn_intss cells_octss oneIn_octss cells_nodes oneIn_nodes ldB0 ldA0 adB0 stB0 ldB1 ldA1 adB1 stB1 ldB2 ldA2 adB2 stB2 ldB3 ldA3 adB3 stB3 ldB4 ldA4 adB4 stB4 ldB5 ldA5 adB5 stB5 List.getElem?_cons_zero List.getElem?_cons_succ beq_self_eq_true splice List.take_zero List.take_succ_cons List.drop_zero List.drop_succ_cons List.append_nil List.set_cons_zero List.set_cons_succ List.all_cons List.all_nil Bool.and_self and_self and_true true_and Nat.lt_irrefl Nat.zero_lt_one Nat.le_refl fillA evNil notA Bool.false_eq_true evMin_int evMax_int Option.map_none freezeP_all_nil freezeP_all_cons frzE_box frzE_arr frzE_dead foldA List.foldlM_cons List.foldlM_nil callW_f lcallW_f ansW_fn ansW_own lansW_fn lansW_own ansW_none lansW_none tab_cons tab_nil dI_int dB_bool dO_octs dO_ints dO_list dO_nil dOs_nil dN_nodeA dLf_agg dIn_agg dN_agg dNs_nodes dNs_nil isI_int isB_bool isO_octs isO_nil isO_list isS_ints isS_nil isNs_nodes isNs_nil isN_nodeA isLf_agg isIn_agg isN_agg leaf_eta inner_eta node_eta leaf_zero inner_zero node_zero dP_agg isP_agg patch_eta decide_eq_true_eq decide_eq_false_iff_not eq_self forall_const true_implies false_implies Bool.not_eq_true' Bool.not_eq_false' Bool.true_eq_false implies_true ne_eq ldI ldIA adI AV.tup.injEq AV.agg.injEq List.cons.injEq AV.int.injEq AV.bool.injEq nodes_inj octs_inj ints_inj nil_nodes nil_octs nil_ints canon_nilL decide_eq_decide two_ne four_ne lendA_fn lendA_own lendA_none llendA_fn llendA_none false_and and_false Q_nil Q_l Q_g Q_h Q_grd qgrdW_b qgrdW_tup lightD_some heavyD_some readD_some fnD_some fnD_own fnD_none callL_f ownH_some litD_some litE_some Q_call Q_bslice H_call pendOk_nil pendOk_cons pastOk_nil pastOk_cons Q_mv Q_pick Q_bin Q_un Q_convI Q_mkfunc Q_extract Q_min Q_max Q_lenS Q_lenA Q_field Q_idxA Q_mkiface Q_tassert Q_alloc Q_box Q_store Q_mkslice Q_append Q_appendZ Q_copy Q_clear Q_build Q_load Q_nilck Q_isnil Q_convS Q_slice Q_faddr Q_iaddr Q_iaddrA Q_len H_alloc H_box H_bslice H_store H_mkslice H_append H_appendZ H_copy H_clear free_mv free_pick free_bin free_un free_convI free_mkfunc free_extract free_min free_max free_lenS free_lenA free_field free_idxA free_mkiface free_tassert free_build free_load free_nilck free_isnil free_convS free_slice free_faddr free_iaddr free_iaddrA free_len callW_y List.length_map List.length_set leaves_r evR_some evRess1 evRess2 evRess3 evRes_t evRes_c nz_kind nz_enc nz_cred nz_source nz_parent nz_ienc nz_hash nz_un true_or or_true bsl_node appI appO ixo_nodes canon_rowI canon_rowO not_false_eq_true not_true_eq_false ldE_a ldE_c adE_b stE_b onE_a onP_b bsl_zero
attribute [local go_sem low] condW_b grdW_b lgrdW_b ldP adP stP onO onPt
attribute [local simp] envL_cons envL_nil idb_int idb_bool idb_ints idb_nil idb_own idb_ptr idb_octs idb_nodes idb_leafA idb_innerA idb_nodeA idb_agg idb_tup idb_iptr idb_fn entB_dead entB_box
noncomputable def r142 : Reg seat := .of told142 (ask2 (fun a0' a1' => isLf a0' ∧ isLf a1' ∧ (dLf a0').Ok ∧ (dLf a1').Ok) fun a0' a1' => .fn (.bool (decide ((dLf a0') = (dLf a1'))))) (ask2_ok fun a0' a1' h => SaidOk.fn (Fun.weak (.cons (isLf.weak h.1) (.cons (isLf.weak h.2.1) .nil)) (leafSame_spec _ _ h.2.2.1 h.2.2.2)))
theorem r142_c : r142.c = 142 := rfl
open Classical in
theorem r142_ask (a0' a1' : AV) : r142.ask [a0', a1'] = if isLf a0' ∧ isLf a1' ∧ (dLf a0').Ok ∧ (dLf a1').Ok then some (Said.fn (.bool (decide ((dLf a0') = (dLf a1'))))) else none := by unfold r142 Reg.of ask2; exact ite_cl
noncomputable def r143 : Reg seat := .of told143 (ask2 (fun a0' a1' => isIn a0' ∧ isIn a1' ∧ (dIn a0').Ok ∧ (dIn a1').Ok) fun a0' a1' => .fn (.bool (decide ((dIn a0') = (dIn a1'))))) (ask2_ok fun a0' a1' h => SaidOk.fn (Fun.weak (.cons (isIn.weak h.1) (.cons (isIn.weak h.2.1) .nil)) (innerSame_spec _ _ h.2.2.1 h.2.2.2)))
theorem r143_c : r143.c = 143 := rfl
open Classical in
theorem r143_ask (a0' a1' : AV) : r143.ask [a0', a1'] = if isIn a0' ∧ isIn a1' ∧ (dIn a0').Ok ∧ (dIn a1').Ok then some (Said.fn (.bool (decide ((dIn a0') = (dIn a1'))))) else none := by unfold r143 Reg.of ask2; exact ite_cl
noncomputable def r146 : Reg seat := .of told146 (ask1 (fun a0' => isLf a0') fun a0' => .fn (.int .i64 (leafCheck (dLf a0')))) (ask1_ok fun a0' h => SaidOk.fn (Fun.weak (.cons (isLf.weak h) .nil) (leafCheck_spec _)))
theorem r146_c : r146.c = 146 := rfl
open Classical in
theorem r146_ask (a0' : AV) : r146.ask [a0'] = if isLf a0' then some (Said.fn (.int .i64 (leafCheck (dLf a0')))) else none := by unfold r146 Reg.of ask1; exact ite_cl
noncomputable def r147 : Reg seat := .of told147 (ask1 (fun a0' => isIn a0') fun a0' => .fn (.int .i64 (innerCheck (dIn a0')))) (ask1_ok fun a0' h => SaidOk.fn (Fun.weak (.cons (isIn.weak h) .nil) (innerCheck_spec _)))
theorem r147_c : r147.c = 147 := rfl
open Classical in
theorem r147_ask (a0' : AV) : r147.ask [a0'] = if isIn a0' then some (Said.fn (.int .i64 (innerCheck (dIn a0')))) else none := by unfold r147 Reg.of ask1; exact ite_cl

theorem nodeCheck_spec (n : Node) (hn : n.Ok) : Fun seat 124 [nodeA n] (.int .i64 (nodeCheck n)) := by
  refine Fun.of0R [r142, r143, r146, r147] told124 (by simp [il124]) (by simp [idb_nodeA]) (by simp ) 0 ?_
  have h1 := hn.leaf
  have h2 := hn.inner
  simp only [il124, List.zipIdx_cons, List.zipIdx_nil, nodeA, Node.cells, h1, h2, Leaf.Ok.zero, Inner.Ok.zero, r142_c, r142_ask, r143_c, r143_ask, r146_c, r146_ask, r147_c, r147_ask, go_sem, Nat.reduceEqDiff, reduceIte, Nat.reduceAdd, Nat.reduceLeDiff, Nat.reduceLT, Nat.reduceSub]
  repeat' (first | refine And.intro ?_ ?_ | intro _)
  all_goals grind [nodeCheck]
end Go.Proofs.YtihhinbjhiankaaGreatDoor.Al

set_option linter.unusedSimpArgs false
set_option linter.unusedVariables false
namespace Go.Proofs.YtihhinbjhiankaaGreatDoor.Al
open Go
attribute [local go_sem] W_mv W_pick W_alloc W_box W_build W_bslice W_load W_store W_bin W_isnil W_un W_convI W_convS W_mkiface W_mkfunc W_slice W_faddr W_iaddr W_idxA W_extract W_len W_min W_max W_append W_appendZ W_clear W_invoke thenQ_normal thenQ_exit thenQ_goto thenQ_ret blockQ_normal blockQ_ret blockQ_goto blockQ_exit wpc_skip wpc_region wpc_draw wpc_seq wpc_cond wpc_block wpc_exit wpc_goto wpc_label wpc_ret wpc_loop wpc_range wpc_scope condW_true condW_false condW_dec condW_any W_nil W_call resW_some evalOp Opd.ev updo_envL updo_none setL_cons setL_nil envL_cons Option.map_some Option.bind_some evBin evInt List.map_cons List.map_nil Option.pure_def Option.bind_eq_bind W_grd' grdW_tt grdW_ff grdW_tf grdW_ft grdW_tup grdW_dt grdW_df lgrdW_tup L_mv L_load L_bin L_un L_faddr L_iaddr L_nil L_call lresW_some upd_envL evUn beq_dec bne_dec leaves_ret1 leaves_ret0 leaves_end0 rowLen_ints load_iptr0 not_dec heap_get0 heap_get1 heap_set0 heap_set1 heap_len1 heap_app bslice1_int seen_ints seen_one0 bslice0_int Nat.sub_zero Bool.not_true Bool.not_false List.length_nil List.length_cons List.nil_append List.cons_append Nat.zero_add load_iptrA canon_ptrI canon_bool canon_tup canon_agg canon_ints' canon_ints0 rowLen_ints1 rowLen_octs seen_octs canon_octs' seen_intss seen_octss rowLen_nodes seen_nodes canon_nodes' rowLen_nodes3 seen_list cells_int oneIn_int cells_bool oneIn_bool cells_str oneIn_str cells_list oneIn_list cells_func oneIn_func cells_nilfunc oneIn_nilfunc cells_iptr oneIn_iptr cells_iface oneIn_iface cells_nilIface oneIn_nilIface cells_own cells_ptr cells_anybool oneIn_anybool cells_agg oneIn_own0 oneIn_own1 seenL1 seenM1 oneIn_ptr2 seenL2 oneIn_own3 seenL3 cells_ints oneIn_ints cells_octs oneIn_octs cells_intss oneIn_intss cells_octss oneIn_octss cells_nodes oneIn_nodes ldB0 ldA0 adB0 stB0 ldB1 ldA1 adB1 stB1 ldB2 ldA2 adB2 stB2 ldB3 ldA3 adB3 stB3 ldB4 ldA4 adB4 stB4 ldB5 ldA5 adB5 stB5 List.getElem?_cons_zero List.getElem?_cons_succ beq_self_eq_true splice List.take_zero List.take_succ_cons List.drop_zero List.drop_succ_cons List.append_nil List.set_cons_zero List.set_cons_succ List.all_cons List.all_nil Bool.and_self and_self and_true true_and Nat.lt_irrefl Nat.zero_lt_one Nat.le_refl fillA evNil notA Bool.false_eq_true evMin_int evMax_int Option.map_none freezeP_all_nil freezeP_all_cons frzE_box frzE_arr frzE_dead foldA List.foldlM_cons List.foldlM_nil callW_f lcallW_f ansW_fn ansW_own lansW_fn lansW_own ansW_none lansW_none tab_cons tab_nil dI_int dB_bool dO_octs dO_ints dO_list dO_nil dOs_nil dN_nodeA dLf_agg dIn_agg dN_agg dNs_nodes dNs_nil isI_int isB_bool isO_octs isO_nil isO_list isS_ints isS_nil isNs_nodes isNs_nil isN_nodeA isLf_agg isIn_agg isN_agg leaf_eta inner_eta node_eta leaf_zero inner_zero node_zero dP_agg isP_agg patch_eta decide_eq_true_eq decide_eq_false_iff_not eq_self forall_const true_implies false_implies Bool.not_eq_true' Bool.not_eq_false' Bool.true_eq_false implies_true ne_eq ldI ldIA adI AV.tup.injEq AV.agg.injEq List.cons.injEq AV.int.injEq AV.bool.injEq nodes_inj octs_inj ints_inj nil_nodes nil_octs nil_ints canon_nilL decide_eq_decide two_ne four_ne lendA_fn lendA_own lendA_none llendA_fn llendA_none false_and and_false Q_nil Q_l Q_g Q_h Q_grd qgrdW_b qgrdW_tup lightD_some heavyD_some readD_some fnD_some fnD_own fnD_none callL_f ownH_some litD_some litE_some Q_call Q_bslice H_call pendOk_nil pendOk_cons pastOk_nil pastOk_cons Q_mv Q_pick Q_bin Q_un Q_convI Q_mkfunc Q_extract Q_min Q_max Q_lenS Q_lenA Q_field Q_idxA Q_mkiface Q_tassert Q_alloc Q_box Q_store Q_mkslice Q_append Q_appendZ Q_copy Q_clear Q_build Q_load Q_nilck Q_isnil Q_convS Q_slice Q_faddr Q_iaddr Q_iaddrA Q_len H_alloc H_box H_bslice H_store H_mkslice H_append H_appendZ H_copy H_clear free_mv free_pick free_bin free_un free_convI free_mkfunc free_extract free_min free_max free_lenS free_lenA free_field free_idxA free_mkiface free_tassert free_build free_load free_nilck free_isnil free_convS free_slice free_faddr free_iaddr free_iaddrA free_len callW_y List.length_map List.length_set leaves_r evR_some evRess1 evRess2 evRess3 evRes_t evRes_c nz_kind nz_enc nz_cred nz_source nz_parent nz_ienc nz_hash nz_un true_or or_true bsl_node appI appO ixo_nodes canon_rowI canon_rowO not_false_eq_true not_true_eq_false ldE_a ldE_c adE_b stE_b onE_a onP_b bsl_zero
attribute [local go_sem low] condW_b grdW_b lgrdW_b ldP adP stP onO onPt
attribute [local simp] envL_cons envL_nil idb_int idb_bool idb_ints idb_nil idb_own idb_ptr idb_octs idb_nodes idb_leafA idb_innerA idb_nodeA idb_agg idb_tup idb_iptr idb_fn entB_dead entB_box
noncomputable def r124 : Reg seat := .of told124 (ask1 (fun a0' => isN a0' ∧ (dN a0').Ok) fun a0' => .fn (.int .i64 (nodeCheck (dN a0')))) (ask1_ok fun a0' h => SaidOk.fn (Fun.weak (.cons (isN.weak h.1) .nil) (nodeCheck_spec _ h.2)))
theorem r124_c : r124.c = 124 := rfl
open Classical in
theorem r124_ask (a0' : AV) : r124.ask [a0'] = if isN a0' ∧ (dN a0').Ok then some (Said.fn (.int .i64 (nodeCheck (dN a0')))) else none := by unfold r124 Reg.of ask1; exact ite_cl

/-- Two rows, place by place. -/
theorem ref02Ints_spec (a b : List Int) : Fun seat 35 [ints a, ints b] (.bool (decide (a = b))) := by
  refine Fun.bd fun hbd => ?_
  have hlb : a.length ≤ 9223372036854775807 := encI64.bd_len (t := false) hbd (by simp [ints, encI64])
  refine Fun.of0R [] told35 (by simp [il35]) (by simp [idb_patchA]) (by simp [idb_patchA]) 4 ?_
  simp only [il35, List.zipIdx_cons, List.zipIdx_nil, leafA, innerA, nodeA, patchA, Leaf.cells, Inner.cells, Node.cells, go_sem, Nat.reduceEqDiff, reduceIte, Nat.reduceAdd, Nat.reduceLeDiff, Nat.reduceLT, Nat.reduceSub]
  refine ⟨fun h => ?_, fun h => ?_⟩
  · grind
  have hl : a.length = b.length := by omega
  refine WP.loop0 (fun k => k ≤ a.length ∧ ∀ j (h : j < a.length) (h' : j < b.length), j < k → a[j] = b[j]) (fun k => [(0, ints a), (1, ints b), (5, .int .i64 k)]) (fun k => a.length - k) 0 ⟨Nat.zero_le _, fun j _ _ h => by omega⟩
    (fun k _ => by simp ) (by simp ) ?_
  rintro k ⟨hk, hno⟩
  refine wpc_soundR [] ?_
  simp only [leafA, innerA, nodeA, patchA, Leaf.cells, Inner.cells, Node.cells, go_sem, Nat.reduceEqDiff, reduceIte, Nat.reduceAdd, Nat.reduceLeDiff, Nat.reduceLT, Nat.reduceSub]
  refine ⟨fun hlt => ?_, fun hge => ?_⟩
  · have hk' : k < a.length := by omega
    refine WP.drawR [] mixed (by decide) ?_
    simp only [leafA, innerA, nodeA, patchA, Leaf.cells, Inner.cells, Node.cells, index_ints [] a k hk', index_ints [] b k (by omega), go_sem, Nat.reduceEqDiff, reduceIte, Nat.reduceAdd, Nat.reduceLeDiff, Nat.reduceLT, Nat.reduceSub]
    refine ⟨fun ht => ?_, fun ht => ⟨k + 1, ⟨hk', fun j h h' hj => ?_⟩, by omega, by simp [wrapS (show k < 9223372036854775807 by omega)]⟩⟩
    · grind
    · rcases Nat.lt_or_ge j k with h1 | h1
      · exact hno j h h' h1
      · obtain rfl : j = k := by omega
        exact Classical.not_not.1 ht
  · have : a = b := List.ext_getElem hl fun j h1 h2 => hno j h1 h2 (by omega)
    grind
noncomputable def r35 : Reg seat := .of told35 (ask2 (fun a0' a1' => isS a0' ∧ isS a1') fun a0' a1' => .fn (.bool (decide ((dO a0') = (dO a1'))))) (ask2_ok fun a0' a1' h => SaidOk.fn (Fun.weak (.cons (isS.weak h.1) (.cons (isS.weak h.2) .nil)) (ref02Ints_spec _ _)))
theorem r35_c : r35.c = 35 := rfl
open Classical in
theorem r35_ask (a0' a1' : AV) : r35.ask [a0', a1'] = if isS a0' ∧ isS a1' then some (Said.fn (.bool (decide ((dO a0') = (dO a1'))))) else none := by unfold r35 Reg.of ask2; exact ite_cl

theorem bytes_eq (a b : List Int) (ha : Oct a) (hb : Oct b) : (bytesOf a = bytesOf b) = (a = b) := propext ⟨bytesOf_inj ha hb, fun h => by rw [h]⟩

theorem refLeafSame_spec (a b : Leaf) (ha : a.Ok) (hb : b.Ok) : Fun seat 149 [leafA a, leafA b] (.bool (decide (a = b))) := by
  refine Fun.of0R [] told149 (by simp [il149]) (by simp [idb_patchA]) (by simp [idb_patchA]) 4 ?_
  simp only [il149, List.zipIdx_cons, List.zipIdx_nil, leafA, innerA, nodeA, patchA, Leaf.cells, Inner.cells, Node.cells, bytes_octs, evStr_eql, bytes_eq _ _ ha.enc hb.enc, bytes_eq _ _ ha.cred hb.cred, bytes_eq _ _ ha.parent hb.parent, go_sem, Nat.reduceEqDiff, reduceIte, Nat.reduceAdd, Nat.reduceLeDiff, Nat.reduceLT, Nat.reduceSub]
  rcases a with ⟨a1, a2, a3, a4⟩
  rcases b with ⟨b1, b2, b3, b4⟩
  simp only [Leaf.mk.injEq]
  iterate 12 ((all_goals intros); (all_goals try refine And.intro ?_ ?_))
  all_goals first | (show WP _ _ _ _ _ _ _) | grind
noncomputable def r149 : Reg seat := .of told149 (ask2 (fun a0' a1' => isLf a0' ∧ isLf a1' ∧ (dLf a0').Ok ∧ (dLf a1').Ok) fun a0' a1' => .fn (.bool (decide ((dLf a0') = (dLf a1'))))) (ask2_ok fun a0' a1' h => SaidOk.fn (Fun.weak (.cons (isLf.weak h.1) (.cons (isLf.weak h.2.1) .nil)) (refLeafSame_spec _ _ h.2.2.1 h.2.2.2)))
theorem r149_c : r149.c = 149 := rfl
open Classical in
theorem r149_ask (a0' a1' : AV) : r149.ask [a0', a1'] = if isLf a0' ∧ isLf a1' ∧ (dLf a0').Ok ∧ (dLf a1').Ok then some (Said.fn (.bool (decide ((dLf a0') = (dLf a1'))))) else none := by unfold r149 Reg.of ask2; exact ite_cl

theorem refInnerSame_spec (a b : Inner) (ha : a.Ok) (hb : b.Ok) : Fun seat 150 [innerA a, innerA b] (.bool (decide (a = b))) := by
  refine Fun.of0R [r35] told150 (by simp [il150]) (by simp [idb_patchA]) (by simp [idb_patchA]) 4 ?_
  simp only [il150, List.zipIdx_cons, List.zipIdx_nil, leafA, innerA, nodeA, patchA, Leaf.cells, Inner.cells, Node.cells, r35_c, r35_ask, bytes_octs, evStr_eql, bytes_eq _ _ ha.enc hb.enc, bytes_eq _ _ ha.hash hb.hash, go_sem, Nat.reduceEqDiff, reduceIte, Nat.reduceAdd, Nat.reduceLeDiff, Nat.reduceLT, Nat.reduceSub]
  rcases a with ⟨a1, a2, a3⟩
  rcases b with ⟨b1, b2, b3⟩
  simp only [Inner.mk.injEq]
  iterate 12 ((all_goals intros); (all_goals try refine And.intro ?_ ?_))
  all_goals first | (show WP _ _ _ _ _ _ _) | grind
noncomputable def r150 : Reg seat := .of told150 (ask2 (fun a0' a1' => isIn a0' ∧ isIn a1' ∧ (dIn a0').Ok ∧ (dIn a1').Ok) fun a0' a1' => .fn (.bool (decide ((dIn a0') = (dIn a1'))))) (ask2_ok fun a0' a1' h => SaidOk.fn (Fun.weak (.cons (isIn.weak h.1) (.cons (isIn.weak h.2.1) .nil)) (refInnerSame_spec _ _ h.2.2.1 h.2.2.2)))
theorem r150_c : r150.c = 150 := rfl
open Classical in
theorem r150_ask (a0' a1' : AV) : r150.ask [a0', a1'] = if isIn a0' ∧ isIn a1' ∧ (dIn a0').Ok ∧ (dIn a1').Ok then some (Said.fn (.bool (decide ((dIn a0') = (dIn a1'))))) else none := by unfold r150 Reg.of ask2; exact ite_cl

theorem node_ext (a b : Node) : (a = b) = (a.kind = b.kind ∧ a.leaf = b.leaf ∧ a.inner = b.inner) := by
  cases a; cases b; simp only [Node.mk.injEq]

theorem refNodeSame_spec (a b : Node) (ha : a.Ok) (hb : b.Ok) : Fun seat 130 [nodeA a, nodeA b] (.bool (decide (a = b))) := by
  refine Fun.of0R [r149, r150] told130 (by simp [il130]) (by simp [idb_patchA]) (by simp [idb_patchA]) 4 ?_
  simp only [il130, List.zipIdx_cons, List.zipIdx_nil, leafA, innerA, nodeA, patchA, Leaf.cells, Inner.cells, Node.cells, r149_c, r149_ask, r150_c, r150_ask, ha.leaf, hb.leaf, ha.inner, hb.inner, go_sem, Nat.reduceEqDiff, reduceIte, Nat.reduceAdd, Nat.reduceLeDiff, Nat.reduceLT, Nat.reduceSub]
  simp only [node_ext]
  iterate 12 ((all_goals intros); (all_goals try refine And.intro ?_ ?_))
  all_goals first | (show WP _ _ _ _ _ _ _) | grind
noncomputable def r130 : Reg seat := .of told130 (ask2 (fun a0' a1' => isN a0' ∧ isN a1' ∧ (dN a0').Ok ∧ (dN a1').Ok) fun a0' a1' => .fn (.bool (decide ((dN a0') = (dN a1'))))) (ask2_ok fun a0' a1' h => SaidOk.fn (Fun.weak (.cons (isN.weak h.1) (.cons (isN.weak h.2.1) .nil)) (refNodeSame_spec _ _ h.2.2.1 h.2.2.2)))
theorem r130_c : r130.c = 130 := rfl
open Classical in
theorem r130_ask (a0' a1' : AV) : r130.ask [a0', a1'] = if isN a0' ∧ isN a1' ∧ (dN a0').Ok ∧ (dN a1').Ok then some (Said.fn (.bool (decide ((dN a0') = (dN a1'))))) else none := by unfold r130 Reg.of ask2; exact ite_cl

theorem leafFew_spec (l : Leaf) (hl : l.Ok) : Fun seat 144 [leafA l] (.bool (decide (l.enc.length + l.cred.length + l.parent.length ≤ 1000))) := by
  have h1 := hl.enc.len
  have h2 := hl.cred.len
  have h3 := hl.parent.len
  refine Fun.of0R [] told144 (by simp [il144]) (by simp [idb_patchA]) (by simp [idb_patchA]) 4 ?_
  simp only [il144, List.zipIdx_cons, List.zipIdx_nil, leafA, innerA, nodeA, patchA, Leaf.cells, Inner.cells, Node.cells, wrap64s ((l.enc.length : Int) + l.cred.length) (by omega), wrap64s ((l.enc.length : Int) + l.cred.length + l.parent.length) (by omega), go_sem, Nat.reduceEqDiff, reduceIte, Nat.reduceAdd, Nat.reduceLeDiff, Nat.reduceLT, Nat.reduceSub]
  omega
noncomputable def r144 : Reg seat := .of told144 (ask1 (fun a0' => isLf a0' ∧ (dLf a0').Ok) fun a0' => .fn (.bool (decide ((dLf a0').enc.length + (dLf a0').cred.length + (dLf a0').parent.length ≤ 1000)))) (ask1_ok fun a0' h => SaidOk.fn (Fun.weak (.cons (isLf.weak h.1) .nil) (leafFew_spec _ h.2)))
theorem r144_c : r144.c = 144 := rfl
open Classical in
theorem r144_ask (a0' : AV) : r144.ask [a0'] = if isLf a0' ∧ (dLf a0').Ok then some (Said.fn (.bool (decide ((dLf a0').enc.length + (dLf a0').cred.length + (dLf a0').parent.length ≤ 1000)))) else none := by unfold r144 Reg.of ask1; exact ite_cl

theorem innerFew_spec (l : Inner) (hl : l.Ok) : Fun seat 145 [innerA l] (.bool (decide (l.enc.length + l.hash.length + l.unmerged.length ≤ 600))) := by
  have h1 := hl.enc.len
  have h2 := hl.hash.len
  have h3 := hl.unmerged.len
  refine Fun.of0R [] told145 (by simp [il145]) (by simp [idb_patchA]) (by simp [idb_patchA]) 4 ?_
  simp only [il145, List.zipIdx_cons, List.zipIdx_nil, leafA, innerA, nodeA, patchA, Leaf.cells, Inner.cells, Node.cells, wrap64s ((l.enc.length : Int) + l.hash.length) (by omega), wrap64s ((l.enc.length : Int) + l.hash.length + l.unmerged.length) (by omega), go_sem, Nat.reduceEqDiff, reduceIte, Nat.reduceAdd, Nat.reduceLeDiff, Nat.reduceLT, Nat.reduceSub]
  omega
noncomputable def r145 : Reg seat := .of told145 (ask1 (fun a0' => isIn a0' ∧ (dIn a0').Ok) fun a0' => .fn (.bool (decide ((dIn a0').enc.length + (dIn a0').hash.length + (dIn a0').unmerged.length ≤ 600)))) (ask1_ok fun a0' h => SaidOk.fn (Fun.weak (.cons (isIn.weak h.1) .nil) (innerFew_spec _ h.2)))
theorem r145_c : r145.c = 145 := rfl
open Classical in
theorem r145_ask (a0' : AV) : r145.ask [a0'] = if isIn a0' ∧ (dIn a0').Ok then some (Said.fn (.bool (decide ((dIn a0').enc.length + (dIn a0').hash.length + (dIn a0').unmerged.length ≤ 600)))) else none := by unfold r145 Reg.of ask1; exact ite_cl

/-- Has a node few octets, and numbers? -/
def nodeFew (n : Node) : Prop := n.leaf.enc.length + n.leaf.cred.length + n.leaf.parent.length ≤ 1000 ∧ n.inner.enc.length + n.inner.hash.length + n.inner.unmerged.length ≤ 600
instance (n : Node) : Decidable (nodeFew n) := inferInstanceAs (Decidable (_ ∧ _))
theorem nodeFew_spec (n : Node) (hn : n.Ok) : Fun seat 122 [nodeA n] (.bool (decide (nodeFew n))) := by
  refine Fun.of0R [r144, r145] told122 (by simp [il122]) (by simp [idb_patchA]) (by simp [idb_patchA]) 4 ?_
  simp only [il122, List.zipIdx_cons, List.zipIdx_nil, leafA, innerA, nodeA, patchA, Leaf.cells, Inner.cells, Node.cells, r144_c, r144_ask, r145_c, r145_ask, hn.leaf, hn.inner, go_sem, Nat.reduceEqDiff, reduceIte, Nat.reduceAdd, Nat.reduceLeDiff, Nat.reduceLT, Nat.reduceSub]
  iterate 12 ((all_goals intros); (all_goals try refine And.intro ?_ ?_))
  all_goals first | (show WP _ _ _ _ _ _ _) | grind [nodeFew]
noncomputable def r122 : Reg seat := .of told122 (ask1 (fun a0' => isN a0' ∧ (dN a0').Ok) fun a0' => .fn (.bool (decide (nodeFew (dN a0'))))) (ask1_ok fun a0' h => SaidOk.fn (Fun.weak (.cons (isN.weak h.1) .nil) (nodeFew_spec _ h.2)))
theorem r122_c : r122.c = 122 := rfl
open Classical in
theorem r122_ask (a0' : AV) : r122.ask [a0'] = if isN a0' ∧ (dN a0').Ok then some (Said.fn (.bool (decide (nodeFew (dN a0'))))) else none := by unfold r122 Reg.of ask1; exact ite_cl

end Go.Proofs.YtihhinbjhiankaaGreatDoor.Al

set_option linter.unusedSimpArgs false
set_option linter.unusedVariables false
namespace Go.Proofs.YtihhinbjhiankaaGreatDoor.Al

/-- How many octets a length has. -/
def vsize (n : Int) : Int := if n < 0 ∨ n > 1073741823 then 0 else if n < 64 then 1 else if n < 16384 then 2 else 4
def vput (n : Int) : List Int := if n < 0 ∨ n > 1073741823 then [] else if n < 64 then [n] else if n < 16384 then [64 + n / 256, n % 256] else [128 + n / 16777216, n / 65536 % 256, n / 256 % 256, n % 256]
def num (l : List Int) : Int := l.foldl (fun n x => n * 256 + x) 0
def vk (x : Int) : Nat := if x < 64 then 1 else if x < 128 then 2 else if x < 192 then 4 else 0
def vget : List Int → Int × List Int × Int
  | [] => (0, [], 1)
  | x :: b => if vk x = 0 then (0, [], 2) else if b.length + 1 < vk x then (0, [], 1) else
    if vsize (num (x % 64 :: b.take (vk x - 1))) ≠ vk x then (0, [], 2) else (num (x % 64 :: b.take (vk x - 1)), b.drop (vk x - 1), 0)

theorem vget_put {n : Int} (h0 : 0 ≤ n) (h : n ≤ 1073741823) (t : List Int) : vget (vput n ++ t) = (n, t, 0) := by
  unfold vput
  rw [if_neg (by omega)]
  by_cases h1 : n < 64
  · rw [if_pos h1]
    have e : n % 64 = n := by omega
    simp [vget, vk, h1, num, e, vsize, show ¬ (n < 0 ∨ 1073741823 < n) by omega]
  · rw [if_neg h1]
    by_cases h2 : n < 16384
    · rw [if_pos h2]
      have k : vk (64 + n / 256) = 2 := by unfold vk; rw [if_neg (by omega), if_pos (by omega)]
      have e : (64 + n / 256) % 64 * 256 + n % 256 = n := by omega
      have s : vsize n = 2 := by unfold vsize; rw [if_neg (by omega), if_neg h1, if_pos h2]
      have u : num ((64 + n / 256) % 64 :: [n % 256]) = n := by rw [← e]; simp only [num, List.foldl_cons, List.foldl_nil]; omega
      simp only [vget, List.cons_append, List.nil_append, k]
      rw [if_neg (by decide), if_neg (by simp only [List.length_cons]; omega)]
      simp only [Nat.reduceSub, List.take_succ_cons, List.take_zero, List.drop_succ_cons, List.drop_zero, u, s]
      rfl
    · rw [if_neg h2]
      have k : vk (128 + n / 16777216) = 4 := by unfold vk; rw [if_neg (by omega), if_neg (by omega), if_pos (by omega)]
      have e : (((128 + n / 16777216) % 64 * 256 + n / 65536 % 256) * 256 + n / 256 % 256) * 256 + n % 256 = n := by omega
      have s : vsize n = 4 := by unfold vsize; rw [if_neg (by omega), if_neg h1, if_neg h2]
      have u : num ((128 + n / 16777216) % 64 :: [n / 65536 % 256, n / 256 % 256, n % 256]) = n := by simp only [num, List.foldl_cons, List.foldl_nil]; omega
      simp only [vget, List.cons_append, List.nil_append, k]
      rw [if_neg (by decide), if_neg (by simp only [List.length_cons]; omega)]
      simp only [Nat.reduceSub, List.take_succ_cons, List.take_zero, List.drop_succ_cons, List.drop_zero, u, s]
      rfl
theorem vput_len {n : Int} (h0 : 0 ≤ n) (h : n ≤ 1073741823) : (vput n).length = (vsize n).toNat := by
  have hc : ¬ (n < 0 ∨ n > 1073741823) := by omega
  simp only [vput, vsize, hc, if_false]
  split
  · rfl
  · split <;> rfl
theorem vget_cut {n : Int} (h0 : 0 ≤ n) (h : n ≤ 1073741823) {c : Nat} (hc : c < (vput n).length) : vget ((vput n).take c) = (0, [], 1) := by
  unfold vput at *
  rw [if_neg (by omega)] at *
  by_cases h1 : n < 64
  · rw [if_pos h1] at *
    have : c = 0 := by simp at hc; omega
    subst this; rfl
  · rw [if_neg h1] at *
    by_cases h2 : n < 16384
    · rw [if_pos h2] at *
      have k : vk (64 + n / 256) = 2 := by unfold vk; rw [if_neg (by omega), if_pos (by omega)]
      simp only [List.length_cons, List.length_nil] at hc
      match c, hc with
      | 0, _ => rfl
      | 1, _ => simp [vget, k]
    · rw [if_neg h2] at *
      have k : vk (128 + n / 16777216) = 4 := by unfold vk; rw [if_neg (by omega), if_neg (by omega), if_pos (by omega)]
      simp only [List.length_cons, List.length_nil] at hc
      match c, hc with
      | 0, _ => rfl
      | 1, _ => simp [vget, k]
      | 2, _ => simp [vget, k]
      | 3, _ => simp [vget, k]
/-- Octets: each from 0 to 255. -/
def Bytes (b : List Int) : Prop := ∀ x ∈ b, 0 ≤ x ∧ x ≤ 255
theorem Bytes.app {a b : List Int} : Bytes (a ++ b) ↔ Bytes a ∧ Bytes b := by
  simp only [Bytes, List.mem_append]
  exact ⟨fun h => ⟨fun x hx => h x (.inl hx), fun x hx => h x (.inr hx)⟩, fun h x hx => hx.elim (h.1 x) (h.2 x)⟩
theorem vget_only {b : List Int} (hb : Bytes b) {n : Int} {r : List Int} (h : vget b = (n, r, 0)) : 0 ≤ n ∧ n ≤ 1073741823 ∧ vput n ++ r = b := by
  cases b with
  | nil => simp [vget] at h
  | cons x b =>
    have hx := hb x (by simp)
    have hb' : Bytes b := fun y hy => hb y (by simp [hy])
    by_cases h1 : x < 64
    · have k : vk x = 1 := by unfold vk; rw [if_pos h1]
      simp only [vget, k] at h
      simp [num, show x % 64 = x by omega, vsize, h1, show ¬ (x < 0 ∨ 1073741823 < x) by omega] at h
      obtain ⟨rfl, rfl⟩ := h
      exact ⟨hx.1, by omega, by unfold vput; rw [if_neg (by omega), if_pos h1]; rfl⟩
    · by_cases h2 : x < 128
      · have k : vk x = 2 := by unfold vk; rw [if_neg h1, if_pos h2]
        match b, hb', h with
        | [], _, h => simp [vget, k] at h
        | y :: r', hb', h =>
          have hy := hb' y (by simp)
          simp only [vget, k, Nat.reduceSub, List.take_succ_cons, List.take_zero, List.drop_succ_cons, List.drop_zero, num, List.foldl_cons, List.foldl_nil] at h
          rw [if_neg (by decide), if_neg (by simp)] at h
          by_cases hs : vsize ((0 * 256 + x % 64) * 256 + y) ≠ ((2 : Nat) : Int)
          · rw [if_pos hs] at h; simp at h
          · rw [if_neg hs] at h
            have hs := Classical.not_not.1 hs
            simp only [Prod.mk.injEq, and_true] at h
            obtain ⟨rfl, rfl⟩ := h
            have h3 : ¬ ((0 * 256 + x % 64) * 256 + y < 64) := fun h4 => by
              unfold vsize at hs; rw [if_neg (by omega), if_pos h4] at hs; omega
            refine ⟨by omega, by omega, ?_⟩
            unfold vput
            rw [if_neg (by omega), if_neg h3, if_pos (by omega)]
            simp only [List.cons_append, List.nil_append, List.cons.injEq, and_true]
            omega
      · by_cases h3 : x < 192
        · have k : vk x = 4 := by unfold vk; rw [if_neg h1, if_neg h2, if_pos h3]
          match b, hb', h with
          | [], _, h => simp [vget, k] at h
          | [_], _, h => simp [vget, k] at h
          | [_, _], _, h => simp [vget, k] at h
          | y :: z :: w :: r', hb', h =>
            have hy := hb' y (by simp)
            have hz := hb' z (by simp)
            have hw := hb' w (by simp)
            simp only [vget, k, Nat.reduceSub, List.take_succ_cons, List.take_zero, List.drop_succ_cons, List.drop_zero, num, List.foldl_cons, List.foldl_nil] at h
            rw [if_neg (by decide), if_neg (by simp only [List.length_cons]; omega)] at h
            by_cases hs : vsize ((((0 * 256 + x % 64) * 256 + y) * 256 + z) * 256 + w) ≠ ((4 : Nat) : Int)
            · rw [if_pos hs] at h; simp at h
            · rw [if_neg hs] at h
              have hs := Classical.not_not.1 hs
              simp only [Prod.mk.injEq, and_true] at h
              obtain ⟨rfl, rfl⟩ := h
              have h4 : ¬ ((((0 * 256 + x % 64) * 256 + y) * 256 + z) * 256 + w < 64) := fun h4 => by
                unfold vsize at hs; rw [if_neg (by omega), if_pos h4] at hs; omega
              have h5 : ¬ ((((0 * 256 + x % 64) * 256 + y) * 256 + z) * 256 + w < 16384) := fun h5 => by
                unfold vsize at hs; rw [if_neg (by omega), if_neg h4, if_pos h5] at hs; omega
              refine ⟨by omega, by omega, ?_⟩
              unfold vput
              rw [if_neg (by omega), if_neg h4, if_neg h5]
              simp only [List.cons_append, List.nil_append, List.cons.injEq, and_true]
              omega
        · have k : vk x = 0 := by unfold vk; rw [if_neg h1, if_neg h2, if_neg h3]
          simp [vget, k] at h
theorem vget_nat {b : List Int} (hb : Bytes b) : 0 ≤ (vget b).1 := by
  obtain ⟨n, r, e⟩ : ∃ x, x = vget b := ⟨_, rfl⟩
  rcases hv : vget b with ⟨n, r, e⟩
  by_cases h : e = 0
  · subst h; exact (vget_only hb hv).1
  · cases b with
    | nil => simp [vget] at hv; omega
    | cons x b =>
      simp only [vget] at hv
      split at hv
      · simp at hv; simp only; omega
      · split at hv
        · simp at hv; simp only; omega
        · split at hv
          · simp at hv; simp only; omega
          · simp at hv; omega

/-! Octets, and how many they are ahead of them -/
def pbytes (b v : List Int) : List Int := if (v.length : Int) > 1048576 then b else b ++ vput v.length ++ v
def gbytes (b : List Int) : List Int × List Int × Int :=
  if (vget b).2.2 ≠ 0 then ([], [], (vget b).2.2) else if (vget b).1 > 1048576 then ([], [], 4) else if (vget b).1 > ((vget b).2.1.length : Int) then ([], [], 1) else ((vget b).2.1.take (vget b).1.toNat, (vget b).2.1.drop (vget b).1.toNat, 0)
theorem gbytes_put {v : List Int} (h : v.length ≤ 1048576) (t : List Int) : gbytes (vput v.length ++ v ++ t) = (v, t, 0) := by
  have e := vget_put (n := (v.length : Int)) (by omega) (by omega) (v ++ t)
  rw [List.append_assoc]
  unfold gbytes
  rw [e, if_neg (by simp), if_neg (by simp; omega), if_neg (by simp; omega)]
  simp
theorem gbytes_only {b v r : List Int} (hb : Bytes b) (h : gbytes b = (v, r, 0)) : v.length ≤ 1048576 ∧ vput v.length ++ v ++ r = b := by
  unfold gbytes at h
  rcases hv : vget b with ⟨n, s, e⟩
  rw [hv] at h
  simp only at h
  by_cases he : e = 0
  · subst he
    obtain ⟨h0, h1, h2⟩ := vget_only hb hv
    rw [if_neg (by simp)] at h
    by_cases hn : n > 1048576
    · rw [if_pos hn] at h; simp at h
    · rw [if_neg hn] at h
      by_cases hs : n > (s.length : Int)
      · rw [if_pos hs] at h; simp at h
      · rw [if_neg hs] at h
        simp at h
        obtain ⟨rfl, rfl⟩ := h
        have hl : ((s.take n.toNat).length : Int) = n := by rw [List.length_take]; omega
        refine ⟨by omega, ?_⟩
        rw [hl, List.append_assoc, List.take_append_drop]; exact h2
  · rw [if_pos he] at h
    simp at h; exact absurd h.2.2 he
theorem gbytes_cut {v : List Int} (h : v.length ≤ 1048576) {c : Nat} (hc : c < (vput v.length ++ v).length) : gbytes ((vput v.length ++ v).take c) = ([], [], 1) := by
  have hl : (0 : Int) ≤ v.length := by omega
  by_cases h1 : c < (vput (v.length : Int)).length
  · have e := vget_cut hl (by omega) h1
    unfold gbytes
    rw [List.take_append_of_le_length (by omega), e]
    simp
  · rw [List.length_append] at hc
    have e := vget_put (n := (v.length : Int)) hl (by omega) (v.take (c - (vput (v.length : Int)).length))
    rw [List.take_append, List.take_of_length_le (by omega)]
    unfold gbytes
    rw [e, if_neg (by simp), if_neg (by simp; omega), if_pos (by simp; omega)]
theorem gbytes_rest {b v r : List Int} (hb : Bytes b) (h : gbytes b = (v, r, 0)) : Bytes v ∧ Bytes r := by
  have e := (gbytes_only hb h).2
  rw [← e, Bytes.app, Bytes.app] at hb
  exact ⟨hb.1.2, hb.2⟩
theorem pbytes_eq {b v : List Int} (h : v.length ≤ 1048576) : pbytes b v = b ++ (vput v.length ++ v) := by
  unfold pbytes; rw [if_neg (by omega), List.append_assoc]

/-! Numbers of four octets -/
def be4 (n : Int) : List Int := [n / 16777216 % 256, n / 65536 % 256, n / 256 % 256, n % 256]
def num4 : List Int → List Int
  | a :: b :: c :: d :: r => num [a, b, c, d] :: num4 r
  | _ => []
def pnums (b l : List Int) : List Int := pbytes b (l.flatMap be4)
def gnums (b : List Int) : List Int × List Int × Int :=
  if (gbytes b).2.2 ≠ 0 then ([], [], (gbytes b).2.2) else if (gbytes b).1.length % 4 ≠ 0 then ([], [], 2) else (num4 (gbytes b).1, (gbytes b).2.1, 0)
theorem be4_len (l : List Int) : (l.flatMap be4).length = 4 * l.length := by
  induction l with
  | nil => rfl
  | cons x l ih => rw [List.flatMap_cons, List.length_append, ih]; simp [be4]; omega
theorem be4_num4 : ∀ {v : List Int}, Bytes v → v.length % 4 = 0 → (num4 v).flatMap be4 = v
  | [], _, _ => rfl
  | [_], _, h => by simp at h
  | [_, _], _, h => by simp at h
  | [_, _, _], _, h => by simp at h
  | a :: b :: c :: d :: r, hb, h => by
    have ha := hb a (by simp)
    have h1 := hb b (by simp)
    have hc := hb c (by simp)
    have hd := hb d (by simp)
    have ih := be4_num4 (v := r) (fun y hy => hb y (by simp [hy])) (by simp at h; omega)
    simp only [num4, List.flatMap_cons, ih]
    simp [be4, num]; omega
theorem gnums_only {b l r : List Int} (hb : Bytes b) (h : gnums b = (l, r, 0)) : vput (l.flatMap be4).length ++ l.flatMap be4 ++ r = b := by
  unfold gnums at h
  rcases hv : gbytes b with ⟨v, s, e⟩
  rw [hv] at h
  simp only at h
  by_cases he : e = 0
  · subst he
    rw [if_neg (by simp)] at h
    by_cases hm : v.length % 4 = 0
    · rw [if_neg (by omega)] at h
      simp at h
      obtain ⟨rfl, rfl⟩ := h
      rw [be4_num4 (gbytes_rest hb hv).1 hm]
      exact (gbytes_only hb hv).2
    · rw [if_pos hm] at h; simp at h
  · rw [if_pos he] at h
    simp at h; exact absurd h.2.2 he
end Go.Proofs.YtihhinbjhiankaaGreatDoor.Al

set_option linter.unusedSimpArgs false
set_option linter.unusedVariables false
namespace Go.Proofs.YtihhinbjhiankaaGreatDoor.Al

def iput (b : List Int) (n : Inner) : List Int := if innerCheck n ≠ 0 then b else pnums (pbytes (pbytes b n.enc) n.hash) n.unmerged
def iget (b : List Int) : Inner × List Int × Int :=
  if (gbytes b).2.2 ≠ 0 then (.zero, [], (gbytes b).2.2) else if (gbytes (gbytes b).2.1).2.2 ≠ 0 then (.zero, [], (gbytes (gbytes b).2.1).2.2) else
  if (gnums (gbytes (gbytes b).2.1).2.1).2.2 ≠ 0 then (.zero, [], (gnums (gbytes (gbytes b).2.1).2.1).2.2) else
  if innerCheck ⟨(gbytes b).1, (gbytes (gbytes b).2.1).1, (gnums (gbytes (gbytes b).2.1).2.1).1⟩ ≠ 0 then (.zero, [], innerCheck ⟨(gbytes b).1, (gbytes (gbytes b).2.1).1, (gnums (gbytes (gbytes b).2.1).2.1).1⟩) else
  (⟨(gbytes b).1, (gbytes (gbytes b).2.1).1, (gnums (gbytes (gbytes b).2.1).2.1).1⟩, (gnums (gbytes (gbytes b).2.1).2.1).2.1, 0)
/-- One after another. -/
theorem iget_eq {b x r y s l t : List Int} {e f g : Int} (h1 : gbytes b = (x, r, e)) (h2 : gbytes r = (y, s, f)) (h3 : gnums s = (l, t, g)) : iget b = if e ≠ 0 then (.zero, [], e) else if f ≠ 0 then (.zero, [], f) else if g ≠ 0 then (.zero, [], g) else if innerCheck ⟨x, y, l⟩ ≠ 0 then (.zero, [], innerCheck ⟨x, y, l⟩) else (⟨x, y, l⟩, t, 0) := by
  unfold iget
  simp only [h1, h2, h3]
theorem innerCheck_zero {n : Inner} (h : innerCheck n = 0) : n.enc.length ≤ 200 ∧ n.hash.length ≤ 200 ∧ n.unmerged.length ≤ 64 ∧ (∀ x ∈ n.unmerged, 0 ≤ x ∧ x ≤ 63) ∧ n.enc ≠ [] := by
  unfold innerCheck at h
  by_cases h1 : n.enc.length = 0
  · rw [if_pos h1] at h; cases h
  rw [if_neg h1] at h
  by_cases h2 : n.enc.length > 200 ∨ n.hash.length > 200 ∨ n.unmerged.length > 64
  · rw [if_pos h2] at h; cases h
  rw [if_neg h2] at h
  by_cases h3 : ∃ i ∈ n.unmerged, i < 0 ∨ i > 63
  · rw [if_pos h3] at h; cases h
  refine ⟨by omega, by omega, by omega, fun x hx => ?_, fun e => h1 (by rw [e]; rfl)⟩
  refine ⟨?_, ?_⟩
  · by_cases hx0 : x < 0
    · exact absurd ⟨x, hx, .inl hx0⟩ h3
    · omega
  · by_cases hx0 : x > 63
    · exact absurd ⟨x, hx, .inr hx0⟩ h3
    · omega
def f1 (v : List Int) : List Int := vput v.length ++ v
theorem iput_eq {n : Inner} (h : innerCheck n = 0) (b : List Int) : iput b n = b ++ (f1 n.enc ++ (f1 n.hash ++ f1 (n.unmerged.flatMap be4))) := by
  obtain ⟨h1, h2, h3, h4, h5⟩ := innerCheck_zero h
  have hl := be4_len n.unmerged
  unfold iput
  rw [if_neg (not_not_intro h), pnums, pbytes_eq (by omega), pbytes_eq (by omega), pbytes_eq (by omega)]
  simp only [f1, List.append_assoc]
theorem iget_only {b r : List Int} {n : Inner} (hb : Bytes b) (h : iget b = (n, r, 0)) : innerCheck n = 0 ∧ iput [] n ++ r = b := by
  rcases h1 : gbytes b with ⟨x, s, e⟩
  rcases h2 : gbytes s with ⟨y, t, f⟩
  rcases h3 : gnums t with ⟨l, u, g⟩
  rw [iget_eq h1 h2 h3] at h
  by_cases he : e = 0
  · by_cases hf : f = 0
    · by_cases hg : g = 0
      · subst he; subst hf; subst hg
        simp only [ne_eq, not_true_eq_false, if_false] at h
        by_cases hc : innerCheck ⟨x, y, l⟩ = 0
        · rw [if_neg (not_not_intro hc)] at h
          simp at h
          obtain ⟨rfl, rfl⟩ := h
          refine ⟨hc, ?_⟩
          have b1 := gbytes_rest hb h1
          have b2 := gbytes_rest b1.2 h2
          have o1 := (gbytes_only hb h1).2
          have o2 := (gbytes_only b1.2 h2).2
          have o3 := gnums_only b2.2 h3
          rw [iput_eq hc]
          simp only [f1, List.nil_append, List.append_assoc] at *
          rw [o3, o2, o1]
        · rw [if_pos hc] at h
          simp at h; exact absurd h.2.2 hc
      · subst he; subst hf
        simp only [ne_eq, not_true_eq_false, if_false, hg, not_false_eq_true, if_true] at h
        simp at h; exact absurd h.2.2 hg
    · subst he
      simp only [ne_eq, not_true_eq_false, if_false, hf, not_false_eq_true, if_true] at h
      simp at h; exact absurd h.2.2 hf
  · rw [if_pos he] at h
    simp at h; exact absurd h.2.2 he
end Go.Proofs.YtihhinbjhiankaaGreatDoor.Al

set_option linter.unusedSimpArgs false
set_option linter.unusedVariables false
namespace Go.Proofs.YtihhinbjhiankaaGreatDoor.Al

def cutL (l i : List Int) : List Int := l.filter fun x => !i.contains x
theorem cutL_le (l i : List Int) : (cutL l i).length ≤ l.length := List.length_filter_le _ _
/-- What is left of the first ones stands ahead. -/
theorem cutL_take {l i : List Int} {k : Nat} (hk : k < l.length) : cutL (l.take (k + 1)) i = if l[k] ∈ i then cutL (l.take k) i else cutL (l.take k) i ++ [l[k]] := by
  unfold cutL
  rw [List.take_succ_eq_append_getElem hk, List.filter_append, List.filter_cons, List.filter_nil]
  by_cases h : l[k] ∈ i <;> simp [h]
end Go.Proofs.YtihhinbjhiankaaGreatDoor.Al

set_option linter.unusedSimpArgs false
set_option linter.unusedVariables false
namespace Go.Proofs.YtihhinbjhiankaaGreatDoor.Al
open Go

/-- A number moved up by an octet, and an octet. -/
theorem or_octet (n x : Int) (h0 : 0 ≤ n) (h1 : n ≤ 16777216) (h2 : 0 ≤ x) (h3 : x ≤ 255) : bits .or .i64 (n * 256) x = n * 256 + x := by
  obtain ⟨a, rfl⟩ := Int.eq_ofNat_of_zero_le h0
  obtain ⟨b, rfl⟩ := Int.eq_ofNat_of_zero_le h2
  have e : ((a : Int) * 256) = ((a * 256 : Nat) : Int) := by omega
  rw [e]
  have ho : a * 256 ||| b = a * 256 + b := by
    rw [show a * 256 = a <<< 8 by rw [Nat.shiftLeft_eq], Nat.shiftLeft_add_eq_or_of_lt (by omega)]
  show IntKind.i64.wrap ((BitVec.ofInt 64 ((a * 256 : Nat) : Int) ||| BitVec.ofInt 64 (b : Int)).toNat : Int) = _
  rw [BitVec.toNat_or, BitVec.ofInt_natCast, BitVec.ofInt_natCast, BitVec.toNat_ofNat, BitVec.toNat_ofNat, Nat.mod_eq_of_lt (by omega), Nat.mod_eq_of_lt (by omega), ho]
  rw [wrap64 _ (by omega) (by omega)]
  omega
end Go.Proofs.YtihhinbjhiankaaGreatDoor.Al

set_option linter.unusedSimpArgs false
set_option linter.unusedVariables false
namespace Go.Proofs.YtihhinbjhiankaaGreatDoor.Al
open Go

/-- How many octets a number is to have. -/
def clampK (k : Int) : Int := if k < 1 then 1 else if k > 4 then 4 else k
theorem clampK_bd (k : Int) : 1 ≤ clampK k ∧ clampK k ≤ 4 := by
  unfold clampK
  split
  · omega
  · split <;> omega
/-- A number's octets, the greatest first. -/
def beK (k : Nat) (n : Int) : List Int := (List.range k).map fun i => n / 256 ^ (k - 1 - i) % 256
theorem beK_len (k : Nat) (n : Int) : (beK k n).length = k := by simp [beK]
theorem beK_take {k i : Nat} (n : Int) (h : i < k) : (beK k n).take (i + 1) = (beK k n).take i ++ [n / 256 ^ (k - 1 - i) % 256] := by
  rw [List.take_succ_eq_append_getElem (by rw [beK_len]; exact h)]
  simp [beK]
theorem beK_all (k : Nat) (n : Int) : (beK k n).take k = beK k n := List.take_of_length_le (by rw [beK_len]; exact Nat.le_refl k)
theorem beK_4 (n : Int) : beK 4 n = be4 n := by
  simp [beK, be4, List.range_succ]
theorem shr_octet (n : Int) {e : Nat} (he : e ≤ 3) : IntKind.u8.wrap (n.fdiv (2 ^ (min (8 * e) IntKind.i64.bits))) = n / 256 ^ e % 256 := by
  rw [wrapU8]
  match e, he with
  | 0, _ => rw [Int.fdiv_eq_ediv_of_nonneg _ (by decide)]; rfl
  | 1, _ => rw [Int.fdiv_eq_ediv_of_nonneg _ (by decide)]; rfl
  | 2, _ => rw [Int.fdiv_eq_ediv_of_nonneg _ (by decide)]; rfl
  | 3, _ => rw [Int.fdiv_eq_ediv_of_nonneg _ (by decide)]; rfl
theorem num_snoc (l : List Int) (x : Int) : num (l ++ [x]) = num l * 256 + x := by simp [num]
theorem num_take {l : List Int} {i : Nat} (h : i < l.length) : num (l.take (i + 1)) = num (l.take i) * 256 + l[i] := by
  rw [List.take_succ_eq_append_getElem h, num_snoc]
theorem num_bd3 {l : List Int} (h : Bytes l) (hl : l.length ≤ 3) : 0 ≤ num l ∧ num l < 16777216 := by
  match l, h, hl with
  | [], _, _ => simp [num]
  | [a], h, _ => have := h a (by simp); simp [num]; omega
  | [a, b], h, _ => have := h a (by simp); have := h b (by simp); simp [num]; omega
  | [a, b, c], h, _ => have := h a (by simp); have := h b (by simp); have := h c (by simp); simp [num]; omega
theorem num_bd4 {l : List Int} (h : Bytes l) (hl : l.length ≤ 4) : 0 ≤ num l ∧ num l < 4294967296 := by
  match l, h, hl with
  | [], _, _ => simp [num]
  | [a], h, _ => have := h a (by simp); simp [num]; omega
  | [a, b], h, _ => have := h a (by simp); have := h b (by simp); simp [num]; omega
  | [a, b, c], h, _ => have := h a (by simp); have := h b (by simp); have := h c (by simp); simp [num]; omega
  | [a, b, c, d], h, _ => have := h a (by simp); have := h b (by simp); have := h c (by simp); have := h d (by simp); simp [num]; omega
theorem flat_take {l : List Int} {k : Nat} (h : k < l.length) : (l.take (k + 1)).flatMap be4 = (l.take k).flatMap be4 ++ be4 l[k] := by
  rw [List.take_succ_eq_append_getElem h, List.flatMap_append]; simp
theorem num4_app : ∀ {a b : List Int}, a.length % 4 = 0 → num4 (a ++ b) = num4 a ++ num4 b
  | [], b, _ => rfl
  | [_], _, h => by simp at h
  | [_, _], _, h => by simp at h
  | [_, _, _], _, h => by simp at h
  | x :: y :: z :: w :: r, b, h => by
    have ih := num4_app (a := r) (b := b) (by simp at h; omega)
    simp only [List.cons_append, num4, ih]
theorem num4_four {l : List Int} (h : l.length = 4) : num4 l = [num l] := by
  match l, h with
  | [_, _, _, _], _ => rfl
theorem num4_step {v : List Int} {k : Nat} (h : 4 * (k + 1) ≤ v.length) : num4 (v.take (4 * (k + 1))) = num4 (v.take (4 * k)) ++ [num ((v.drop (4 * k)).take 4)] := by
  have e : v.take (4 * (k + 1)) = v.take (4 * k) ++ (v.drop (4 * k)).take 4 := by
    rw [show 4 * (k + 1) = 4 * k + 4 by omega, List.take_add]
  rw [e, num4_app (by rw [List.length_take]; omega), num4_four (l := (v.drop (4 * k)).take 4) (by rw [List.length_take, List.length_drop]; omega)]
theorem num4_len : ∀ v : List Int, v.length % 4 = 0 → (num4 v).length = v.length / 4
  | [], _ => rfl
  | [_], h => by simp at h
  | [_, _], h => by simp at h
  | [_, _, _], h => by simp at h
  | x :: y :: z :: w :: r, h => by
    have ih := num4_len r (by simp at h; omega)
    simp only [num4, List.length_cons, ih]; omega
theorem bytes_of {b : List Int} (h : Oct b) : Bytes b := fun x hx => by
  have := h.2 x hx
  have e1 : IntKind.u8.min = 0 := rfl
  have e2 : IntKind.u8.max = 255 := rfl
  omega
theorem vget_rest {b : List Int} : (vget b).2.1.length ≤ b.length ∧ ∀ x ∈ (vget b).2.1, x ∈ b := by
  cases b with
  | nil => simp [vget]
  | cons x b =>
    simp only [vget]
    split
    · simp
    · split
      · simp
      · split
        · simp
        · refine ⟨by simp; omega, fun y hy => List.mem_cons_of_mem _ (List.mem_of_mem_drop hy)⟩
theorem gbytes_sub (b : List Int) : ((gbytes b).1.length ≤ b.length ∧ ∀ x ∈ (gbytes b).1, x ∈ b) ∧ ((gbytes b).2.1.length ≤ b.length ∧ ∀ x ∈ (gbytes b).2.1, x ∈ b) := by
  have h := vget_rest (b := b)
  unfold gbytes
  split
  · simp
  · split
    · simp
    · split
      · simp
      · refine ⟨⟨by simp; omega, fun x hx => h.2 x (List.mem_of_mem_take hx)⟩, ⟨by simp; omega, fun x hx => h.2 x (List.mem_of_mem_drop hx)⟩⟩
theorem gbytes_oct {b : List Int} (h : Oct b) : Oct (gbytes b).1 ∧ Oct (gbytes b).2.1 := by
  have hs := gbytes_sub b
  have hl := h.1
  simp only [Small] at hl
  exact ⟨⟨by simp only [Small]; omega, fun x hx => h.2 x (hs.1.2 x hx)⟩, ⟨by simp only [Small]; omega, fun x hx => h.2 x (hs.2.2 x hx)⟩⟩
end Go.Proofs.YtihhinbjhiankaaGreatDoor.Al
