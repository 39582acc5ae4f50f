/-
  SPECS: bytes.Equal, slices.Equal, IndexFunc, ContainsFunc; leaves and inner nodes.
-/
import Derived.Test.YtihhinbjhiankaaGreatDoorAlV1
import Derived.Test.YtihhinbjhiankaaGreatDoorAlP5
import Derived.Test.YtihhinbjhiankaaGreatDoorAlD7
set_option linter.unusedSimpArgs false
set_option linter.unusedVariables false
namespace Go.Proofs.YtihhinbjhiankaaGreatDoor.Al
open Go
attribute [local go_sem] W_mv W_pick W_alloc W_box W_build W_bslice W_load W_store W_nilck W_bin W_isnil W_un W_convI W_convS W_mkiface W_mkfunc W_mkslice W_slice W_faddr W_field W_iaddr W_iaddrA W_idxA W_extract W_len W_lenS W_lenA W_min W_max W_append W_appendZ W_copy W_clear W_tassert W_invoke thenQ_normal thenQ_exit thenQ_goto thenQ_ret blockQ_normal blockQ_ret blockQ_goto blockQ_exit wpc_skip wpc_region wpc_draw wpc_seq wpc_cond wpc_block wpc_exit wpc_goto wpc_label wpc_ret wpc_loop wpc_range wpc_scope condW_true condW_false condW_dec condW_any W_nil W_call resW_some evalOp Opd.ev updo_envL updo_none setL_cons setL_nil envL_cons Option.map_some Option.bind_some evBin evInt List.map_cons List.map_nil Option.pure_def Option.bind_eq_bind W_grd' grdW_tt grdW_ff grdW_tf grdW_ft grdW_tup grdW_dt grdW_df lgrdW_tt lgrdW_ff lgrdW_tf lgrdW_ft lgrdW_tup lgrdW_dt lgrdW_df L_mv L_pick L_alloc L_box L_build L_bslice L_load L_store L_nilck L_bin L_isnil L_un L_convI L_convS L_mkiface L_mkfunc L_mkslice L_slice L_faddr L_field L_iaddr L_iaddrA L_idxA L_extract L_len L_lenS L_lenA L_min L_max L_append L_appendZ L_copy L_clear L_tassert L_nil L_call L_grd lresW_some upd_envL evUn beq_dec bne_dec leaves_ret1 leaves_end1 leaves_ret0 leaves_end0 leaves_ret2 leaves_ret3 rowLen_ints load_iptr0 not_dec heap_get0 heap_get1 heap_set0 heap_set1 heap_len1 heap_len2 heap_app heap_app2 bslice1_int seen_ints seen_one0 seen_one1 seen_one2 rowLen_own0 bslice0_int rowLen_own1 Nat.sub_zero Bool.not_true Bool.not_false List.length_nil List.length_cons List.nil_append List.cons_append Nat.zero_add load_iptrA canon_ptrI canon_bool canon_tup canon_agg canon_leafA canon_innerA canon_nodeA canon_ints' rowLen_ints0 seen_ints0 canon_ints0 rowLen_ints1 seen_ints1 canon_ints1 rowLen_ints2 seen_ints2 canon_ints2 rowLen_ints3 seen_ints3 canon_ints3 rowLen_octs seen_octs canon_octs' szOk_octs rowLen_octs0 seen_octs0 canon_octs0 rowLen_octs1 seen_octs1 canon_octs1 rowLen_octs2 seen_octs2 canon_octs2 rowLen_octs3 seen_octs3 canon_octs3 rowLen_intss seen_intss canon_intss' szOk_intss rowLen_intss0 seen_intss0 canon_intss0 rowLen_intss1 seen_intss1 canon_intss1 rowLen_intss2 seen_intss2 canon_intss2 rowLen_intss3 seen_intss3 canon_intss3 rowLen_octss seen_octss canon_octss' szOk_octss rowLen_octss0 seen_octss0 canon_octss0 rowLen_octss1 seen_octss1 canon_octss1 rowLen_octss2 seen_octss2 canon_octss2 rowLen_octss3 seen_octss3 canon_octss3 rowLen_nodes seen_nodes canon_nodes' szOk_nodes rowLen_nodes0 seen_nodes0 canon_nodes0 rowLen_nodes1 seen_nodes1 canon_nodes1 rowLen_nodes2 seen_nodes2 canon_nodes2 rowLen_nodes3 seen_nodes3 canon_nodes3 seen_list cells_int oneIn_int cells_bool oneIn_bool cells_str oneIn_str cells_list oneIn_list cells_func oneIn_func cells_nilfunc oneIn_nilfunc cells_iptr oneIn_iptr cells_iface oneIn_iface cells_nilIface oneIn_nilIface cells_own cells_ptr cells_anybool oneIn_anybool cells_agg oneIn_own0 oneIn_ptr0 seenL0 seenM0 oneIn_own1 oneIn_ptr1 seenL1 seenM1 oneIn_own2 oneIn_ptr2 seenL2 seenM2 oneIn_own3 oneIn_ptr3 seenL3 seenM3 oneIn_own4 oneIn_ptr4 seenL4 seenM4 oneIn_own5 oneIn_ptr5 seenL5 seenM5 cells_ints oneIn_ints cells_octs oneIn_octs cells_intss oneIn_intss cells_octss oneIn_octss cells_nodes oneIn_nodes ldB0 ldA0 adB0 stB0 ldB1 ldA1 adB1 stB1 ldB2 ldA2 adB2 stB2 ldB3 ldA3 adB3 stB3 ldB4 ldA4 adB4 stB4 ldB5 ldA5 adB5 stB5 List.getElem?_cons_zero List.getElem?_cons_succ beq_self_eq_true splice List.take_zero List.take_succ_cons List.drop_zero List.drop_succ_cons List.append_nil List.set_cons_zero List.set_cons_succ List.all_cons List.all_nil Bool.and_self and_self and_true true_and Nat.lt_irrefl Nat.zero_lt_one Nat.le_refl fillA evNil notA Bool.false_eq_true evMin_int evMax_int Option.map_none freezeP_all_nil freezeP_all_cons frzE_box frzE_arr frzE_dead foldA List.foldlM_cons List.foldlM_nil
attribute [local simp] envL_cons envL_nil idb_int idb_bool idb_str idb_ints idb_nil idb_own idb_ptr entB_ints' idb_octs entB_octs idb_intss entB_intss idb_octss entB_octss idb_nodes entB_nodes idb_leafA idb_innerA idb_nodeA idb_agg idb_tup idb_iptr idb_fn idb_undef entB_dead entB_box

def bytesOf (l : List Int) : List UInt8 := l.map fun n => UInt8.ofNat n.toNat
theorem bytes_octs (l : List Int) : (l.map (AV.int .u8)).mapM byteOf = some (bytesOf l) := by
  induction l with
  | nil => rfl
  | cons x l ih => rw [List.map_cons, List.mapM_cons, ih]; rfl
theorem bytesOf_inj1 : ∀ {a b : List Int}, (∀ x ∈ a, IntKind.u8.min ≤ x ∧ x ≤ IntKind.u8.max) → (∀ x ∈ b, IntKind.u8.min ≤ x ∧ x ≤ IntKind.u8.max) → bytesOf a = bytesOf b → a = b
  | [], [], _, _, _ => rfl
  | [], y :: b, _, _, h => by simp [bytesOf] at h
  | x :: a, [], _, _, h => by simp [bytesOf] at h
  | x :: a, y :: b, ha, hb, h => by
    simp only [bytesOf, List.map_cons, List.cons.injEq] at h
    have hx := ha x (by simp)
    have hy := hb y (by simp)
    have hx0 : 0 ≤ x := hx.1
    have hx1 : x ≤ 255 := hx.2
    have hy0 : 0 ≤ y := hy.1
    have hy1 : y ≤ 255 := hy.2
    have e : x.toNat = y.toNat := by
      have := congrArg UInt8.toNat h.1
      rw [UInt8.toNat_ofNat', UInt8.toNat_ofNat', Nat.mod_eq_of_lt (by omega), Nat.mod_eq_of_lt (by omega)] at this
      exact this
    rw [show x = y by omega, bytesOf_inj1 (a := a) (b := b) (fun z hz => ha z (by simp [hz])) (fun z hz => hb z (by simp [hz])) h.2]
theorem bytesOf_inj {a b : List Int} (ha : Oct a) (hb : Oct b) (h : bytesOf a = bytesOf b) : a = b := bytesOf_inj1 ha.2 hb.2 h
theorem bytesOf_eq {a b : List Int} (ha : Oct a) (hb : Oct b) : (decide (bytesOf a = bytesOf b)) = decide (a = b) := by
  rw [decide_eq_decide]
  exact ⟨bytesOf_inj ha hb, fun h => by rw [h]⟩

theorem evStr_eql (a b : List UInt8) : evStr .eql a b = some (.bool (decide (a = b))) := by
  simp only [evStr]
  congr 2
  by_cases h : a = b
  · subst h; simp
  · simp [h]
/-- bytes.Equal. -/
theorem bytesEq_spec (a b : List Int) (ha : Oct a) (hb : Oct b) : Fun seat 156 [octs a, octs b] (.bool (decide (a = b))) := by
  refine Fun.of0 told156 (by simp [il156]) (by simp ) (by simp ) 0 ?_
  rw [← bytesOf_eq ha hb]
  simp only [il156, List.zipIdx_cons, List.zipIdx_nil, Nat.zero_add, go_sem, Nat.reduceEqDiff, reduceIte, Nat.reduceAdd, Nat.reduceLeDiff, Nat.reduceLT, Nat.reduceSub, bytes_octs, evStr_eql]

theorem big_spec (l : List Int) : Fun seat 158 [octs l] (.bool (decide ((l.length : Int) > 200))) := by
  refine Fun.of0 told158 (by simp [il158]) (by simp ) (by simp ) 0 ?_
  simp only [il158, List.zipIdx_cons, List.zipIdx_nil, Nat.zero_add, go_sem, Nat.reduceEqDiff, reduceIte, Nat.reduceAdd, Nat.reduceLeDiff, Nat.reduceLT, Nat.reduceSub]
theorem source_spec (x : Int) : Fun seat 160 [.int .i64 x] (.bool (decide (x ≥ 1 ∧ x ≤ 3))) := by
  refine Fun.of0 told160 (by simp [il160]) (by simp ) (by simp ) 0 ?_
  by_cases h : x ≥ 1
  · simp only [il160, List.zipIdx_cons, List.zipIdx_nil, Nat.zero_add, go_sem, Nat.reduceEqDiff, reduceIte, Nat.reduceAdd, Nat.reduceLeDiff, Nat.reduceLT, Nat.reduceSub, h, decide_true, true_and]
  · simp only [il160, List.zipIdx_cons, List.zipIdx_nil, Nat.zero_add, go_sem, Nat.reduceEqDiff, reduceIte, Nat.reduceAdd, Nat.reduceLeDiff, Nat.reduceLT, Nat.reduceSub, h, decide_false, false_and]
theorem wide_spec (x : Int) : Fun seat 161 [.int .i64 x] (.bool (decide (x < 0 ∨ x > 63))) := by
  refine Fun.of0 told161 (by simp [il161]) (by simp ) (by simp ) 0 ?_
  by_cases h : x < 0
  · simp only [il161, List.zipIdx_cons, List.zipIdx_nil, Nat.zero_add, go_sem, Nat.reduceEqDiff, reduceIte, Nat.reduceAdd, Nat.reduceLeDiff, Nat.reduceLT, Nat.reduceSub, h, decide_true, true_or]
  · simp only [il161, List.zipIdx_cons, List.zipIdx_nil, Nat.zero_add, go_sem, Nat.reduceEqDiff, reduceIte, Nat.reduceAdd, Nat.reduceLeDiff, Nat.reduceLT, Nat.reduceSub, h, decide_false, false_or]

end Go.Proofs.YtihhinbjhiankaaGreatDoor.Al
namespace Go.Proofs.YtihhinbjhiankaaGreatDoor.Al
open Go
attribute [local go_sem] W_mv W_pick W_alloc W_box W_build W_bslice W_load W_store W_nilck W_bin W_isnil W_un W_convI W_convS W_mkiface W_mkfunc W_mkslice W_slice W_faddr W_field W_iaddr W_iaddrA W_idxA W_extract W_len W_lenS W_lenA W_min W_max W_append W_appendZ W_copy W_clear W_tassert W_invoke thenQ_normal thenQ_exit thenQ_goto thenQ_ret blockQ_normal blockQ_ret blockQ_goto blockQ_exit wpc_skip wpc_region wpc_draw wpc_seq wpc_cond wpc_block wpc_exit wpc_goto wpc_label wpc_ret wpc_loop wpc_range wpc_scope condW_true condW_false condW_dec condW_any W_nil W_call resW_some evalOp Opd.ev updo_envL updo_none setL_cons setL_nil envL_cons Option.map_some Option.bind_some evBin evInt List.map_cons List.map_nil Option.pure_def Option.bind_eq_bind W_grd' grdW_tt grdW_ff grdW_tf grdW_ft grdW_tup grdW_dt grdW_df lgrdW_tt lgrdW_ff lgrdW_tf lgrdW_ft lgrdW_tup lgrdW_dt lgrdW_df L_mv L_pick L_alloc L_box L_build L_bslice L_load L_store L_nilck L_bin L_isnil L_un L_convI L_convS L_mkiface L_mkfunc L_mkslice L_slice L_faddr L_field L_iaddr L_iaddrA L_idxA L_extract L_len L_lenS L_lenA L_min L_max L_append L_appendZ L_copy L_clear L_tassert L_nil L_call L_grd lresW_some upd_envL evUn beq_dec bne_dec leaves_ret1 leaves_end1 leaves_ret0 leaves_end0 leaves_ret2 leaves_ret3 rowLen_ints load_iptr0 not_dec heap_get0 heap_get1 heap_set0 heap_set1 heap_len1 heap_len2 heap_app heap_app2 bslice1_int seen_ints seen_one0 seen_one1 seen_one2 rowLen_own0 bslice0_int rowLen_own1 Nat.sub_zero Bool.not_true Bool.not_false
attribute [local simp] envL_cons envL_nil idb_int idb_bool idb_str idb_ints idb_nil idb_own idb_ptr

/-- slices.Equal. -/
theorem eqInts_spec (a b : List Int) : Fun seat 157 [ints a, ints b] (.bool (decide (a = b))) := by
  intro H
  refine ACall.bnd (t := false) (xs := a.map (AV.int .i64)) (by simp [ints]) fun hlen => ?_
  rw [List.length_map] at hlen
  refine Fun.of_wp told157 (by simp [il157]) (.bool _) (fun H hwf hi => ?_) H
  simp only [il157, List.zipIdx_cons, List.zipIdx_nil, Nat.zero_add, go_sem, Nat.reduceEqDiff, reduceIte]
  refine ⟨fun hne => ⟨?_, by simp⟩, fun heq => ?_⟩
  · have : a ≠ b := fun e => hne (by rw [e])
    simp [this]
  have hll : a.length = b.length := by omega
  refine WP.loopF (fun k => k ≤ a.length ∧ ∀ j (hj : j < a.length), j < k → a[j] = b[j]) (fun k => ⟨envL [(0, ints a), (1, ints b), (4, .bool false), (12, .int .i64 a.length), (13, .int .i64 k)], H⟩) (fun k => a.length - k) 0 (by simp) (Fits.of (by simp ) (by simp ) (by simp) hwf) (fun _ _ => Nat.le_refl _) ?_
  rintro k ⟨hk, hno⟩
  refine wpc_sound ?_
  simp only [go_sem, Nat.reduceEqDiff, reduceIte]
  refine ⟨fun h => ?_, fun h => ?_⟩
  · have hk' : k < a.length := by omega
    refine WP.drawL mixed (by decide) ?_
    simp only [go_sem, Nat.reduceEqDiff, reduceIte, index_ints H a k hk', index_ints H b k (by omega)]
    refine ⟨fun ht => ⟨?_, by simp⟩, fun ht => ?_⟩
    · have : a ≠ b := fun e => ht (by simp [e])
      simp [this]
    · refine ⟨k + 1, ⟨hk', fun j hj hjk => ?_⟩, by omega, Fits.of ?_ (by simp ) (by simp) hwf⟩
      · rcases Nat.lt_or_ge j k with h | h
        · exact hno j hj h
        · have : j = k := by omega
          subst this; exact Classical.not_not.1 ht
      · simp 
        exact wrap64 _ (by omega) (by omega)
  · refine ⟨?_, by simp⟩
    have : a = b := List.ext_getElem hll fun j h1 h2 => hno j h1 (by omega)
    simp [this]

end Go.Proofs.YtihhinbjhiankaaGreatDoor.Al
namespace Go.Proofs.YtihhinbjhiankaaGreatDoor.Al
open Go
attribute [local go_sem] W_mv W_pick W_alloc W_box W_build W_bslice W_load W_store W_nilck W_bin W_isnil W_un W_convI W_convS W_mkiface W_mkfunc W_mkslice W_slice W_faddr W_field W_iaddr W_iaddrA W_idxA W_extract W_len W_lenS W_lenA W_min W_max W_append W_appendZ W_copy W_clear W_tassert W_invoke thenQ_normal thenQ_exit thenQ_goto thenQ_ret blockQ_normal blockQ_ret blockQ_goto blockQ_exit wpc_skip wpc_region wpc_draw wpc_seq wpc_cond wpc_block wpc_exit wpc_goto wpc_label wpc_ret wpc_loop wpc_range wpc_scope condW_true condW_false condW_dec condW_any W_nil W_call resW_some evalOp Opd.ev updo_envL updo_none setL_cons setL_nil envL_cons Option.map_some Option.bind_some evBin evInt List.map_cons List.map_nil Option.pure_def Option.bind_eq_bind W_grd' grdW_tt grdW_ff grdW_tf grdW_ft grdW_tup grdW_dt grdW_df lgrdW_tt lgrdW_ff lgrdW_tf lgrdW_ft lgrdW_tup lgrdW_dt lgrdW_df L_mv L_pick L_alloc L_box L_build L_bslice L_load L_store L_nilck L_bin L_isnil L_un L_convI L_convS L_mkiface L_mkfunc L_mkslice L_slice L_faddr L_field L_iaddr L_iaddrA L_idxA L_extract L_len L_lenS L_lenA L_min L_max L_append L_appendZ L_copy L_clear L_tassert L_nil L_call L_grd lresW_some upd_envL evUn beq_dec bne_dec leaves_ret1 leaves_end1 leaves_ret0 leaves_end0 leaves_ret2 leaves_ret3 rowLen_ints load_iptr0 not_dec heap_get0 heap_get1 heap_set0 heap_set1 heap_len1 heap_len2 heap_app heap_app2 bslice1_int seen_ints seen_one0 seen_one1 seen_one2 rowLen_own0 bslice0_int rowLen_own1 Nat.sub_zero Bool.not_true Bool.not_false List.length_nil List.length_cons List.nil_append List.cons_append Nat.zero_add load_iptrA canon_ptrI canon_bool canon_tup canon_agg canon_leafA canon_innerA canon_nodeA canon_ints' rowLen_ints0 seen_ints0 canon_ints0 rowLen_ints1 seen_ints1 canon_ints1 rowLen_ints2 seen_ints2 canon_ints2 rowLen_ints3 seen_ints3 canon_ints3 rowLen_octs seen_octs canon_octs' szOk_octs rowLen_octs0 seen_octs0 canon_octs0 rowLen_octs1 seen_octs1 canon_octs1 rowLen_octs2 seen_octs2 canon_octs2 rowLen_octs3 seen_octs3 canon_octs3 rowLen_intss seen_intss canon_intss' szOk_intss rowLen_intss0 seen_intss0 canon_intss0 rowLen_intss1 seen_intss1 canon_intss1 rowLen_intss2 seen_intss2 canon_intss2 rowLen_intss3 seen_intss3 canon_intss3 rowLen_octss seen_octss canon_octss' szOk_octss rowLen_octss0 seen_octss0 canon_octss0 rowLen_octss1 seen_octss1 canon_octss1 rowLen_octss2 seen_octss2 canon_octss2 rowLen_octss3 seen_octss3 canon_octss3 rowLen_nodes seen_nodes canon_nodes' szOk_nodes rowLen_nodes0 seen_nodes0 canon_nodes0 rowLen_nodes1 seen_nodes1 canon_nodes1 rowLen_nodes2 seen_nodes2 canon_nodes2 rowLen_nodes3 seen_nodes3 canon_nodes3 seen_list cells_int oneIn_int cells_bool oneIn_bool cells_str oneIn_str cells_list oneIn_list cells_func oneIn_func cells_nilfunc oneIn_nilfunc cells_iptr oneIn_iptr cells_iface oneIn_iface cells_nilIface oneIn_nilIface cells_own cells_ptr cells_anybool oneIn_anybool cells_agg oneIn_own0 oneIn_ptr0 seenL0 seenM0 oneIn_own1 oneIn_ptr1 seenL1 seenM1 oneIn_own2 oneIn_ptr2 seenL2 seenM2 oneIn_own3 oneIn_ptr3 seenL3 seenM3 oneIn_own4 oneIn_ptr4 seenL4 seenM4 oneIn_own5 oneIn_ptr5 seenL5 seenM5 cells_ints oneIn_ints cells_octs oneIn_octs cells_intss oneIn_intss cells_octss oneIn_octss cells_nodes oneIn_nodes ldB0 ldA0 adB0 stB0 ldB1 ldA1 adB1 stB1 ldB2 ldA2 adB2 stB2 ldB3 ldA3 adB3 stB3 ldB4 ldA4 adB4 stB4 ldB5 ldA5 adB5 stB5 List.getElem?_cons_zero List.getElem?_cons_succ beq_self_eq_true splice List.take_zero List.take_succ_cons List.drop_zero List.drop_succ_cons List.append_nil List.set_cons_zero List.set_cons_succ List.all_cons List.all_nil Bool.and_self and_self and_true true_and Nat.lt_irrefl Nat.zero_lt_one Nat.le_refl fillA evNil notA Bool.false_eq_true evMin_int evMax_int Option.map_none freezeP_all_nil freezeP_all_cons frzE_box frzE_arr frzE_dead foldA List.foldlM_cons List.foldlM_nil
attribute [local simp] envL_cons envL_nil idb_int idb_bool idb_str idb_ints idb_nil idb_own idb_ptr entB_ints' idb_octs entB_octs idb_intss entB_intss idb_octss entB_octss idb_nodes entB_nodes idb_leafA idb_innerA idb_nodeA idb_agg idb_tup idb_iptr idb_fn idb_undef entB_dead entB_box

theorem idx166_spec (l : List (List Int)) (p : List Int → Bool) (c : Nat) (f : IFn) (ht : trFn seat c = some f) (cap : List AV) (hcap : ∀ x ∈ cap, Idb 0 x) (h : ∀ x ∈ l, Fun seat c ([octs x] ++ cap) (.bool (p x))) : Fun seat 166 [encOcts.row l, .func (.f c) [] cap] (.int .i64 (idxF p l)) := by
  refine Fun.bd fun hbd => ?_
  have hlb : l.length ≤ 9223372036854775807 := encOcts.bd_len (t := false) hbd (by simp [Enc.row])
  refine Fun.of0 told166 (by simp [il166]) (by simpa [encOcts.idb_row] using hcap) (by simp ) 0 ?_
  simp only [il166, List.zipIdx_cons, List.zipIdx_nil, Nat.zero_add, go_sem, Nat.reduceEqDiff, reduceIte, Nat.reduceAdd, Nat.reduceLeDiff, Nat.reduceLT, Nat.reduceSub, encOcts.rowLen]
  refine WP.loop0 (fun k => k ≤ l.length ∧ ∀ j (hj : j < l.length), j < k → p l[j] = false) (fun k => [(0, encOcts.row l), (1, .func (.f c) [] cap), (7, .int .i64 l.length), (8, .int .i64 k)]) (fun k => l.length - k) 0 ⟨Nat.zero_le _, fun j _ h => by omega⟩
    (fun k _ => by simpa [encOcts.idb_row] using hcap) (by simp ) ?_
  rintro k ⟨hk, hno⟩
  refine wpc_sound ?_
  simp only [go_sem, Nat.reduceEqDiff, reduceIte, Nat.reduceAdd, Nat.reduceLeDiff, Nat.reduceLT, Nat.reduceSub]
  refine ⟨fun hlt => ?_, fun hge => ?_⟩
  · have hk' : k < l.length := by omega
    have ix : evIndex [] 1 (encOcts.row l) (.int .i64 (k : Int)) = some (.iptr ([octs l[k]]) 0) := encOcts.index [] l k hk'
    have ld : evLoad [] false 1 (.iptr ([octs l[k]]) 0) = some (octs l[k]) := rfl
    simp only [go_sem, Nat.reduceEqDiff, reduceIte, Nat.reduceAdd, Nat.reduceLeDiff, Nat.reduceLT, Nat.reduceSub, ix, ld]
    refine Callee.c ht (h l[k] (List.getElem_mem hk')) ?_
    cases hp : p l[k] with
    | true =>
      simp only [go_sem, Nat.reduceEqDiff, reduceIte, Nat.reduceAdd, Nat.reduceLeDiff, Nat.reduceLT, Nat.reduceSub]
      rw [findIdx_at hk' hp fun j hj => hno j (by omega) hj]
    | false =>
      simp only [go_sem, Nat.reduceEqDiff, reduceIte, Nat.reduceAdd, Nat.reduceLeDiff, Nat.reduceLT, Nat.reduceSub]
      refine ⟨k + 1, ⟨hk', fun j hj hjk => ?_⟩, by omega, by simp [wrapS (show k < 9223372036854775807 by omega)]⟩
      rcases Nat.lt_or_ge j k with hlt | hge
      · exact hno j hj hlt
      · obtain rfl : j = k := by omega
        exact hp
  · have hke : k = l.length := by omega
    subst hke
    rw [idxF_none fun j hj => hno j hj hj]

theorem idx167_spec (l : List (Int)) (p : Int → Bool) (c : Nat) (f : IFn) (ht : trFn seat c = some f) (cap : List AV) (hcap : ∀ x ∈ cap, Idb 0 x) (h : ∀ x ∈ l, Fun seat c ([.int .i64 x] ++ cap) (.bool (p x))) : Fun seat 167 [encI64.row l, .func (.f c) [] cap] (.int .i64 (idxF p l)) := by
  refine Fun.bd fun hbd => ?_
  have hlb : l.length ≤ 9223372036854775807 := encI64.bd_len (t := false) hbd (by simp [Enc.row])
  refine Fun.of0 told167 (by simp [il167]) (by simpa [encI64.idb_row] using hcap) (by simp ) 0 ?_
  simp only [il167, List.zipIdx_cons, List.zipIdx_nil, Nat.zero_add, go_sem, Nat.reduceEqDiff, reduceIte, Nat.reduceAdd, Nat.reduceLeDiff, Nat.reduceLT, Nat.reduceSub, encI64.rowLen]
  refine WP.loop0 (fun k => k ≤ l.length ∧ ∀ j (hj : j < l.length), j < k → p l[j] = false) (fun k => [(0, encI64.row l), (1, .func (.f c) [] cap), (7, .int .i64 l.length), (8, .int .i64 k)]) (fun k => l.length - k) 0 ⟨Nat.zero_le _, fun j _ h => by omega⟩
    (fun k _ => by simpa [encI64.idb_row] using hcap) (by simp ) ?_
  rintro k ⟨hk, hno⟩
  refine wpc_sound ?_
  simp only [go_sem, Nat.reduceEqDiff, reduceIte, Nat.reduceAdd, Nat.reduceLeDiff, Nat.reduceLT, Nat.reduceSub]
  refine ⟨fun hlt => ?_, fun hge => ?_⟩
  · have hk' : k < l.length := by omega
    have ix : evIndex [] 1 (encI64.row l) (.int .i64 (k : Int)) = some (.iptr ([.int .i64 l[k]]) 0) := encI64.index [] l k hk'
    have ld : evLoad [] false 1 (.iptr ([.int .i64 l[k]]) 0) = some (.int .i64 l[k]) := rfl
    simp only [go_sem, Nat.reduceEqDiff, reduceIte, Nat.reduceAdd, Nat.reduceLeDiff, Nat.reduceLT, Nat.reduceSub, ix, ld]
    refine Callee.c ht (h l[k] (List.getElem_mem hk')) ?_
    cases hp : p l[k] with
    | true =>
      simp only [go_sem, Nat.reduceEqDiff, reduceIte, Nat.reduceAdd, Nat.reduceLeDiff, Nat.reduceLT, Nat.reduceSub]
      rw [findIdx_at hk' hp fun j hj => hno j (by omega) hj]
    | false =>
      simp only [go_sem, Nat.reduceEqDiff, reduceIte, Nat.reduceAdd, Nat.reduceLeDiff, Nat.reduceLT, Nat.reduceSub]
      refine ⟨k + 1, ⟨hk', fun j hj hjk => ?_⟩, by omega, by simp [wrapS (show k < 9223372036854775807 by omega)]⟩
      rcases Nat.lt_or_ge j k with hlt | hge
      · exact hno j hj hlt
      · obtain rfl : j = k := by omega
        exact hp
  · have hke : k = l.length := by omega
    subst hke
    rw [idxF_none fun j hj => hno j hj hj]

theorem any159_spec (l : List (List Int)) (p : List Int → Bool) (c : Nat) (f : IFn) (ht : trFn seat c = some f) (cap : List AV) (hcap : ∀ x ∈ cap, Idb 0 x) (h : ∀ x ∈ l, Fun seat c ([octs x] ++ cap) (.bool (p x))) : Fun seat 159 [encOcts.row l, .func (.f c) [] cap] (.bool (l.any p)) := by
  refine Fun.of0 told159 (by simp [il159]) (by simpa [encOcts.idb_row] using hcap) (by simp ) 0 ?_
  rw [← idxF_ge]
  simp only [il159, List.zipIdx_cons, List.zipIdx_nil, Nat.zero_add, go_sem, Nat.reduceEqDiff, reduceIte, Nat.reduceAdd, Nat.reduceLeDiff, Nat.reduceLT, Nat.reduceSub]
  refine Callee.f told166 (idx166_spec l p c f ht cap hcap h) ?_
  simp only [go_sem, Nat.reduceEqDiff, reduceIte, Nat.reduceAdd, Nat.reduceLeDiff, Nat.reduceLT, Nat.reduceSub]
theorem any162_spec (l : List Int) (p : Int → Bool) (c : Nat) (f : IFn) (ht : trFn seat c = some f) (cap : List AV) (hcap : ∀ x ∈ cap, Idb 0 x) (h : ∀ x ∈ l, Fun seat c ([.int .i64 x] ++ cap) (.bool (p x))) : Fun seat 162 [encI64.row l, .func (.f c) [] cap] (.bool (l.any p)) := by
  refine Fun.of0 told162 (by simp [il162]) (by simpa [encI64.idb_row] using hcap) (by simp ) 0 ?_
  rw [← idxF_ge]
  simp only [il162, List.zipIdx_cons, List.zipIdx_nil, Nat.zero_add, go_sem, Nat.reduceEqDiff, reduceIte, Nat.reduceAdd, Nat.reduceLeDiff, Nat.reduceLT, Nat.reduceSub]
  refine Callee.f told167 (idx167_spec l p c f ht cap hcap h) ?_
  simp only [go_sem, Nat.reduceEqDiff, reduceIte, Nat.reduceAdd, Nat.reduceLeDiff, Nat.reduceLT, Nat.reduceSub]
end Go.Proofs.YtihhinbjhiankaaGreatDoor.Al
