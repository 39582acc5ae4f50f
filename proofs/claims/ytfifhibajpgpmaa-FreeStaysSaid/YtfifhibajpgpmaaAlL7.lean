/-
  THE LAW FreeStays.
-/
import Derived.Test.YtfifhibajpgpmaaAlL6
import Derived.Test.YtfifhibajpgpmaaAlD6
set_option linter.unusedSimpArgs false
set_option linter.unusedVariables false
namespace Go.Proofs.Ytfifhibajpgpmaa.Al
open Go
attribute [local go_sem] W_mv W_pick W_alloc W_box W_build W_bslice W_load W_store W_nilck W_bin W_isnil W_un W_convI W_convS W_mkiface W_mkfunc W_mkslice W_slice W_faddr W_field W_iaddr W_iaddrA W_idxA W_extract W_len W_lenS W_lenA W_min W_max W_append W_appendZ W_copy W_clear W_tassert W_invoke thenQ_normal thenQ_exit thenQ_goto thenQ_ret blockQ_normal blockQ_ret blockQ_goto blockQ_exit wpc_skip wpc_region wpc_draw wpc_seq wpc_cond wpc_block wpc_exit wpc_goto wpc_label wpc_ret wpc_loop wpc_range wpc_scope condW_true condW_false condW_dec condW_any W_nil W_call resW_some evalOp Opd.ev updo_envL updo_none setL_cons setL_nil envL_cons Option.map_some Option.bind_some evBin evInt List.map_cons List.map_nil Option.pure_def Option.bind_eq_bind W_grd' grdW_tt grdW_ff grdW_tf grdW_ft grdW_tup grdW_dt grdW_df lgrdW_tt lgrdW_ff lgrdW_tf lgrdW_ft lgrdW_tup lgrdW_dt lgrdW_df L_mv L_pick L_alloc L_box L_build L_bslice L_load L_store L_nilck L_bin L_isnil L_un L_convI L_convS L_mkiface L_mkfunc L_mkslice L_slice L_faddr L_field L_iaddr L_iaddrA L_idxA L_extract L_len L_lenS L_lenA L_min L_max L_append L_appendZ L_copy L_clear L_tassert L_nil L_call L_grd lresW_some upd_envL evUn beq_dec bne_dec leaves_ret1 leaves_end1 leaves_ret0 leaves_end0 leaves_ret2 leaves_ret3 rowLen_ints load_iptr0 not_dec heap_get0 heap_get1 heap_set0 heap_set1 heap_len1 heap_len2 heap_app heap_app2 bslice1_int seen_ints seen_one0 seen_one1 seen_one2 rowLen_own0 bslice0_int rowLen_own1 Nat.sub_zero Bool.not_true Bool.not_false List.length_nil List.length_cons List.nil_append List.cons_append Nat.zero_add load_iptrA canon_ptrI canon_bool canon_tup canon_agg canon_leafA canon_innerA canon_nodeA canon_ints' rowLen_ints0 seen_ints0 canon_ints0 rowLen_ints1 seen_ints1 canon_ints1 rowLen_ints2 seen_ints2 canon_ints2 rowLen_ints3 seen_ints3 canon_ints3 rowLen_octs seen_octs canon_octs' szOk_octs rowLen_octs0 seen_octs0 canon_octs0 rowLen_octs1 seen_octs1 canon_octs1 rowLen_octs2 seen_octs2 canon_octs2 rowLen_octs3 seen_octs3 canon_octs3 rowLen_intss seen_intss canon_intss' szOk_intss rowLen_intss0 seen_intss0 canon_intss0 rowLen_intss1 seen_intss1 canon_intss1 rowLen_intss2 seen_intss2 canon_intss2 rowLen_intss3 seen_intss3 canon_intss3 rowLen_octss seen_octss canon_octss' szOk_octss rowLen_octss0 seen_octss0 canon_octss0 rowLen_octss1 seen_octss1 canon_octss1 rowLen_octss2 seen_octss2 canon_octss2 rowLen_octss3 seen_octss3 canon_octss3 rowLen_nodes seen_nodes canon_nodes' szOk_nodes rowLen_nodes0 seen_nodes0 canon_nodes0 rowLen_nodes1 seen_nodes1 canon_nodes1 rowLen_nodes2 seen_nodes2 canon_nodes2 rowLen_nodes3 seen_nodes3 canon_nodes3 seen_list cells_int oneIn_int cells_bool oneIn_bool cells_str oneIn_str cells_list oneIn_list cells_func oneIn_func cells_nilfunc oneIn_nilfunc cells_iptr oneIn_iptr cells_iface oneIn_iface cells_nilIface oneIn_nilIface cells_own cells_ptr cells_anybool oneIn_anybool cells_agg oneIn_own0 oneIn_ptr0 seenL0 seenM0 oneIn_own1 oneIn_ptr1 seenL1 seenM1 oneIn_own2 oneIn_ptr2 seenL2 seenM2 oneIn_own3 oneIn_ptr3 seenL3 seenM3 oneIn_own4 oneIn_ptr4 seenL4 seenM4 oneIn_own5 oneIn_ptr5 seenL5 seenM5 cells_ints oneIn_ints cells_octs oneIn_octs cells_intss oneIn_intss cells_octss oneIn_octss cells_nodes oneIn_nodes ldB0 ldA0 adB0 stB0 ldB1 ldA1 adB1 stB1 ldB2 ldA2 adB2 stB2 ldB3 ldA3 adB3 stB3 ldB4 ldA4 adB4 stB4 ldB5 ldA5 adB5 stB5 List.getElem?_cons_zero List.getElem?_cons_succ beq_self_eq_true splice List.take_zero List.take_succ_cons List.drop_zero List.drop_succ_cons List.append_nil List.set_cons_zero List.set_cons_succ List.all_cons List.all_nil Bool.and_self and_self and_true true_and Nat.lt_irrefl Nat.zero_lt_one Nat.le_refl fillA evNil notA Bool.false_eq_true evMin_int evMax_int Option.map_none freezeP_all_nil freezeP_all_cons frzE_box frzE_arr frzE_dead foldA List.foldlM_cons List.foldlM_nil
attribute [local simp] envL_cons envL_nil idb_int idb_bool idb_str idb_ints idb_nil idb_own idb_ptr entB_ints' idb_octs entB_octs idb_intss entB_intss idb_octss entB_octss idb_nodes entB_nodes idb_leafA idb_innerA idb_nodeA idb_agg idb_tup idb_iptr idb_fn idb_undef entB_dead entB_box

def encSet : Enc (List Int) where
  f := setA
  sz := 1
  pos := by decide
  cells := fun _ => rfl
  one := fun _ _ => rfl
  idb := fun a y hy => by
    simp only [setA, AV.cells, List.mem_singleton] at hy; subst hy; exact encI64.idb_row 0 a
  norm := fun H k a => by cases k <;> simp [setA, derefN, norm_ints]

theorem putS_length (s : List Int) (x : Int) : (putS s x).length ≤ s.length + 1 := by
  unfold putS
  split
  · omega
  · unfold pushF; rw [upF_len]; simp
theorem cutF_length (s : List Int) (k : Nat) : (cutF s k).length ≤ s.length := by
  unfold cutF
  split
  · rw [List.length_take]; omega
  · simp only
    split
    · rw [List.length_take, downF_len, swapL_length]; omega
    · rw [List.length_take, upF_len, downF_len, swapL_length]; omega
theorem dropS_length (s : List Int) (x : Int) : (dropS s x).length ≤ s.length := by
  unfold dropS
  split
  · exact cutF_length _ _
  · omega
theorem takeS_length (s : List Int) : (takeS s).length ≤ s.length := by
  unfold takeS
  split
  · unfold popF; rw [List.length_take, downF_len, swapL_length]; omega
  · omega

/-- What has come of the first k rounds. -/
structure Stays (l : List Int) (k : Nat) (sets had : List (List Int)) : Prop where
  nsets : sets.length = k + 1
  nhad : had.length = k
  eq : ∀ j (h1 : j < had.length) (h2 : j < sets.length), had[j] = sorted sets[j]
  len : ∀ j (h : j < sets.length), sets[j].length ≤ 100 + 2 * j

theorem Stays.step {l : List Int} {k : Nat} {sets had : List (List Int)} (h : Stays l k sets had) (hk : k < sets.length) {s : List Int} (hs : s.length ≤ sets[k].length + 2) : Stays l (k + 1) (sets ++ [s]) (had ++ [sorted sets[k]]) := by
  have h1 := h.nsets
  have h2 := h.nhad
  refine ⟨by simp [h1], by simp [h2], fun j g1 g2 => ?_, fun j g => ?_⟩
  · rw [List.length_append] at g1
    simp only [List.length_cons, List.length_nil] at g1
    rcases Nat.lt_or_ge j k with hj | hj
    · rw [List.getElem_append_left (by omega), List.getElem_append_left (by omega)]
      exact h.eq j (by omega) (by omega)
    · obtain rfl : j = k := by omega
      rw [List.getElem_append_right (by omega), List.getElem_append_left (by omega)]
      simp [h2]
  · rcases Nat.lt_or_ge j sets.length with hj | hj
    · rw [List.getElem_append_left hj]; exact h.len j hj
    · rw [List.length_append] at g
      simp only [List.length_cons, List.length_nil] at g
      rw [List.getElem_append_right hj]
      have := h.len k hk
      simp; omega

theorem WP.at {r : Option Nat} {N b : Nat} {ic : IC} {Q : Exit → St → Prop} {env : Env} {H H' : List Entry} (e : H = H') (h : WP seat r N b ic Q ⟨env, H'⟩) : WP seat r N b ic Q ⟨env, H⟩ := by rw [e]; exact h
theorem derefRow_had {G : List Entry} {had : List (List Int)} {S : List Int} {v3 : Nat} (hG : G[3]? = some (.frz 1 v3 (S.map (AV.int .i64)))) : (had.map encInts.f ++ [AV.own 3 v3 0 S.length]).map (derefN G 1) = (had ++ [S]).map encInts.f := by
  rw [List.map_append, List.map_append, List.map_map]
  congr 1
  · exact List.map_congr_left fun a _ => encInts.norm G 1 a
  · simp [derefN, hG, encInts, ints, List.take_of_length_le]

set_option maxRecDepth 100000 in
set_option maxHeartbeats 2000000 in
theorem freeStays_spec (l put drop : List Int) : Fun seat 7 [ints l, ints put, ints drop] (.bool true) := by
  refine Fun.bd fun hbd => ?_
  have hlb : l.length ≤ 9223372036854775807 := encI64.bd_len (t := false) hbd (by simp [ints, encI64])
  have hpb : put.length ≤ 9223372036854775807 := encI64.bd_len (t := false) hbd (by simp [ints, encI64])
  have hdb : drop.length ≤ 9223372036854775807 := encI64.bd_len (t := false) hbd (by simp [ints, encI64])
  refine Fun.of0W told7 (by simp [il7]) (by simp ) (by simp ) 1 ?_
  simp only [il7, List.zipIdx_cons, List.zipIdx_nil, Nat.zero_add, List.map_cons, List.map_nil, Nat.reduceAdd]
  refine WP.seqH fun K hK => ?_
  simp only [go_sem, Nat.reduceEqDiff, reduceIte, Nat.reduceAdd, Nat.reduceLeDiff, Nat.reduceLT, Nat.reduceSub]
  refine hK _ (WP.seqH ?_); clear hK K; intro K hK
  simp only [go_sem, Nat.reduceEqDiff, reduceIte, Nat.reduceAdd, Nat.reduceLeDiff, Nat.reduceLT, Nat.reduceSub]
  refine Callee.f told9 free_awake ?_
  simp only [go_sem, Nat.reduceEqDiff, reduceIte, Nat.reduceAdd, Nat.reduceLeDiff, Nat.reduceLT, Nat.reduceSub]
  refine hK _ (WP.seqH ?_); clear hK K; intro K hK
  have hn : ∃ n : Nat, n ≤ 40 ∧ n ≤ put.length ∧ n ≤ drop.length ∧ (if (40 : Int) < (if (drop.length : Int) < (put.length : Int) then (drop.length : Int) else (put.length : Int)) then (40 : Int) else (if (drop.length : Int) < (put.length : Int) then (drop.length : Int) else (put.length : Int))) = (n : Int) := by
    refine ⟨min 40 (min put.length drop.length), by omega, by omega, by omega, ?_⟩
    split <;> split <;> omega
  obtain ⟨n, hn1, hn2, hn3, hn4⟩ := hn
  simp only [go_sem, Nat.reduceEqDiff, reduceIte, Nat.reduceAdd, Nat.reduceLeDiff, Nat.reduceLT, Nat.reduceSub, rowLen_ints, hn4]
  refine hK _ (WP.seqH ?_); clear hK K; intro K hK
  simp only [go_sem, Nat.reduceEqDiff, reduceIte, Nat.reduceAdd, Nat.reduceLeDiff, Nat.reduceLT, Nat.reduceSub, rowLen_ints]
  refine ⟨fun _ => trivial, fun hle => ?_⟩
  have hl : l.length ≤ 100 := by omega
  refine hK _ (WP.seqH ?_); clear hK K; intro K hK
  simp only [go_sem, Nat.reduceEqDiff, reduceIte, Nat.reduceAdd, Nat.reduceLeDiff, Nat.reduceLT, Nat.reduceSub]
  refine Callee.f told10 (of10_spec l (by omega)) ?_
  have hbs : evBslice ([] : List Entry) 1 1 (.agg [.list true []]) [(0, setA (rise l))] = some (.own 0 0 0 ([rise l] : List (List Int)).length, [.arr 1 0 (([rise l] : List (List Int)).map encSet.f)]) := rfl
  simp only [go_sem, Nat.reduceEqDiff, reduceIte, Nat.reduceAdd, Nat.reduceLeDiff, Nat.reduceLT, Nat.reduceSub, hbs]
  refine hK _ (WP.seqH ?_); clear hK K; intro K hK
  simp only [go_sem, Nat.reduceEqDiff, reduceIte, Nat.reduceAdd, Nat.reduceLeDiff, Nat.reduceLT, Nat.reduceSub]
  refine hK _ ?_
  refine WP.adopt 10 1 rfl ?_
  refine WP.seqH fun K hK => ?_
  simp only [go_sem, Nat.reduceEqDiff, reduceIte, Nat.reduceAdd, Nat.reduceLeDiff, Nat.reduceLT, Nat.reduceSub, upd_envL]
  refine WP.loopG (fun a : Nat × List (List Int) × List (List Int) × Nat × Nat => a.1 ≤ n ∧ Stays l a.1 a.2.1 a.2.2.1)
    (fun a => [(1, ints put), (2, ints drop), (7, .bool true), (8, .int .i64 n), (9, .own 0 a.2.2.2.1 0 a.2.1.length), (10, .own 1 a.2.2.2.2 0 a.2.2.1.length), (11, .int .i64 a.1)])
    (fun a => [.arr 1 a.2.2.2.1 (a.2.1.map encSet.f), .arr 1 a.2.2.2.2 (a.2.2.1.map encInts.f)]) (fun a => n - a.1) (0, [rise l], [], 0, 0)
    ⟨Nat.zero_le _, ⟨rfl, rfl, fun j h => by simp at h, fun j h => by
      simp only [List.length_cons, List.length_nil] at h
      obtain rfl : j = 0 := by omega
      have := length_rise_le l
      simp; omega⟩⟩
    (fun a _ => ⟨by simp, by simp , fun e he => by
      simp only [List.mem_cons, List.not_mem_nil, or_false] at he
      rcases he with rfl | rfl
      · exact encSet.entB _ _ _ _
      · exact encInts.entB _ _ _ _⟩) ⟨by simp , by simp⟩ ?_
  · rintro ⟨k, sets, had, v, w⟩ ⟨hk, hst⟩
    simp only at hk hst
    have e1 := hst.nsets
    have e2 := hst.nhad
    refine WP.seqH fun K1 hK1 => ?_
    simp only [go_sem, Nat.reduceEqDiff, reduceIte, Nat.reduceAdd, Nat.reduceLeDiff, Nat.reduceLT, Nat.reduceSub]
    refine ⟨fun h => ?_, fun h => ?_⟩
    · have hk' : k < n := by omega
      have hks : k < sets.length := by omega
      have hw1 : IntKind.i64.wrap ((sets.length : Int) - 1) = (k : Int) := by rw [wrap64 _ (by omega) (by omega)]; omega
      have r0 : rowLen [Entry.arr 1 v (sets.map encSet.f), .arr 1 w (had.map encInts.f)] (.own 0 v 0 sets.length) = some sets.length := encSet.rowLen_own (l := sets) rfl
      have x0 : evIndex [Entry.arr 1 v (sets.map encSet.f), .arr 1 w (had.map encInts.f)] 1 (.own 0 v 0 sets.length) (.int .i64 (k : Int)) = some (.eptr 0 v k 0) := encSet.index_own rfl hks
      have l0 : evLoad [Entry.arr 1 v (sets.map encSet.f), .arr 1 w (had.map encInts.f)] true 1 (.eptr 0 v k 0) = some (setA sets[k]) := encSet.loadA_own (F := fun l => [ints l]) rfl hks (fun _ => rfl) (fun _ => rfl)
      refine hK1 _ (WP.seqV fun K2 hK2 => ?_)
      refine WP.block (WP.seqH fun K3 hK3 => ?_)
      simp only [go_sem, Nat.reduceEqDiff, reduceIte, Nat.reduceAdd, Nat.reduceLeDiff, Nat.reduceLT, Nat.reduceSub, r0, hw1, x0, l0, setA]
      refine hK3 _ (WP.seqH fun K4 hK4 => ?_)
      have hsk := hst.len k hks
      simp only [go_sem, Nat.reduceEqDiff, reduceIte, Nat.reduceAdd, Nat.reduceLeDiff, Nat.reduceLT, Nat.reduceSub, setA]
      refine Callee.f told11 (all11_spec _ (by omega)) ?_
      simp only [go_sem, Nat.reduceEqDiff, reduceIte, Nat.reduceAdd, Nat.reduceLeDiff, Nat.reduceLT, Nat.reduceSub]
      generalize hS : sorted sets[k] = S at *
      have hSl : S.length = sets[k].length := by rw [← hS, sorted_length]
      obtain ⟨v3, ap1⟩ : ∃ v3, evAppend [Entry.arr 1 v (sets.map encSet.f), .arr 1 w (had.map encInts.f), .box [ints sets[k]], .arr 1 0 []] 1 8 (.own 3 0 0 0) (S.map (AV.int .i64)) = some (.own 3 v3 0 S.length, [Entry.arr 1 v (sets.map encSet.f), .arr 1 w (had.map encInts.f), .box [ints sets[k]], .arr 1 v3 (S.map (AV.int .i64))]) :=
        encI64.app_any (H := [Entry.arr 1 v (sets.map encSet.f), .arr 1 w (had.map encInts.f), .box [ints sets[k]], .arr 1 0 []]) (id := 3) (ver := 0) (l := []) rfl (by unfold maxRow; simp; omega) (by decide)
      have bs1 : evBslice [Entry.arr 1 v (sets.map encSet.f), .arr 1 w (had.map encInts.f), .box [ints sets[k]], .arr 1 v3 (S.map (AV.int .i64))] 1 1 (.list true []) [(0, .own 3 v3 0 S.length)] = some (.own 4 0 0 1, [Entry.arr 1 v (sets.map encSet.f), .arr 1 w (had.map encInts.f), .box [ints sets[k]], .arr 1 v3 (S.map (AV.int .i64)), .arr 1 0 [.own 3 v3 0 S.length]]) := bslice1 _ _ _ rfl rfl rfl (by simp [AV.oneIn])
      have sn1 : seen [Entry.arr 1 v (sets.map encSet.f), .arr 1 w (had.map encInts.f), .box [ints sets[k]], .arr 1 v3 (S.map (AV.int .i64)), .arr 1 0 [.own 3 v3 0 S.length]] (.own 4 0 0 1) = some [.own 3 v3 0 S.length] := rfl
      have ap2 : evAppend [Entry.arr 1 v (sets.map encSet.f), .arr 1 w (had.map encInts.f), .box [ints sets[k]], .arr 1 v3 (S.map (AV.int .i64)), .arr 1 0 [.own 3 v3 0 S.length]] 1 24 (.own 1 w 0 had.length) [.own 3 v3 0 S.length] = some (.own 1 (w + 1) 0 (had.length + 1), [Entry.arr 1 v (sets.map encSet.f), .arr 1 (w + 1) (had.map encInts.f ++ [.own 3 v3 0 S.length]), .box [ints sets[k]], .arr 1 v3 (S.map (AV.int .i64)), .arr 1 0 [.own 3 v3 0 S.length]]) := by
        rw [Al.app_own (xs := had.map encInts.f) rfl (by simp) (by unfold maxRow; simp; omega) (by decide) (by decide) (by simp) (by simp [szOk, AV.cells, AV.oneIn]), List.take_of_length_le (by simp)]
        rfl
      simp only [go_sem, Nat.reduceEqDiff, reduceIte, Nat.reduceAdd, Nat.reduceLeDiff, Nat.reduceLT, Nat.reduceSub, ap1, bs1, sn1, ap2]
      refine hK4 _ ?_
      refine WP.freeze (fun i => i == 3) ?_
      refine WP.derefRow 1 1 (sz := 1) (ver := w + 1) (xs := had.map encInts.f ++ [.own 3 v3 0 S.length]) rfl ?_
      rw [derefRow_had (v3 := v3) rfl]
      refine WP.sealB 12 2 (cs := [ints sets[k]]) rfl rfl ?_
      refine WP.seqV fun K5 hK5 => ?_
      refine WP.slots (l := [(1, ints put), (2, ints drop), (7, .bool true), (8, .int .i64 n), (9, .own 0 v 0 sets.length), (10, .own 1 (w + 1) 0 (had ++ [S]).length), (11, .int .i64 k), (12, .iptr [ints sets[k]] 0)]) (by simp [upd_envL]) ?_
      refine WP.at (H' := [.arr 1 v (sets.map encSet.f), .arr 1 (w + 1) ((had ++ [S]).map encInts.f), .dead, .frz 1 v3 (S.map (AV.int .i64)), .arr 1 0 [.own 3 v3 0 S.length]]) rfl ?_
      have hkp : k < put.length := by omega
      have hkd : k < drop.length := by omega
      have s1 := putS_length sets[k] put[k]
      have s2 := dropS_length (putS sets[k] put[k]) drop[k]
      have s3 := takeS_length (dropS (putS sets[k] put[k]) drop[k])
      have c1 := put16_spec sets[k] put[k] (by omega)
      have c2 := drop19_spec (putS sets[k] put[k]) drop[k] (by omega)
      have c3 := take12_spec (dropS (putS sets[k] put[k]) drop[k]) (by omega)
      generalize putS sets[k] put[k] = t1 at s1 s2 s3 c1 c2 c3
      generalize dropS t1 drop[k] = t2 at s2 s3 c2 c3
      generalize takeS t2 = t3 at s3 c3
      generalize at' t2 0 = y0 at c3
      generalize decide (0 < t2.length) = y1 at c3
      refine WP.drawE mixed [.l, .l, .l, .l, .l, .l, .l, .l, .l, .l, .l, .l, .l, .l, .l, .l, .h 0, .h 1, .l, .l] (by decide) (fun j => .arr 1 v (sets.map encSet.f) :: .arr 1 (w + 1) ((had ++ [S]).map encInts.f) :: .dead :: .frz 1 v3 (S.map (AV.int .i64)) :: .arr 1 0 [.own 3 v3 0 S.length] :: (match j with
        | 0 => []
        | 1 => [.box [.list true []]]
        | _ => [.box [ints t3]])) 2 (E := ?E) rfl ?q ?d
      case d =>
        iterate 5 (refine .light rfl (fun j _ => (by simp only [evalOp, Opd.ev, envL_cons, Nat.reduceEqDiff, reduceIte, Option.map_some, index_ints _ put k hkp, index_ints _ drop k hkd, go_sem, Nat.reduceEqDiff, reduceIte, Nat.reduceAdd, Nat.reduceLeDiff, Nat.reduceLT, Nat.reduceSub]; first | done | rfl)) ?_; simp only [updo_envL, setL_cons, setL_nil, Nat.reduceEqDiff, reduceIte])
        simp only [List.append_eq, go_sem, Nat.reduceEqDiff, reduceIte, Nat.reduceAdd, Nat.reduceLeDiff, Nat.reduceLT, Nat.reduceSub] at *
        refine DR.lightC rfl (fun j _ => by simp only [Opd.ev, envL_cons, Nat.reduceEqDiff, reduceIte, List.map_cons, List.map_nil]; exact CallF.f told16 c1) ?_
        simp only [updo_envL, setL_cons, setL_nil, Nat.reduceEqDiff, reduceIte]
        iterate 4 (refine .light rfl (fun j _ => (by simp only [evalOp, Opd.ev, envL_cons, Nat.reduceEqDiff, reduceIte, Option.map_some, index_ints _ put k hkp, index_ints _ drop k hkd, go_sem, Nat.reduceEqDiff, reduceIte, Nat.reduceAdd, Nat.reduceLeDiff, Nat.reduceLT, Nat.reduceSub]; first | done | rfl)) ?_; simp only [updo_envL, setL_cons, setL_nil, Nat.reduceEqDiff, reduceIte])
        refine DR.lightC rfl (fun j _ => by simp only [Opd.ev, envL_cons, Nat.reduceEqDiff, reduceIte, List.map_cons, List.map_nil]; exact CallF.f told19 c2) ?_
        simp only [updo_envL, setL_cons, setL_nil, Nat.reduceEqDiff, reduceIte]
        refine DR.lightC rfl (fun j _ => by simp only [Opd.ev, envL_cons, Nat.reduceEqDiff, reduceIte, List.map_cons, List.map_nil]; exact CallF.f told12 c3) ?_
        simp only [updo_envL, setL_cons, setL_nil, Nat.reduceEqDiff, reduceIte]
        iterate 4 (refine .light rfl (fun j _ => (by simp only [evalOp, Opd.ev, envL_cons, Nat.reduceEqDiff, reduceIte, Option.map_some, go_sem, Nat.reduceEqDiff, reduceIte, Nat.reduceAdd, Nat.reduceLeDiff, Nat.reduceLT, Nat.reduceSub]; first | done | rfl)) ?_; simp only [updo_envL, setL_cons, setL_nil, Nat.reduceEqDiff, reduceIte])
        refine DR.heavy (v := .ptr 5 0) rfl rfl ?_
        simp only [updo_envL, setL_cons, setL_nil, Nat.reduceEqDiff, reduceIte]
        refine DR.heavy (v := .undef) rfl (by simp only [evalOp, Opd.ev, envL_cons, Nat.reduceEqDiff, reduceIte]; rw [store_box1 (u := .list true []) (v := setA t3) (x := ints t3) rfl rfl rfl]; rfl) ?_
        simp only [updo_none]
        iterate 2 (refine .light rfl (fun j _ => (by simp only [evalOp, Opd.ev, envL_cons, Nat.reduceEqDiff, reduceIte, Option.map_some, go_sem, Nat.reduceEqDiff, reduceIte, Nat.reduceAdd, Nat.reduceLeDiff, Nat.reduceLT, Nat.reduceSub]; first | done | rfl)) ?_; simp only [updo_envL, setL_cons, setL_nil, Nat.reduceEqDiff, reduceIte])
        exact .nil
      case q =>
        refine hK5 _ ?_
        refine WP.sealB 13 5 (cs := [ints t3]) rfl rfl ?_
        refine WP.slots (l := [(1, ints put), (2, ints drop), (7, .bool true), (8, .int .i64 n), (9, .own 0 v 0 sets.length), (10, .own 1 (w + 1) 0 (had ++ [S]).length), (11, .int .i64 k), (13, .iptr [ints t3] 0)]) (by simp [upd_envL]) ?_
        refine WP.at (H' := [.arr 1 v (sets.map encSet.f), .arr 1 (w + 1) ((had ++ [S]).map encInts.f), .dead, .frz 1 v3 (S.map (AV.int .i64)), .arr 1 0 [.own 3 v3 0 S.length], .dead]) rfl ?_
        have c4 := put16_spec t3 put[k] (by omega)
        have s4 := putS_length t3 put[k]
        generalize putS t3 put[k] = t4 at c4 s4
        refine WP.drawE mixed [.l, .l, .l, .l, .l, .l, .l, .h 0, .h 1, .l] (by decide) (fun j => match j with
          | 0 => [.arr 1 v (sets.map encSet.f), .arr 1 (w + 1) ((had ++ [S]).map encInts.f), .dead, .frz 1 v3 (S.map (AV.int .i64)), .arr 1 0 [.own 3 v3 0 S.length], .dead]
          | 1 => [.arr 1 v (sets.map encSet.f), .arr 1 (w + 1) ((had ++ [S]).map encInts.f), .dead, .frz 1 v3 (S.map (AV.int .i64)), .arr 1 0 [.own 3 v3 0 S.length], .dead, .arr 1 0 [setA t4]]
          | _ => [.arr 1 (v + 1) ((sets ++ [t4]).map encSet.f), .arr 1 (w + 1) ((had ++ [S]).map encInts.f), .dead, .frz 1 v3 (S.map (AV.int .i64)), .arr 1 0 [.own 3 v3 0 S.length], .dead, .arr 1 0 [setA t4]]) 2 (E := ?E2) rfl ?q2 ?d2
        case d2 =>
          iterate 6 (refine .light rfl (fun j _ => (by simp only [evalOp, Opd.ev, envL_cons, Nat.reduceEqDiff, reduceIte, Option.map_some, index_ints _ put k hkp, go_sem, Nat.reduceEqDiff, reduceIte, Nat.reduceAdd, Nat.reduceLeDiff, Nat.reduceLT, Nat.reduceSub]; first | done | rfl)) ?_; simp only [updo_envL, setL_cons, setL_nil, Nat.reduceEqDiff, reduceIte])
          refine DR.lightC rfl (fun j _ => by simp only [Opd.ev, envL_cons, Nat.reduceEqDiff, reduceIte, List.map_cons, List.map_nil]; exact CallF.f told16 c4) ?_
          simp only [updo_envL, setL_cons, setL_nil, Nat.reduceEqDiff, reduceIte]
          refine DR.heavy (v := .own 6 0 0 1) rfl rfl ?_
          simp only [updo_envL, setL_cons, setL_nil, Nat.reduceEqDiff, reduceIte]
          have ap4 : evAppend [.arr 1 v (sets.map encSet.f), .arr 1 (w + 1) ((had ++ [S]).map encInts.f), .dead, .frz 1 v3 (S.map (AV.int .i64)), .arr 1 0 [.own 3 v3 0 S.length], .dead, .arr 1 0 [setA t4]] 1 24 (.own 0 v 0 sets.length) [setA t4] = some (.own 0 (v + 1) 0 (sets ++ [t4]).length, [.arr 1 (v + 1) ((sets ++ [t4]).map encSet.f), .arr 1 (w + 1) ((had ++ [S]).map encInts.f), .dead, .frz 1 v3 (S.map (AV.int .i64)), .arr 1 0 [.own 3 v3 0 S.length], .dead, .arr 1 0 [setA t4]]) := encSet.app_own rfl (by unfold maxRow; omega) (by decide)
          refine DR.heavy (v := .own 0 (v + 1) 0 (sets ++ [t4]).length) rfl (by
            simp only [evalOp, Opd.ev, envL_cons, Nat.reduceEqDiff, reduceIte]
            exact ap4) ?_
          simp only [updo_envL, setL_cons, setL_nil, Nat.reduceEqDiff, reduceIte]
          refine .light rfl (fun j _ => rfl) ?_
          simp only [updo_envL, setL_cons, setL_nil, Nat.reduceEqDiff, reduceIte]
          exact .nil
        case q2 =>
          refine hK2 _ (wpc_sound ?_)
          simp only [go_sem, Nat.reduceEqDiff, reduceIte, Nat.reduceAdd, Nat.reduceLeDiff, Nat.reduceLT, Nat.reduceSub]
          refine ⟨(k + 1, sets ++ [t4], had ++ [S], v + 1, w + 1), ⟨hk', ?_⟩, by simp; omega, by simp [wrapS (show k < 9223372036854775807 by omega)], rfl⟩
          rw [← hS]
          exact hst.step hks (by omega)
    · have hke : k = n := by omega
      refine hK _ ?_
      refine WP.freeze (fun _ => true) ?_
      refine WP.deref 9 2 ?_
      refine WP.deref 10 2 ?_
      have d9 : ∀ G : List Entry, G[0]? = some (.frz 1 v (sets.map encSet.f)) → derefN G 2 (.own 0 v 0 sets.length) = encSet.row sets := fun G h => by
        rw [derefN, h]
        simp only [true_and, List.length_map, Nat.le_refl, if_true, Enc.row, List.drop_zero]
        rw [← List.map_take, List.take_length, List.map_map]
        exact congrArg (AV.list false) (List.map_congr_left fun a _ => encSet.norm G 1 a)
      have d10 : ∀ G : List Entry, G[1]? = some (.frz 1 w (had.map encInts.f)) → derefN G 2 (.own 1 w 0 had.length) = encInts.row had := fun G h => by
        rw [derefN, h]
        simp only [true_and, List.length_map, Nat.le_refl, if_true, Enc.row, List.drop_zero]
        rw [← List.map_take, List.take_length, List.map_map]
        exact congrArg (AV.list false) (List.map_congr_left fun a _ => encInts.norm G 1 a)
      refine WP.slots (l := [(7, .bool true), (9, encSet.row sets), (10, encInts.row had)]) (by
        intro p hp
        simp only [List.mem_cons, List.not_mem_nil, or_false] at hp
        rcases hp with rfl | rfl | rfl
        · rfl
        · exact d9 (freezeP (fun _ => true) [.arr 1 v (sets.map encSet.f), .arr 1 w (had.map encInts.f)]) rfl
        · exact d10 (freezeP (fun _ => true) [.arr 1 v (sets.map encSet.f), .arr 1 w (had.map encInts.f)]) rfl) ?_
      refine WP.seqV fun K5 hK5 => WP.seqH fun K6 hK6 => ?_
      simp only [go_sem, Nat.reduceEqDiff, reduceIte, Nat.reduceAdd, Nat.reduceLeDiff, Nat.reduceLT, Nat.reduceSub]
      refine hK6 _ (WP.block ?_)
      refine WP.loop0 (fun j : Nat => j ≤ had.length) (fun j => [(7, .bool true), (9, encSet.row sets), (10, encInts.row had), (16, .int .i64 j)]) (fun j => had.length - j) 0 (Nat.zero_le _)
        (fun j _ => by simp [encSet.idb_row, encInts.idb_row]) (by simp ) ?_
      intro j hj
      refine WP.seqH fun K7 hK7 => ?_
      simp only [go_sem, Nat.reduceEqDiff, reduceIte, Nat.reduceAdd, Nat.reduceLeDiff, Nat.reduceLT, Nat.reduceSub, encInts.rowLen]
      refine ⟨fun h => ?_, fun h => ?_⟩
      · have hjh : j < had.length := by omega
        have hjs : j < sets.length := by omega
        have hq := hst.eq j hjh hjs
        have hsk := hst.len j hjs
        have i9 : evIndex [] 1 (encSet.row sets) (.int .i64 (j : Int)) = some (.iptr [ints sets[j]] 0) := encSet.index [] sets j hjs
        have i10 : evIndex [] 1 (encInts.row had) (.int .i64 (j : Int)) = some (.iptr [ints had[j]] 0) := encInts.index [] had j hjh
        have la : ∀ s : List Int, evLoad [] true 1 (.iptr [ints s] 0) = some (.agg [ints s]) := fun _ => rfl
        have lb : ∀ s : List Int, evLoad [] false 1 (.iptr [ints s] 0) = some (ints s) := fun _ => rfl
        refine hK7 _ (WP.seqV fun K8 hK8 => WP.block (WP.seqV fun K9 hK9 => ?_))
        refine WP.drawL mixed (by decide) ?_
        simp only [go_sem, Nat.reduceEqDiff, reduceIte, Nat.reduceAdd, Nat.reduceLeDiff, Nat.reduceLT, Nat.reduceSub, i9, i10, la, lb, setA]
        refine ⟨_, CallF.f told11 (all11_spec sets[j] (by omega)), ?_⟩
        rw [← hq]
        simp only [go_sem, Nat.reduceEqDiff, reduceIte, Nat.reduceAdd, Nat.reduceLeDiff, Nat.reduceLT, Nat.reduceSub, i9, i10, la, lb, setA]
        refine ⟨_, CallF.f told17 (same_spec _ _), ?_⟩
        simp only [go_sem, Nat.reduceEqDiff, reduceIte, Nat.reduceAdd, Nat.reduceLeDiff, Nat.reduceLT, Nat.reduceSub, i9, i10, la, lb, setA, decide_true, decide_false, ne_eq, not_true_eq_false]
        have he : had[j].length = sets[j].length := by rw [hq, sorted_length]
        refine ⟨_, CallF.f told13 (len13_spec sets[j]), ?_⟩
        simp only [go_sem, Nat.reduceEqDiff, reduceIte, Nat.reduceAdd, Nat.reduceLeDiff, Nat.reduceLT, Nat.reduceSub, i9, i10, la, lb, setA, rowLen_ints, he, decide_true, decide_false, ne_eq, not_true_eq_false]
        refine hK9 _ (wpc_sound ?_)
        simp only [go_sem, Nat.reduceEqDiff, reduceIte, Nat.reduceAdd, Nat.reduceLeDiff, Nat.reduceLT, Nat.reduceSub]
        refine hK8 _ (wpc_sound ?_)
        simp only [go_sem, Nat.reduceEqDiff, reduceIte, Nat.reduceAdd, Nat.reduceLeDiff, Nat.reduceLT, Nat.reduceSub]
        exact ⟨j + 1, hjh, by omega, by simp [wrapS (show j < 9223372036854775807 by omega)]⟩
      · refine hK5 _ (wpc_sound ?_)
        simp only [go_sem, Nat.reduceEqDiff, reduceIte, Nat.reduceAdd, Nat.reduceLeDiff, Nat.reduceLT, Nat.reduceSub]

end Go.Proofs.Ytfifhibajpgpmaa.Al
