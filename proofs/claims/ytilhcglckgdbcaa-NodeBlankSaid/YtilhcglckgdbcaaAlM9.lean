/-
  SPECS: numbers (the document's).
-/
import Derived.Test.YtilhcglckgdbcaaAlM8
set_option linter.unusedSimpArgs false
set_option linter.unusedVariables false
namespace Go.Proofs.Ytilhcglckgdbcaa.Al
open Go
attribute [local go_sem] W_mv W_pick W_alloc W_box W_build W_bslice W_load W_store W_nilck W_bin W_isnil W_un W_convI W_convS W_mkiface W_mkfunc W_mkslice W_slice W_faddr W_field W_iaddr W_iaddrA W_idxA W_extract W_len W_lenS W_lenA W_min W_max W_append W_appendZ W_copy W_clear W_tassert W_invoke thenQ_normal thenQ_exit thenQ_goto thenQ_ret blockQ_normal blockQ_ret blockQ_goto blockQ_exit wpc_skip wpc_region wpc_draw wpc_seq wpc_cond wpc_block wpc_exit wpc_goto wpc_label wpc_ret wpc_loop wpc_range wpc_scope condW_true condW_false condW_dec condW_any W_nil W_call resW_some evalOp Opd.ev updo_envL updo_none setL_cons setL_nil envL_cons Option.map_some Option.bind_some evBin evInt List.map_cons List.map_nil Option.pure_def Option.bind_eq_bind W_grd' grdW_tt grdW_ff grdW_tf grdW_ft grdW_tup grdW_dt grdW_df lgrdW_tt lgrdW_ff lgrdW_tf lgrdW_ft lgrdW_tup lgrdW_dt lgrdW_df L_mv L_pick L_alloc L_box L_build L_bslice L_load L_store L_nilck L_bin L_isnil L_un L_convI L_convS L_mkiface L_mkfunc L_mkslice L_slice L_faddr L_field L_iaddr L_iaddrA L_idxA L_extract L_len L_lenS L_lenA L_min L_max L_append L_appendZ L_copy L_clear L_tassert L_nil L_call L_grd lresW_some upd_envL evUn beq_dec bne_dec leaves_ret1 leaves_end1 leaves_ret0 leaves_end0 leaves_ret2 leaves_ret3 rowLen_ints load_iptr0 not_dec heap_get0 heap_get1 heap_set0 heap_set1 heap_len1 heap_len2 heap_app heap_app2 bslice1_int seen_ints seen_one0 seen_one1 seen_one2 rowLen_own0 bslice0_int rowLen_own1 Nat.sub_zero Bool.not_true Bool.not_false
attribute [local simp] envL_cons envL_nil idb_int idb_bool idb_str idb_ints idb_nil idb_own idb_ptr

theorem has_spec (l : List Int) (i : Int) : Fun seat 14 [ints l, .int .i64 i] (.bool (l.contains i)) := by
  intro H
  refine ACall.bnd (t := false) (xs := l.map (AV.int .i64)) (by simp [ints]) fun hlen => ?_
  rw [List.length_map] at hlen
  refine Fun.of_wp told14 (by simp [il14]) (.bool _) (fun H hwf hi => ?_) H
  simp only [il14, List.zipIdx_cons, List.zipIdx_nil, Nat.zero_add, go_sem, Nat.reduceEqDiff, reduceIte]
  refine WP.loopF (fun k => k ≤ l.length ∧ ∀ j (hj : j < l.length), j < k → l[j] ≠ i) (fun k => ⟨envL [(0, ints l), (1, .int .i64 i), (4, .bool false), (5, .int .i64 k)], H⟩) (fun k => l.length - k) 0 (by simp) (Fits.of (by simp ) (by simp ) (by simp) hwf) (fun _ _ => Nat.le_refl _) ?_
  rintro k ⟨hk, hno⟩
  refine wpc_sound ?_
  simp only [go_sem, Nat.reduceEqDiff, reduceIte]
  refine ⟨fun h => ?_, fun h => ?_⟩
  · have hk' : k < l.length := by omega
    simp only [index_ints H l k hk', go_sem, Nat.reduceEqDiff, reduceIte]
    refine ⟨fun ht => ?_, fun ht => ?_⟩
    · simp [← ht]
    · refine ⟨k + 1, ⟨hk', fun j hj hjk => ?_⟩, by omega, Fits.of ?_ (by simp ) (by simp) hwf⟩
      · rcases Nat.lt_or_ge j k with h | h
        · exact hno j hj h
        · have : j = k := by omega
          subst this; exact ht
      · simp 
        exact wrap64 _ (by omega) (by omega)
  · refine ⟨?_, by simp⟩
    simp
    intro hmem
    obtain ⟨j, hj, e⟩ := List.getElem_of_mem hmem
    exact hno j hj (by omega) e

theorem refNumsCut_spec (l i : List Int) (hl : l.length ≤ 4294967295) : FunOwn seat 39 [ints l, ints i] 1 ((l.filter fun x => !i.contains x).map (AV.int .i64)) := by
  refine FunOwn.of_wp told39 (by simp [il39]) (fun x hx y hy => by
    obtain ⟨z, _, rfl⟩ := List.mem_map.1 hx
    simp only [AV.cells, List.mem_singleton] at hy; subst hy; exact .int _ _) (fun H hwf hi => ?_)
  simp only [il39, List.zipIdx_cons, List.zipIdx_nil, Nat.zero_add, go_sem, Nat.reduceEqDiff, reduceIte]
  refine WP.adopt 5 1 (by simp ) ?_
  let f : Nat → List AV := fun k => ((l.take k).filter fun x => !i.contains x).map (AV.int .i64)
  refine WP.loopF (fun k => k ≤ l.length) (fun k => ⟨envL [(0, ints l), (1, ints i), (6, .int .i64 k), (5, .own H.length (f k).length 0 (f k).length)], H ++ [.arr 1 (f k).length (f k)]⟩) (fun k => l.length - k) 0 (by simp) (Fits.of (by simp [upd_apply, f]) (by simp ) (by simp [f, List.take_of_length_le]) ?_) (fun _ _ => by simp) ?_
  · exact hwf.push1 (entB_ints _ _ _ _ _)
  rintro k hk
  refine wpc_sound ?_
  simp only [go_sem, Nat.reduceEqDiff, reduceIte]
  refine ⟨fun h => ?_, fun h => ?_⟩
  · have hk' : k < l.length := by omega
    simp only [index_ints _ l k hk', go_sem, Nat.reduceEqDiff, reduceIte]
    have hfk : (f k).length ≤ k := by
      simp only [f, List.length_map]
      exact Nat.le_trans (List.length_filter_le _ _) (by simp; omega)
    have hf1 : f (k + 1) = if i.contains l[k] then f k else f k ++ [.int .i64 l[k]] := by
      simp only [f, List.take_succ_eq_append_getElem hk', List.filter_append, List.map_append, List.filter_cons, List.filter_nil]
      cases i.contains l[k] <;> simp
    refine Callee.plain (Callable.of told14) (has_spec i l[k] _) ?_
    rintro _ _ ⟨rfl, rfl⟩
    simp only [go_sem, Nat.reduceEqDiff, reduceIte, index_ints _ l k hk', app_own0_int (rfl : (f k).length = _) (show (f k).length + 1 ≤ maxRow by unfold maxRow; omega) (by decide : (8 : Nat) ≤ 4096)]
    have hw : IntKind.i64.wrap ((k : Int) + 1) = ((k + 1 : Nat) : Int) := wrap64 _ (by omega) (by omega)
    have hwf' : Wf (H ++ [Entry.arr 1 (f (k + 1)).length (f (k + 1))]) := hwf.push1 (entB_ints _ _ _ _ _)
    refine condW_bool (fun ht => ?_) (fun ht => ?_)
    · have hc : i.contains l[k] = false := by simpa using ht
      rw [hc, if_neg (by simp)] at hf1
      refine ⟨k + 1, hk', by omega, Fits.of ?_ (by simp ) ?_ hwf'⟩
      · simp [hf1, hw]
      · simp [hf1, take_ext1]
    · have hc : i.contains l[k] = true := by simpa using ht
      rw [hc, if_pos rfl] at hf1
      refine ⟨k + 1, hk', by omega, Fits.of ?_ (by simp ) ?_ hwf'⟩
      · simp [hf1, hw]
      · simp [hf1, take_ext1]
  · have hke : k = l.length := by omega
    subst hke
    refine ⟨by simp, H.length, (f l.length).length, ?_, Nat.le_refl _, ?_⟩
    · simp [f]
    · simp [f]
end Go.Proofs.Ytilhcglckgdbcaa.Al
namespace Go.Proofs.Ytilhcglckgdbcaa.Al
open Go
attribute [local go_sem] W_mv W_pick W_alloc W_box W_build W_bslice W_load W_store W_nilck W_bin W_isnil W_un W_convI W_convS W_mkiface W_mkfunc W_mkslice W_slice W_faddr W_field W_iaddr W_iaddrA W_idxA W_extract W_len W_lenS W_lenA W_min W_max W_append W_appendZ W_copy W_clear W_tassert W_invoke thenQ_normal thenQ_exit thenQ_goto thenQ_ret blockQ_normal blockQ_ret blockQ_goto blockQ_exit wpc_skip wpc_region wpc_draw wpc_seq wpc_cond wpc_block wpc_exit wpc_goto wpc_label wpc_ret wpc_loop wpc_range wpc_scope condW_true condW_false condW_dec condW_any W_nil W_call resW_some evalOp Opd.ev updo_envL updo_none setL_cons setL_nil envL_cons Option.map_some Option.bind_some evBin evInt List.map_cons List.map_nil Option.pure_def Option.bind_eq_bind W_grd' grdW_tt grdW_ff grdW_tf grdW_ft grdW_tup grdW_dt grdW_df lgrdW_tt lgrdW_ff lgrdW_tf lgrdW_ft lgrdW_tup lgrdW_dt lgrdW_df L_mv L_pick L_alloc L_box L_build L_bslice L_load L_store L_nilck L_bin L_isnil L_un L_convI L_convS L_mkiface L_mkfunc L_mkslice L_slice L_faddr L_field L_iaddr L_iaddrA L_idxA L_extract L_len L_lenS L_lenA L_min L_max L_append L_appendZ L_copy L_clear L_tassert L_nil L_call L_grd lresW_some upd_envL evUn beq_dec bne_dec leaves_ret1 leaves_end1 leaves_ret0 leaves_end0 leaves_ret2 leaves_ret3 rowLen_ints load_iptr0 not_dec heap_get0 heap_get1 heap_set0 heap_set1 heap_len1 heap_len2 heap_app heap_app2 bslice1_int seen_ints seen_one0 seen_one1 seen_one2 rowLen_own0 bslice0_int rowLen_own1 Nat.sub_zero Bool.not_true Bool.not_false
attribute [local simp] envL_cons envL_nil idb_int idb_bool idb_str idb_ints idb_nil idb_own idb_ptr

theorem refNumsJoin_spec (l : List Int) (i : Int) (hl : l.length ≤ 4294967000) : FunOwn seat 22 [ints l, .int .i64 i] 1 ((rise (l ++ [i])).map (AV.int .i64)) := by
  refine FunOwn.of_wp told22 (by simp [il22]) (fun x hx y hy => by
    obtain ⟨z, _, rfl⟩ := List.mem_map.1 hx
    simp only [AV.cells, List.mem_singleton] at hy; subst hy; exact .int _ _) (fun H hwf hi => ?_)
  simp only [il22, List.zipIdx_cons, List.zipIdx_nil, Nat.zero_add, go_sem, Nat.reduceEqDiff, reduceIte]
  obtain ⟨v, hv⟩ := app_any (H := H ++ [.arr 1 0 []]) (esz := 1) (bytes := 8) (ver := 0) (ys := l.map (AV.int .i64)) (heap_get0 H [] _) rfl (by unfold maxRow; simp; omega) (by decide) (by decide) (szOk_ints _ _ _)
  simp only [List.length_nil, Nat.zero_add, List.nil_append, List.length_map, heap_set0] at hv
  simp only [hv, go_sem, Nat.reduceEqDiff, reduceIte, app_own0_int (List.length_map (AV.int .i64) : (l.map (AV.int .i64)).length = l.length) (show l.length + 1 ≤ maxRow by unfold maxRow; omega) (by decide : (8 : Nat) ≤ 4096)]
  have hall : l.map (AV.int .i64) ++ [AV.int .i64 i] = (l ++ [i]).map (AV.int .i64) := by simp
  rw [hall]
  generalize hN : l ++ [i] = all
  have hlen : all.length = l.length + 1 := by rw [← hN]; simp
  rw [← hlen]
  generalize v + 1 = u
  clear hall hv
  refine WP.fits (st' := ⟨envL [(5, .own H.length u 0 all.length), (6, .list true [])], H ++ [.arr 1 u (all.map (AV.int .i64))]⟩) (Fits.of (by simp ) (by simp ) (by simp [take_ext1]) (hwf.push1 (entB_ints _ _ _ _ _))) (by simp) ?_
  refine WP.adopt 6 1 (by simp ) ?_
  have hwf2 : ∀ r : List Int, Wf (H ++ [Entry.arr 1 u (all.map (AV.int .i64)), .arr 1 r.length (r.map (AV.int .i64))]) := fun r => hwf.push (by
    intro e he
    simp only [List.mem_cons, List.not_mem_nil, or_false] at he
    rcases he with rfl | rfl
    · exact entB_ints _ _ _ _ _
    · exact entB_ints _ _ _ _ _)
  refine WP.loopF (fun r : List Int => Rises r ∧ (∀ x ∈ r, x ∈ all) ∧ (∀ x ∈ all, x ∉ r → ∀ y ∈ r, y < x))
    (fun r => ⟨envL [(5, .own H.length u 0 all.length), (6, .own (H.length + 1) r.length 0 r.length)], H ++ [.arr 1 u (all.map (AV.int .i64)), .arr 1 r.length (r.map (AV.int .i64))]⟩)
    (fun r => all.length - r.length) [] ⟨List.Pairwise.nil, by simp, by simp⟩ (Fits.of (by simp [upd_apply]) (by simp ) (by simp [take_ext2]) (hwf2 [])) (fun _ _ => by simp) ?_
  rintro r ⟨hr1, hr2, hr3⟩
  have hrl : r.length ≤ all.length := Nat.le_trans (rises_len hr1 hr2) (length_rise_le all)
  refine wpc_sound ?_
  simp only [go_sem, Nat.reduceEqDiff, reduceIte]
  refine ⟨fun h => ?_, fun h => ?_⟩
  · have hrl' : r.length < all.length := by omega
    refine WP.loopF (fun p : Nat × Int × Bool => p.1 ≤ all.length ∧ (p.2.2 = false → ∀ j (hj : j < all.length), j < p.1 → all[j] ∈ r) ∧ (p.2.2 = true → p.2.1 ∈ all ∧ p.2.1 ∉ r ∧ ∀ j (hj : j < all.length), j < p.1 → all[j] ∉ r → p.2.1 ≤ all[j]))
      (fun p => ⟨envL [(5, .own H.length u 0 all.length), (6, .own (H.length + 1) r.length 0 r.length), (7, .int .i64 p.2.1), (8, .bool p.2.2), (9, .int .i64 p.1)], H ++ [.arr 1 u (all.map (AV.int .i64)), .arr 1 r.length (r.map (AV.int .i64))]⟩)
      (fun p => all.length - p.1) (0, 0, false) ⟨by simp, by simp, by simp⟩ (Fits.of (by simp ) (by simp ) (by simp [take_ext2]) (hwf2 r)) (fun _ _ => by simp) ?_
    rintro ⟨k, least, some'⟩ ⟨hk, hs1, hs2⟩
    simp only at hk hs1 hs2
    refine wpc_sound ?_
    simp only [go_sem, Nat.reduceEqDiff, reduceIte]
    refine ⟨fun hkl => ?_, fun hkl => ?_⟩
    · have hk' : k < all.length := by omega
      have hw : IntKind.i64.wrap ((k : Int) + 1) = ((k + 1 : Nat) : Int) := wrap64 _ (by omega) (by omega)
      simp only [index_own0 hk' rfl, load_eptr0 hk', go_sem, Nat.reduceEqDiff, reduceIte]
      refine Callee.plain (Callable.of told14) (ACall.lend 1 (r := .bool (r.contains all[k])) (by
        rw [List.map_cons, List.map_cons, List.map_nil, canon_own1 (by simp), canon_int]; exact has_spec r all[k]) (.bool _)) ?_
      rintro _ _ ⟨rfl, rfl⟩
      have next : ∀ (least' : Int) (some'' : Bool) (e : List (Nat × AV)), envL e 5 = .own H.length u 0 all.length → envL e 6 = .own (H.length + 1) r.length 0 r.length → envL e 7 = .int .i64 least' → envL e 8 = .bool some'' → envL e 9 = .int .i64 (IntKind.i64.wrap ((k : Int) + 1)) →
          (some'' = false → ∀ j (hj : j < all.length), j < k + 1 → all[j] ∈ r) → (some'' = true → least' ∈ all ∧ least' ∉ r ∧ ∀ j (hj : j < all.length), j < k + 1 → all[j] ∉ r → least' ≤ all[j]) →
          ∃ a' : Nat × Int × Bool, (a'.1 ≤ all.length ∧ (a'.2.2 = false → ∀ j (hj : j < all.length), j < a'.1 → all[j] ∈ r) ∧ (a'.2.2 = true → a'.2.1 ∈ all ∧ a'.2.1 ∉ r ∧ ∀ j (hj : j < all.length), j < a'.1 → all[j] ∉ r → a'.2.1 ≤ all[j])) ∧
            all.length - a'.1 < all.length - k ∧ Fits ⟨envL [(5, .own H.length u 0 all.length), (6, .own (H.length + 1) r.length 0 r.length), (7, .int .i64 a'.2.1), (8, .bool a'.2.2), (9, .int .i64 a'.1)], H ++ [.arr 1 u (all.map (AV.int .i64)), .arr 1 r.length (r.map (AV.int .i64))]⟩
              ⟨envL e, H ++ [.arr 1 u (all.map (AV.int .i64)), .arr 1 r.length (r.map (AV.int .i64))]⟩ := by
        intro least' some'' e e5 e6 e7 e8 e9 c1 c2
        refine ⟨(k + 1, least', some''), ⟨hk', c1, c2⟩, by simp; omega, Fits.of ?_ (by simp ) (by simp [take_ext2]) (hwf2 r)⟩
        simp [e5, e6, e7, e8, e9, hw]
      cases hc : r.contains all[k] with
      | true =>
        simp only [go_sem, Nat.reduceEqDiff, reduceIte]
        refine next least some' _ (by simp ) (by simp ) (by simp ) (by simp ) (by simp ) ?_ ?_
        · intro h0 j hj hjk
          rcases Nat.lt_or_ge j k with h | h
          · exact hs1 h0 j hj h
          · have : j = k := by omega
            subst this; simpa using hc
        · intro h0
          obtain ⟨q1, q2, q3⟩ := hs2 h0
          refine ⟨q1, q2, fun j hj hjk hn => ?_⟩
          rcases Nat.lt_or_ge j k with h | h
          · exact q3 j hj h hn
          · have : j = k := by omega
            subst this; exact absurd (by simpa using hc) hn
      | false =>
        have hcn : all[k] ∉ r := by simpa using hc
        cases some' with
        | false =>
          simp only [go_sem, Nat.reduceEqDiff, reduceIte, index_own0 hk' rfl, load_eptr0 hk']
          refine next all[k] true _ (by simp ) (by simp ) (by simp ) (by simp ) (by simp ) (by simp) ?_
          intro _
          refine ⟨List.getElem_mem _, hcn, fun j hj hjk hn => ?_⟩
          rcases Nat.lt_or_ge j k with h | h
          · exact absurd (hs1 rfl j hj h) hn
          · have : j = k := by omega
            subst this; exact Int.le_refl _
        | true =>
          simp only [go_sem, Nat.reduceEqDiff, reduceIte, index_own0 hk' rfl, load_eptr0 hk']
          obtain ⟨q1, q2, q3⟩ := hs2 rfl
          refine ⟨fun hlt => ?_, fun hlt => ?_⟩
          · refine next all[k] true _ (by simp ) (by simp ) (by simp ) (by simp ) (by simp ) (by simp) ?_
            intro _
            refine ⟨List.getElem_mem _, hcn, fun j hj hjk hn => ?_⟩
            rcases Nat.lt_or_ge j k with h | h
            · have := q3 j hj h hn; omega
            · have : j = k := by omega
              subst this; exact Int.le_refl _
          · refine next least true _ (by simp ) (by simp ) (by simp ) (by simp ) (by simp ) (by simp) ?_
            intro _
            refine ⟨q1, q2, fun j hj hjk hn => ?_⟩
            rcases Nat.lt_or_ge j k with h | h
            · exact q3 j hj h hn
            · have : j = k := by omega
              subst this; omega
    · have hke : k = all.length := by omega
      subst hke
      cases some' with
      | false =>
        simp only [go_sem, Nat.reduceEqDiff, reduceIte]
        have hre : r = rise all := rise_eq hr1 fun x => ⟨hr2 x, fun hx => by
          obtain ⟨j, hj, e⟩ := List.getElem_of_mem hx
          rw [← e]; exact hs1 rfl j hj hj⟩
        rw [← hre]
        exact ⟨take_ext, H.length + 1, r.length, by simp, by omega, heap_get1 _ _ _ _⟩
      | true =>
        obtain ⟨q1, q2, q3⟩ := hs2 rfl
        simp only [go_sem, Nat.reduceEqDiff, reduceIte, app_own1_int (List.length_map (AV.int .i64) : (r.map (AV.int .i64)).length = r.length) (show r.length + 1 ≤ maxRow by unfold maxRow; omega) (by decide : (8 : Nat) ≤ 4096)]
        refine ⟨r ++ [least], ⟨rises_snoc hr1 (hr3 least q1 q2), fun x hx => ?_, fun x hx hn y hy => ?_⟩, by simp; omega, Fits.of ?_ (by simp ) (by simp [take_ext2]) (hwf2 _)⟩
        · rcases List.mem_append.1 hx with e | e
          · exact hr2 x e
          · rw [List.mem_singleton] at e; subst e; exact q1
        · have hn' : x ∉ r := fun h => hn (by simp [h])
          have hne : x ≠ least := fun h => hn (by simp [h])
          obtain ⟨j, hj, e⟩ := List.getElem_of_mem hx
          have hle := q3 j hj hj (by rw [e]; exact hn')
          rw [e] at hle
          rcases List.mem_append.1 hy with h | h
          · exact hr3 x hx hn' y h
          · rw [List.mem_singleton] at h; subst h; omega
        · simp 
  · have hre : r = rise all := rise_eq hr1 fun x => ⟨hr2 x, fun hx => by
      apply Classical.byContradiction
      intro hn
      have := Nat.le_trans (rises_len (rises_snoc hr1 (hr3 x hx hn)) (fun y hy => by
        rcases List.mem_append.1 hy with e | e
        · exact hr2 y e
        · rw [List.mem_singleton] at e; subst e; exact hx)) (length_rise_le all)
      simp at this
      omega⟩
    rw [← hre]
    exact ⟨take_ext, H.length + 1, r.length, by simp, by omega, heap_get1 _ _ _ _⟩
end Go.Proofs.Ytilhcglckgdbcaa.Al
namespace Go.Proofs.Ytilhcglckgdbcaa.Al
open Go
noncomputable def r14 : Reg seat := .of told14 (ask2 (fun a0' a1' => isS a0' ∧ isI a1') fun a0' a1' => .fn (.bool ((dO a0').contains (dI a1')))) (ask2_ok fun a0' a1' h => SaidOk.fn (Fun.weak (.cons (isS.weak h.1) (.cons (isI.weak h.2) .nil)) (has_spec _ _)))
theorem r14_c : r14.c = 14 := rfl
open Classical in
theorem r14_ask (a0' a1' : AV) : r14.ask [a0', a1'] = if isS a0' ∧ isI a1' then some (Said.fn (.bool ((dO a0').contains (dI a1')))) else none := by unfold r14 Reg.of ask2; exact ite_cl
noncomputable def r39 : Reg seat := .of told39 (ask2 (fun a0' a1' => isS a0' ∧ isS a1' ∧ (dO a0').length ≤ 4294967295) fun a0' a1' => .own 1 (((dO a0').filter fun x => !(dO a1').contains x).map (AV.int .i64))) (ask2_ok fun a0' a1' h => SaidOk.own (FunOwn.weak (.cons (isS.weak h.1) (.cons (isS.weak h.2.1) .nil)) (refNumsCut_spec _ _ h.2.2)) (by first | exact encU8.xs_idb _ | exact encI64.xs_idb _ | exact encNode.xs_idb _))
theorem r39_c : r39.c = 39 := rfl
open Classical in
theorem r39_ask (a0' a1' : AV) : r39.ask [a0', a1'] = if isS a0' ∧ isS a1' ∧ (dO a0').length ≤ 4294967295 then some (Said.own 1 (((dO a0').filter fun x => !(dO a1').contains x).map (AV.int .i64))) else none := by unfold r39 Reg.of ask2; exact ite_cl
noncomputable def r22 : Reg seat := .of told22 (ask2 (fun a0' a1' => isS a0' ∧ isI a1' ∧ (dO a0').length ≤ 4294967000) fun a0' a1' => .own 1 ((rise ((dO a0') ++ [(dI a1')])).map (AV.int .i64))) (ask2_ok fun a0' a1' h => SaidOk.own (FunOwn.weak (.cons (isS.weak h.1) (.cons (isI.weak h.2.1) .nil)) (refNumsJoin_spec _ _ h.2.2)) (by first | exact encU8.xs_idb _ | exact encI64.xs_idb _ | exact encNode.xs_idb _))
theorem r22_c : r22.c = 22 := rfl
open Classical in
theorem r22_ask (a0' a1' : AV) : r22.ask [a0', a1'] = if isS a0' ∧ isI a1' ∧ (dO a0').length ≤ 4294967000 then some (Said.own 1 ((rise ((dO a0') ++ [(dI a1')])).map (AV.int .i64))) else none := by unfold r22 Reg.of ask2; exact ite_cl
end Go.Proofs.Ytilhcglckgdbcaa.Al
