/-
  PLAIN LAWS: what is made is applied.
-/
import Derived.Test.YtikkcicghpkbgaaAlP10
import Derived.Test.YtikkcicghpkbgaaAlP8
set_option linter.unusedSimpArgs false
set_option linter.unusedVariables false
namespace Go.Proofs.Ytikkcicghpkbgaa.Al

theorem upI_upN_len (f : Nat → Node) (p : Nat → Bool) (k : Nat) : (upN f p k).length = (upI p k).length := by simp [upN, upI]
theorem puts_up (f : Nat → Node) (p : Nat → Bool) (t : List Node) (x : Nat) (hx : x < t.length) : ∀ k, nodeAt (putsT t ((upI p k).zip (upN f p k))) x = if x < k ∧ p x = true then f x else nodeAt t x := by
  intro k
  induction k with
  | zero => rw [upI_zero, upN_zero, if_neg (by omega)]; rfl
  | succ k ih =>
    cases h : p k with
    | false =>
      rw [upI_no h, upN_no h, ih]
      by_cases hk : x < k ∧ p x = true
      · rw [if_pos hk, if_pos ⟨by omega, hk.2⟩]
      · rw [if_neg hk, if_neg]
        rintro ⟨h1, h2⟩
        refine hk ⟨?_, h2⟩
        by_cases e : x = k
        · subst e; rw [h] at h2; cases h2
        · omega
    | true =>
      rw [upI_yes h, upN_yes h, List.zip_append (upI_upN_len f p k).symm, List.zip_cons_cons, List.zip_nil_left, putsT_snoc]
      by_cases e : x = k
      · subst e
        rw [if_pos ⟨by omega, h⟩]
        simp only [Int.toNat_natCast]
        unfold nodeAt
        rw [List.getD_eq_getElem?_getD, List.getElem?_set_self (by rw [putsT_len]; exact hx)]
        rfl
      · have e2 : nodeAt ((putsT t ((upI p k).zip (upN f p k))).set ((k : Int)).toNat (f k)) x = nodeAt (putsT t ((upI p k).zip (upN f p k))) x := by
          unfold nodeAt
          rw [List.getD_eq_getElem?_getD, List.getElem?_set_ne (by rw [Int.toNat_natCast]; exact fun h => e h.symm), ← List.getD_eq_getElem?_getD]
        rw [e2, ih]
        by_cases hk : x < k ∧ p x = true
        · rw [if_pos hk, if_pos ⟨by omega, hk.2⟩]
        · rw [if_neg hk, if_neg fun h => hk ⟨by omega, h.2⟩]
theorem ext_nodeAt {a b : List Node} (hl : a.length = b.length) (h : ∀ x, x < a.length → nodeAt a x = nodeAt b x) : a = b := by
  refine List.ext_getElem hl fun x h1 h2 => ?_
  have := h x h1
  rwa [nodeAt_lt h1, nodeAt_lt h2] at this
theorem make_may {a b : List Node} (hb : Sane b) : May (makeT a b) := by
  unfold makeT placesT
  rw [known_of hb]
  refine ⟨⟨upI_rises _ _, fun x hx => ?_⟩, ?_, upI_upN_len _ _ _⟩
  · obtain ⟨j, rfl, hj, _⟩ := mem_upI.1 hx
    simp only; omega
  · rcases hb.2 with h | h
    · left; simp only; omega
    · exact .inr h
theorem make_self (a : List Node) : (makeT a a).x = [] := by
  unfold makeT placesT upI upTo
  rw [List.filter_eq_nil_iff.2 (by simp [differ])]
  rfl
theorem apply_make {a b : List Node} (ha : Sane a) (hb : Sane b) : applyT a (makeT a b) = (b, 0) := by
  have hm := make_may (a := a) hb
  have e : putsT (fitT (known a) (makeT a b).len.toNat) ((makeT a b).x.zip (makeT a b).n) = b := by
    have hl : (makeT a b).len.toNat = b.length := by simp [makeT, known_of hb]
    refine ext_nodeAt (by rw [putsT_len, fitT_len, hl]) fun x hx => ?_
    rw [putsT_len, fitT_len, hl] at hx
    have := puts_up (nodeAt b) (differ a b) (fitT a b.length) x (by rw [fitT_len]; exact hx) b.length
    rw [hl]
    simp only [makeT, placesT, known_of ha, known_of hb]
    rw [this]
    split
    · rfl
    · rename_i hd
      rw [fitT_at _ hx]
      by_cases e : nodeAt a x = nodeAt b x
      · exact e
      · exact absurd ⟨hx, by simp [differ, e]⟩ hd
  unfold applyT
  rw [if_neg (not_not_intro hm)]
  simp only [e]
  rw [if_neg (not_not_intro hb)]
theorem check_blank {n : Node} (h : nodeCheck n = 0) (hk : n.kind = 0) : n = .zero := by
  unfold nodeCheck at h
  rw [if_neg (by omega)] at h
  obtain ⟨k, l, i⟩ := n
  simp only at hk h
  subst hk
  by_cases hc : l = .zero ∧ i = .zero
  · rw [hc.1, hc.2]; rfl
  · rw [if_pos (by simp only [ne_eq]; by_cases h1 : l = .zero
                   · exact .inr ⟨by decide, fun h2 => hc ⟨h1, h2⟩⟩
                   · exact .inl ⟨by decide, h1⟩)] at h
    cases h
theorem make_place {a b : List Node} (ha : Sane a) (hb : Sane b) {k : Nat} (hk : k < (makeT a b).x.length) : ∃ j : Nat, (makeT a b).x[k] = j ∧ j < b.length ∧ nodeAt a j ≠ nodeAt b j := by
  have h := List.getElem_mem hk
  have e : (makeT a b).x = upI (differ a b) b.length := by simp [makeT, placesT, known_of ha, known_of hb]
  obtain ⟨j, h1, h2, h3⟩ := mem_upI.1 (show (makeT a b).x[k] ∈ upI (differ a b) b.length by rw [← e]; exact h)
  exact ⟨j, h1, h2, by simpa [differ] using h3⟩

/-- What a patch puts. -/
theorem puts_find (x : Nat) : ∀ (l : List (Int × Node)) (t : List Node), x < t.length → (∀ q ∈ l, 0 ≤ q.1) → l.Pairwise (fun p q => p.1 ≠ q.1) → nodeAt (putsT t l) x = ((l.find? fun q => q.1 == (x : Int)).map (·.2)).getD (nodeAt t x)
  | [], t, hx, h0, hd => rfl
  | (y, n) :: l, t, hx, h0, hd => by
    have h1 := h0 (y, n) (by simp)
    rw [List.pairwise_cons] at hd
    have ih := puts_find x l (t.set y.toNat n) (by rw [List.length_set]; exact hx) (fun q hq => h0 q (by simp [hq])) hd.2
    rw [show putsT t ((y, n) :: l) = putsT (t.set y.toNat n) l from rfl, ih]
    by_cases e : y = (x : Int)
    · subst e
      have hn : (l.find? fun q => q.1 == (x : Int)) = none := by
        rw [List.find?_eq_none]
        intro q hq
        have := hd.1 q hq
        simpa using fun h => this h.symm
      rw [hn, List.find?_cons_of_pos (by simp)]
      simp only [Option.map_none, Option.map_some, Option.getD_none, Option.getD_some, Int.toNat_natCast]
      rw [nodeAt_set _ _ _ _ hx, if_pos rfl]
    · rw [List.find?_cons_of_neg (by simpa using e)]
      congr 1
      unfold nodeAt
      simp only at h1
      rw [List.getD_eq_getElem?_getD, List.getElem?_set_ne (by omega), ← List.getD_eq_getElem?_getD]
theorem may_zip {p : Patch} (h : May p) : (∀ q ∈ p.x.zip p.n, 0 ≤ q.1) ∧ (p.x.zip p.n).Pairwise (fun a b => a.1 ≠ b.1) := by
  refine ⟨fun q hq => (h.1.2 _ (List.of_mem_zip hq).1).1, ?_⟩
  rw [List.pairwise_iff_getElem]
  intro i j hi hj hij
  rw [List.length_zip] at hi hj
  rw [List.getElem_zip, List.getElem_zip]
  have := h.step (i := i) (j := j) (by omega) hij
  simp only; omega
theorem applyT_zero {a t : List Node} {p : Patch} (h : applyT a p = (t, 0)) : May p ∧ Sane t ∧ t = putsT (fitT (known a) p.len.toNat) (p.x.zip p.n) := by
  unfold applyT at h
  by_cases hm : May p
  · rw [if_neg (not_not_intro hm)] at h
    simp only at h
    by_cases hs : Sane (putsT (fitT (known a) p.len.toNat) (p.x.zip p.n))
    · rw [if_neg (not_not_intro hs)] at h
      have := (Prod.mk.injEq _ _ _ _).mp h
      exact ⟨hm, by rw [← this.1]; exact hs, this.1.symm⟩
    · rw [if_pos hs] at h
      have := (Prod.mk.injEq _ _ _ _).mp h
      exact absurd this.2 (by decide)
  · rw [if_pos hm] at h
    have := (Prod.mk.injEq _ _ _ _).mp h
    exact absurd this.2 (by decide)
theorem apply_at {a t : List Node} {p : Patch} (h : applyT a p = (t, 0)) : t.length = p.len.toNat ∧ ∀ x, x < t.length → nodeAt t x = (ofP p x).getD (nodeAt (known a) x) := by
  obtain ⟨hm, hs, rfl⟩ := applyT_zero h
  have hl : (putsT (fitT (known a) p.len.toNat) (p.x.zip p.n)).length = p.len.toNat := by rw [putsT_len, fitT_len]
  refine ⟨hl, fun x hx => ?_⟩
  rw [hl] at hx
  obtain ⟨z1, z2⟩ := may_zip hm
  rw [puts_find x _ _ (by rw [fitT_len]; exact hx) z1 z2, fitT_at _ hx]
  rfl
theorem ofP_in {p : Patch} (h : May p) {x : Nat} {n : Node} (hs : ofP p x = some n) : (x : Int) ∈ p.x := by
  have := ofP_mem h.nx (x := (x : Int))
  rw [hs] at this
  simpa using this
theorem ofP_not {p : Patch} (h : May p) {x : Nat} (hs : ofP p x = none) : ¬ (x : Int) ∈ p.x := by
  have := ofP_mem h.nx (x := (x : Int))
  rw [hs] at this
  simpa using this
theorem join_may {p q : Patch} (hq : May q) : May ⟨q.len, upI (joins p q) q.len.toNat, upN (joinN p q) (joins p q) q.len.toNat⟩ := by
  have := hq.len
  refine ⟨⟨upI_rises _ _, fun x hx => ?_⟩, hq.2.1, upI_upN_len _ _ _⟩
  obtain ⟨j, rfl, hj, _⟩ := mem_upI.1 hx
  simp only; omega
theorem apply_join {a t u : List Node} {p q : Patch} (h1 : applyT a p = (t, 0)) (h2 : applyT t q = (u, 0)) : (joinT p q).2 = 0 ∧ applyT a (joinT p q).1 = (u, 0) := by
  obtain ⟨mp, st, _⟩ := applyT_zero h1
  obtain ⟨mq, su, _⟩ := applyT_zero h2
  obtain ⟨l1, a1⟩ := apply_at h1
  obtain ⟨l2, a2⟩ := apply_at h2
  rw [known_of st] at a2
  have ej : joinT p q = (⟨q.len, upI (joins p q) q.len.toNat, upN (joinN p q) (joins p q) q.len.toNat⟩, 0) := if_pos ⟨mp, mq⟩
  rw [ej]
  refine ⟨rfl, ?_⟩
  have e : putsT (fitT (known a) q.len.toNat) ((upI (joins p q) q.len.toNat).zip (upN (joinN p q) (joins p q) q.len.toNat)) = u := by
    refine ext_nodeAt (by rw [putsT_len, fitT_len, l2]) fun x hx => ?_
    rw [putsT_len, fitT_len] at hx
    rw [puts_up (joinN p q) (joins p q) _ x (by rw [fitT_len]; exact hx), a2 x (by omega), fitT_at _ hx]
    have lp := mp.len
    cases eq : ofP q x with
    | some n =>
      rw [if_pos ⟨hx, by simp [joins, ofP_in mq eq]⟩]
      simp [joinN, eq]
    | none =>
      have nq := ofP_not mq eq
      by_cases hp : (x : Int) < p.len
      · have e1 := a1 x (by omega)
        cases ep : ofP p x with
        | some n =>
          rw [ep] at e1
          rw [if_pos ⟨hx, by simp [joins, ofP_in mp ep]⟩]
          simp [joinN, eq, ep, e1]
        | none =>
          have np := ofP_not mp ep
          rw [ep] at e1
          rw [if_neg fun h => by simp [joins, nq, np] at h; omega]
          simp [e1]
      · rw [if_pos ⟨hx, by simp [joins]; omega⟩]
        have ep : ofP p x = none := by
          cases ep : ofP p x with
          | none => rfl
          | some n => have := (mp.1.2 _ (ofP_in mp ep)).2; omega
        rw [nodeAt_ge (t := t) (by omega)]
        simp [joinN, eq, ep]
  unfold applyT
  rw [if_neg (not_not_intro (join_may mq))]
  simp only [e]
  rw [if_neg (not_not_intro su)]
theorem nums_up (p : Nat → Bool) (k : Nat) (hk : k ≤ 127) : Nums (upI p k) := by
  refine ⟨by have := upI_len p k; simp only [Small]; omega, fun x hx => ?_⟩
  obtain ⟨j, rfl, hj, _⟩ := mem_upI.1 hx
  exact ⟨by have : IntKind.i64.min = -9223372036854775808 := rfl; omega, by have : IntKind.i64.max = 9223372036854775807 := rfl; omega⟩
theorem nodes_up (f : Nat → Node) (p : Nat → Bool) (k : Nat) (hk : k ≤ 127) (hf : ∀ x, x < k → (f x).Ok) : Tree.Ok (upN f p k) := by
  refine ⟨by have := upN_len f p k; simp only [Small]; omega, fun n hn => ?_⟩
  simp only [upN, List.mem_map, mem_upTo] at hn
  obtain ⟨j, ⟨hj, _⟩, rfl⟩ := hn
  exact hf j hj
theorem in64_small {n : Int} (h : 0 ≤ n ∧ n ≤ 127) : In64 n := ⟨by have : IntKind.i64.min = -9223372036854775808 := rfl; omega, by have : IntKind.i64.max = 9223372036854775807 := rfl; omega⟩
theorem makeT_ok {a b : List Node} (hb : Tree.Ok b) : (makeT a b).Ok := by
  have := known_len b
  exact ⟨in64_small (by simp only [makeT]; omega), nums_up _ _ this, nodes_up _ _ _ this fun x _ => nodeAt_ok (known_ok hb) x⟩
theorem Patch.Ok.zero : Patch.zero.Ok := ⟨in64_small (by decide), ⟨Nat.zero_le _, fun _ h => by cases h⟩, .nil⟩
theorem joinT_ok {p q : Patch} (hp : p.Ok) (hq : q.Ok) : (joinT p q).1.Ok := by
  unfold joinT
  split
  · rename_i h
    have l := h.2.len
    refine ⟨in64_small l, nums_up _ _ (by omega), nodes_up _ _ _ (by omega) fun x _ => ?_⟩
    unfold joinN
    split
    · rename_i n e; exact ofP_ok hq e
    · split
      · rename_i n e; exact ofP_ok hp e
      · exact .zero
  · exact .zero
theorem applyT_ok {a : List Node} {p : Patch} (ha : Tree.Ok a) (hp : p.Ok) : Tree.Ok (applyT a p).1 := by
  unfold applyT
  split
  · exact .nil
  · rename_i h
    have l := (Classical.not_not.1 h).len
    simp only
    split
    · exact .nil
    · exact putsT_ok (fitT_ok (known_ok ha) (by omega)) fun q hq => hp.n.2 _ (List.of_mem_zip hq).2
end Go.Proofs.Ytikkcicghpkbgaa.Al
