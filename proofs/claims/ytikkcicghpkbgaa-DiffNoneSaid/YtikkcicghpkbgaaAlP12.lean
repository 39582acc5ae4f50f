/-
  PLAIN LAWS: a patch without places; three patches joined.
-/
import Derived.Test.YtikkcicghpkbgaaAlP11
set_option linter.unusedSimpArgs false
set_option linter.unusedVariables false
namespace Go.Proofs.Ytikkcicghpkbgaa.Al

/-- The patch of a width without places. -/
def bare (w : Int) : Patch := ⟨w, [], []⟩
theorem bare_may {w : Int} : May (bare w) ↔ (w = 0 ∨ Whole w) :=
  ⟨fun h => h.2.1, fun h => ⟨⟨List.Pairwise.nil, fun _ hx => by cases hx⟩, h, rfl⟩⟩
theorem fit_sane {t : List Node} (h : Sane t) {n : Nat} (hn : n = 0 ∨ Whole n) : Sane (fitT t n) := by
  refine ⟨fun x hx => ?_, by rw [fitT_len]; exact hn⟩
  have hx' := hx
  rw [fitT_len] at hx'
  rw [← nodeAt_lt hx, fitT_at _ hx']
  by_cases hl : x < t.length
  · rw [nodeAt_lt hl]; exact h.1 x hl
  · rw [nodeAt_ge (by omega)]; exact good_zero x
theorem bare_apply {t : List Node} (h : Sane t) {w : Int} (hw : w = 0 ∨ Whole w) : applyT t (bare w) = (fitT t w.toNat, 0) := by
  have hm := bare_may.2 hw
  have hb := hm.len
  have hs : Sane (fitT t w.toNat) := fit_sane h (by
    have e : ((w.toNat : Nat) : Int) = w := Int.toNat_of_nonneg hb.1
    rcases hw with h | h
    · exact .inl (by omega)
    · exact .inr (by rw [e]; exact h))
  have e : putsT (fitT (known t) (bare w).len.toNat) ((bare w).x.zip (bare w).n) = fitT t w.toNat := by rw [known_of h]; rfl
  unfold applyT
  rw [if_neg (not_not_intro hm)]
  simp only [e]
  rw [if_neg (not_not_intro hs)]
theorem bare_bad (t : List Node) {w : Int} (hw : ¬ (w = 0 ∨ Whole w)) : applyT t (bare w) = ([], 2) := by
  unfold applyT
  rw [if_pos fun h => hw (bare_may.1 h)]
theorem bare_join {w : Int} (hw : w = 0 ∨ Whole w) : joinT (bare w) (bare w) = (bare w, 0) := by
  have hm := bare_may.2 hw
  unfold joinT
  rw [if_pos ⟨hm, hm⟩]
  have e : upTo (joins (bare w) (bare w)) w.toNat = [] := by
    unfold upTo
    rw [List.filter_eq_nil_iff]
    intro x hx
    have := hm.len
    rw [List.mem_range] at hx
    have hlt : ¬ (x : Int) ≥ w := by have h2 : 0 ≤ w := this.1; omega
    simp [joins, bare, hlt]
  simp only [upI, upN, bare] at e ⊢
  rw [e]; rfl
theorem bare_joinBad {w : Int} (hw : ¬ (w = 0 ∨ Whole w)) : joinT (bare w) (bare w) = (.zero, 2) := by
  unfold joinT
  rw [if_neg fun h => hw (bare_may.1 h.1)]
theorem bare_ok {w : Int} (hw : In64 w) : (bare w).Ok := ⟨hw, ⟨Nat.zero_le _, fun _ h => by cases h⟩, .nil⟩

theorem find_up (f : Nat → Node) (p : Nat → Bool) (x : Nat) : ∀ k, (((upI p k).zip (upN f p k)).find? fun q => q.1 == (x : Int)).map (·.2) = if x < k ∧ p x = true then some (f x) else none := by
  intro k
  induction k with
  | zero => rw [upI_zero, upN_zero, if_neg (by omega)]; rfl
  | succ k ih =>
    cases h : p k with
    | false =>
      rw [upI_no h, upN_no h, ih]
      by_cases hk : x < k ∧ p x = true
      · rw [if_pos hk, if_pos ⟨by omega, hk.2⟩]
      · rw [if_neg hk, if_neg]
        rintro ⟨h1, h2⟩
        refine hk ⟨?_, h2⟩
        by_cases e : x = k
        · subst e; rw [h] at h2; cases h2
        · omega
    | true =>
      rw [upI_yes h, upN_yes h, List.zip_append (upI_upN_len f p k).symm, List.zip_cons_cons, List.zip_nil_left, List.find?_append, Option.map_or, ih]
      by_cases hk : x < k ∧ p x = true
      · rw [if_pos hk, if_pos ⟨by omega, hk.2⟩]; rfl
      · rw [if_neg hk]
        by_cases e : x = k
        · subst e
          rw [if_pos ⟨by omega, h⟩]
          simp
        · rw [if_neg fun h2 => hk ⟨by omega, h2.2⟩]
          simp [show ¬ (k : Int) = (x : Int) by omega]
theorem ofP_up (f : Nat → Node) (p : Nat → Bool) (w : Int) (x k : Nat) : ofP ⟨w, upI p k, upN f p k⟩ x = if x < k ∧ p x = true then some (f x) else none := find_up f p x k
theorem in_up (p : Nat → Bool) (x k : Nat) : (x : Int) ∈ upI p k ↔ x < k ∧ p x = true := by
  rw [mem_upI]
  constructor
  · rintro ⟨j, h, h1, h2⟩
    have : x = j := by omega
    subst this; exact ⟨h1, h2⟩
  · rintro ⟨h1, h2⟩; exact ⟨x, rfl, h1, h2⟩
theorem up_congr {f g : Nat → Node} {p q : Nat → Bool} {k : Nat} (h : ∀ x, x < k → p x = q x) (h2 : ∀ x, x < k → p x = true → f x = g x) : upI p k = upI q k ∧ upN f p k = upN g q k := by
  have e : upTo p k = upTo q k := by
    unfold upTo
    exact List.filter_congr fun x hx => h x (List.mem_range.1 hx)
  refine ⟨by rw [upI, upI, e], ?_⟩
  rw [upN, upN, ← e]
  exact List.map_congr_left fun x hx => h2 x (mem_upTo.1 hx).1 (mem_upTo.1 hx).2
theorem join_ok {p q : Patch} (h : (joinT p q).2 = 0) : May p ∧ May q ∧ joinT p q = (⟨q.len, upI (joins p q) q.len.toNat, upN (joinN p q) (joins p q) q.len.toNat⟩, 0) := by
  by_cases hm : May p ∧ May q
  · exact ⟨hm.1, hm.2, if_pos hm⟩
  · rw [show joinT p q = (.zero, 2) from if_neg hm] at h; cases h
/-- However three are joined. -/
theorem join_three {p q r : Patch} (h1 : (joinT p q).2 = 0) (h2 : (joinT q r).2 = 0) : (joinT (joinT p q).1 r).2 = 0 ∧ joinT p (joinT q r).1 = joinT (joinT p q).1 r := by
  obtain ⟨mp, mq, e1⟩ := join_ok h1
  obtain ⟨_, mr, e2⟩ := join_ok h2
  have m1 : May (joinT p q).1 := by rw [e1]; exact join_may mq
  have m2 : May (joinT q r).1 := by rw [e2]; exact join_may mr
  have e3 : joinT (joinT p q).1 r = (⟨r.len, upI (joins (joinT p q).1 r) r.len.toNat, upN (joinN (joinT p q).1 r) (joins (joinT p q).1 r) r.len.toNat⟩, 0) := if_pos ⟨m1, mr⟩
  have e4 : joinT p (joinT q r).1 = (⟨(joinT q r).1.len, upI (joins p (joinT q r).1) (joinT q r).1.len.toNat, upN (joinN p (joinT q r).1) (joins p (joinT q r).1) (joinT q r).1.len.toNat⟩, 0) := if_pos ⟨mp, m2⟩
  have l2 : (joinT q r).1.len = r.len := by rw [e2]
  rw [l2] at e4
  refine ⟨by rw [e3], ?_⟩
  have lq := mq.len
  have lr := mr.len
  have lp := mp.len
  have hp : ∀ x : Nat, (x : Int) ∈ p.x → (x : Int) < p.len := fun x h => (mp.1.2 _ h).2
  have hq : ∀ x : Nat, (x : Int) ∈ q.x → (x : Int) < q.len := fun x h => (mq.1.2 _ h).2
  have hr : ∀ x : Nat, (x : Int) ∈ r.x → (x : Int) < r.len := fun x h => (mr.1.2 _ h).2
  have ia : ∀ x : Nat, (x : Int) ∈ (joinT p q).1.x ↔ x < q.len.toNat ∧ joins p q x = true := fun x => by rw [e1]; exact in_up _ x _
  have ib : ∀ x : Nat, (x : Int) ∈ (joinT q r).1.x ↔ x < r.len.toNat ∧ joins q r x = true := fun x => by rw [e2]; exact in_up _ x _
  have oa : ∀ x : Nat, ofP (joinT p q).1 x = if x < q.len.toNat ∧ joins p q x = true then some (joinN p q x) else none := fun x => by rw [e1]; exact ofP_up _ _ _ x _
  have ob : ∀ x : Nat, ofP (joinT q r).1 x = if x < r.len.toNat ∧ joins q r x = true then some (joinN q r x) else none := fun x => by rw [e2]; exact ofP_up _ _ _ x _
  have la : (joinT p q).1.len = q.len := by rw [e1]
  have dj : ∀ (u v : Patch) (x : Nat), (joins u v x = true) = ((x : Int) ∈ u.x ∨ (x : Int) ∈ v.x ∨ (x : Int) ≥ u.len) := fun u v x => by simp [joins]
  have key : ∀ x : Nat, x < r.len.toNat → joins p (joinT q r).1 x = joins (joinT p q).1 r x := by
    intro x hx
    rw [Bool.eq_iff_iff, dj, dj, la, ia, ib, dj, dj]
    by_cases c1 : (x : Int) ∈ p.x <;> by_cases c2 : (x : Int) ∈ q.x <;> by_cases c3 : (x : Int) ∈ r.x <;> simp only [c1, c2, c3, true_or, or_true, false_or, and_true, true_iff, iff_true] <;> omega
  obtain ⟨k1, k2⟩ := up_congr (f := joinN p (joinT q r).1) (g := joinN (joinT p q).1 r) key fun x hx h => by
    have h' := h
    rw [dj, ib, dj] at h'
    unfold joinN
    rw [ob x, oa x]
    cases er : ofP r x with
    | some n =>
      have c3 := ofP_in mr er
      rw [if_pos ⟨hx, by rw [dj]; exact .inr (.inl c3)⟩]
      simp only [joinN, er]
    | none =>
      have c3 := ofP_not mr er
      cases eq : ofP q x with
      | some n =>
        have c2 := ofP_in mq eq
        have := hq x c2
        rw [if_pos ⟨hx, by rw [dj]; exact .inl c2⟩, if_pos ⟨by omega, by rw [dj]; exact .inr (.inl c2)⟩]
        simp only [joinN, er, eq]
      | none =>
        have c2 := ofP_not mq eq
        by_cases c : (x : Int) ≥ q.len
        · rw [if_pos ⟨hx, by rw [dj]; exact .inr (.inr c)⟩, if_neg (by omega)]
          simp only [joinN, er, eq]
        · have hj : (x : Int) ∈ p.x ∨ (x : Int) ∈ q.x ∨ (x : Int) ≥ p.len := by
            rcases h' with h | h | h
            · exact .inl h
            · rcases h.2 with h2 | h2 | h2
              · exact absurd h2 c2
              · exact absurd h2 c3
              · exact absurd h2 c
            · exact .inr (.inr h)
          have hn : ¬ (x < r.len.toNat ∧ joins q r x = true) := by
            rw [dj]
            rintro ⟨_, h2 | h2 | h2⟩
            · exact c2 h2
            · exact c3 h2
            · exact c h2
          rw [if_neg hn, if_pos ⟨by omega, by rw [dj]; exact hj⟩]
          simp only [joinN, eq]
  rw [e3, e4, k1, k2]
end Go.Proofs.Ytikkcicghpkbgaa.Al
