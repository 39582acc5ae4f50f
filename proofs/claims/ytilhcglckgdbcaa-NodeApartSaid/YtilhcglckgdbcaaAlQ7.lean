/-
  PLAIN LAWS: a node that is put is got.
-/
import Derived.Test.YtilhcglckgdbcaaAlQ6
set_option linter.unusedSimpArgs false
set_option linter.unusedVariables false
namespace Go.Proofs.Ytilhcglckgdbcaa.Al

theorem gb_put {v : List Int} (h : v.length ≤ 1048576) (X : List Int) : gbytes (f1 v ++ X) = (v, X, 0) := gbytes_put h X
theorem gb_cut {v : List Int} (h : v.length ≤ 1048576) {c : Nat} (hc : c < (f1 v).length) : gbytes ((f1 v).take c) = ([], [], 1) := gbytes_cut h hc
theorem srcE_ok {s : Int} (h : 1 ≤ s ∧ s ≤ 3) : srcE s 0 = 0 := if_neg fun hh => hh.2 ⟨h.1, h.2⟩
theorem lget_put {l : Leaf} (h : leafCheck l = 0) (t : List Int) : lget (lput [] l ++ t) = (l, t, 0) := by
  obtain ⟨a, b, c, d, e, f, g⟩ := leafCheck_ok h
  have h4 : gpar l.source ((if l.source = 3 then f1 l.parent else []) ++ t) = (l.parent, t, 0) := by
    unfold gpar
    by_cases hs : l.source = 3
    · rw [if_pos hs, if_pos hs]; exact gb_put (by omega) t
    · rw [if_neg hs, if_neg hs, g hs]; rfl
  have e0 : lput [] l ++ t = f1 l.enc ++ (f1 l.cred ++ (l.source :: ((if l.source = 3 then f1 l.parent else []) ++ t))) := by
    rw [lput_eq h]; simp only [List.append_assoc, List.cons_append]
  rw [e0, lget_eq (gb_put (by omega) _) (gb_put (by omega) _) (gnum1_cons _ _) h4]
  simp only [ne_eq, not_true_eq_false, if_false, srcE_ok ⟨e, f⟩]
  unfold lgetS
  rw [if_neg (not_not_intro h)]
theorem lget_cut {l : Leaf} (h : leafCheck l = 0) {k : Nat} (hk : k < (lput [] l).length) : lget ((lput [] l).take k) = (.zero, [], 1) := by
  obtain ⟨a, b, c, d, e, f, g⟩ := leafCheck_ok h
  rw [lput_eq h] at *
  rw [List.length_append, List.length_append, List.length_cons] at hk
  by_cases c1 : k < (f1 l.enc).length
  · rw [List.take_append_of_le_length (by omega)]
    unfold lget
    rw [gb_cut (by omega) c1]
    simp
  rw [List.take_append, List.take_of_length_le (l := f1 l.enc) (by omega)]
  by_cases c2 : k - (f1 l.enc).length < (f1 l.cred).length
  · rw [List.take_append_of_le_length (by omega)]
    rw [lget_eq (gb_put (by omega) _) (gb_cut (by omega) c2) rfl rfl]
    simp
  rw [List.take_append, List.take_of_length_le (l := f1 l.cred) (by omega)]
  obtain ⟨j, hj⟩ : ∃ j, j = k - (f1 l.enc).length - (f1 l.cred).length := ⟨_, rfl⟩
  rw [← hj]
  cases j with
  | zero =>
    rw [List.take_zero, lget_eq (gb_put (by omega) _) (gb_put (by omega) _) (show gnum 1 [] = (0, [], 1) from rfl) rfl]
    simp [srcE]
  | succ j =>
    rw [List.take_succ_cons]
    by_cases hs : l.source = 3
    · rw [if_pos hs] at hk ⊢
      have h4 : gpar l.source ((f1 l.parent).take j) = ([], [], 1) := by
        unfold gpar
        rw [if_pos hs]
        exact gb_cut (by omega) (by omega)
      rw [lget_eq (gb_put (by omega) _) (gb_put (by omega) _) (gnum1_cons _ _) h4]
      simp [srcE_ok ⟨e, f⟩]
    · rw [if_neg hs] at hk
      simp only [List.length_nil] at hk
      omega
theorem gflag_cons {v : Int} (h : v = 0 ∨ v = 1) (r : List Int) : gflag (v :: r) = (decide (v = 1), r, 0) := by
  unfold gflag
  rw [gnum1_cons]
  rcases h with rfl | rfl <;> simp
theorem nget_zero (t : List Int) : nget (0 :: t) = (.zero, t, 0) := by
  unfold nget
  rw [gflag_cons (.inl rfl)]
  simp
theorem nget_one (r : List Int) : nget (1 :: r) = ngetK r := by
  unfold nget
  rw [gflag_cons (.inr rfl)]
  simp
theorem ngetK_leaf {l : Leaf} {r t : List Int} {e : Int} (h : lget r = (l, t, e)) : ngetK (1 :: r) = if e ≠ 0 then (.zero, [], e) else (⟨1, l, .zero⟩, t, 0) := by
  unfold ngetK
  rw [gnum1_cons]
  simp only [h]
  simp
theorem ngetK_inner {l : Inner} {r t : List Int} {e : Int} (h : iget r = (l, t, e)) : ngetK (2 :: r) = if e ≠ 0 then (.zero, [], e) else (⟨2, .zero, l⟩, t, 0) := by
  unfold ngetK
  rw [gnum1_cons]
  simp only [h]
  simp
theorem nget_nil : nget [] = (.zero, [], 1) := rfl
theorem ngetK_nil : ngetK [] = (.zero, [], 1) := rfl
theorem nput_known (b : List Int) (n : Node) : nput b n = nput b (knownN n) := by
  have : knownN (knownN n) = knownN n := by
    unfold knownN
    by_cases h : nodeCheck n = 0
    · rw [if_neg (not_not_intro h), if_neg (not_not_intro h)]
    · rw [if_pos h]; exact if_neg (by decide)
  unfold nput
  rw [this]
/-- What a node with which nothing is wrong is. -/
theorem known_cases (n : Node) : knownN n = .zero ∨ (∃ l, leafCheck l = 0 ∧ knownN n = ⟨1, l, .zero⟩) ∨ (∃ m, innerCheck m = 0 ∧ knownN n = ⟨2, .zero, m⟩) := by
  by_cases h : nodeCheck n = 0
  rotate_left
  · exact .inl (if_pos h)
  have hkn : knownN n = n := if_neg (not_not_intro h)
  rw [hkn]
  clear hkn
  unfold nodeCheck at h
  by_cases h1 : n.kind < 0 ∨ n.kind > 2
  · rw [if_pos h1] at h; cases h
  rw [if_neg h1] at h
  by_cases h2 : n.kind ≠ 1 ∧ n.leaf ≠ .zero ∨ n.kind ≠ 2 ∧ n.inner ≠ .zero
  · rw [if_pos h2] at h; cases h
  rw [if_neg h2] at h
  obtain ⟨k, l, m⟩ := n
  simp only at h h1 h2
  have p1 : k ≠ 1 → l = .zero := fun hk => Classical.not_not.1 fun hl => h2 (.inl ⟨hk, hl⟩)
  have p2 : k ≠ 2 → m = .zero := fun hk => Classical.not_not.1 fun hl => h2 (.inr ⟨hk, hl⟩)
  rcases (by omega : k = 0 ∨ k = 1 ∨ k = 2) with rfl | rfl | rfl
  · left; rw [p1 (by decide), p2 (by decide)]; rfl
  · right; left
    rw [if_pos rfl] at h
    exact ⟨l, h, by rw [p2 (by decide)]⟩
  · right; right
    rw [if_neg (by decide), if_pos rfl] at h
    exact ⟨m, h, by rw [p1 (by decide)]⟩
theorem nget_put (n : Node) (t : List Int) : nget (nput [] n ++ t) = (knownN n, t, 0) := by
  rw [nput_known]
  rcases known_cases n with h | ⟨l, hl, h⟩ | ⟨m, hm, h⟩ <;> rw [h]
  · rw [nput_zero]; exact nget_zero t
  · rw [nput_leaf hl]
    simp only [List.cons_append, List.nil_append]
    rw [nget_one, ngetK_leaf (lget_put hl t)]
    simp
  · rw [nput_inner hm]
    simp only [List.cons_append, List.nil_append]
    rw [nget_one, ngetK_inner (iget_put hm t)]
    simp
theorem cut_short (a b : Int) (X : List Int) (c : Nat) : ([a, b] ++ X).take (c + 2) = a :: b :: X.take c := rfl
theorem cut_one (a b : Int) (X : List Int) : ([a, b] ++ X).take 1 = [a] := rfl
theorem nget_cut (n : Node) {c : Nat} (hc : c < (nput [] n).length) : nget ((nput [] n).take c) = (.zero, [], 1) := by
  rw [nput_known] at hc ⊢
  rcases known_cases n with h | ⟨l, hl, h⟩ | ⟨m, hm, h⟩
  · rw [h, nput_zero] at hc ⊢
    have : c = 0 := by
      have : c < 1 := hc
      omega
    subst this; rfl
  · rw [h, nput_leaf hl] at hc ⊢
    match c, hc with
    | 0, _ => rfl
    | 1, _ => rw [cut_one, nget_one]; rfl
    | c + 2, hc =>
      rw [cut_short, nget_one, ngetK_leaf (lget_cut hl (by rw [List.length_append] at hc; have : ([1, 1] : List Int).length = 2 := rfl; omega))]
      simp
  · rw [h, nput_inner hm] at hc ⊢
    match c, hc with
    | 0, _ => rfl
    | 1, _ => rw [cut_one, nget_one]; rfl
    | c + 2, hc =>
      rw [cut_short, nget_one, ngetK_inner (iget_cut hm (by rw [List.length_append] at hc; have : ([1, 2] : List Int).length = 2 := rfl; omega))]
      simp
theorem nput_ne (n : Node) : nput [] n ≠ [] := by
  intro e
  have := nget_put n []
  rw [e] at this
  simp [nget_nil] at this
theorem nput_app (b : List Int) (n : Node) : nput b n = b ++ nput [] n := by
  unfold nput
  split
  · rw [iput_app, iput_app (fput [] true ++ beK 1 2)]; simp [fput]
  · split
    · rw [lput_app, lput_app (fput [] true ++ beK 1 1)]; simp [fput]
    · simp [fput]
end Go.Proofs.Ytilhcglckgdbcaa.Al
