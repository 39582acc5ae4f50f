/-
  PLAIN LAWS: what trees are after something is done to them.
-/
import Derived.Test.YtihhinbjhiankaaGreatDoorAlP7
set_option linter.unusedSimpArgs false
set_option linter.unusedVariables false
namespace Go.Proofs.YtihhinbjhiankaaGreatDoor.Al

theorem set_sane {t : List Node} (h : Sane t) {k : Nat} {n : Node} (hk : k < t.length) (hc : nodeCheck n = 0) (hs : Stands k n.kind) : Sane (t.set k n) := by
  refine ⟨fun x hx => ?_, by rw [List.length_set]; exact h.2⟩
  rw [List.length_set] at hx
  rw [List.getElem_set]
  split
  · rename_i e; subst e; exact ⟨hs, hc⟩
  · exact h.1 x hx
theorem setT_zero {t : List Node} (h : Sane t) {x : Int} {n : Node} (hz : (setT t x n).2 = 0) : ∃ k : Nat, x = k ∧ k < t.length ∧ nodeCheck n = 0 ∧ Stands k n.kind ∧ setT t x n = (t.set k n, 0) := by
  unfold setT at hz ⊢
  rw [known_of h] at hz ⊢
  by_cases h1 : x < 0 ∨ x ≥ t.length
  · rw [if_pos h1] at hz; cases hz
  · rw [if_neg h1] at hz ⊢
    by_cases h2 : nodeCheck n ≠ 0
    · rw [if_pos h2] at hz; exact absurd hz h2
    · rw [if_neg h2] at hz ⊢
      by_cases h3 : ¬ Stands x n.kind
      · rw [if_pos h3] at hz; cases hz
      · rw [if_neg h3] at hz ⊢
        have e : x = (x.toNat : Int) := by omega
        exact ⟨x.toNat, e, by omega, Classical.not_not.1 h2, by rw [← e]; exact Classical.not_not.1 h3, rfl⟩
theorem setT_yes {t : List Node} (h : Sane t) {k : Nat} {n : Node} (hk : k < t.length) (hc : nodeCheck n = 0) (hs : Stands k n.kind) : setT t k n = (t.set k n, 0) := by
  unfold setT
  rw [known_of h, if_neg (by omega), if_neg (by omega), if_neg (not_not_intro hs), Int.toNat_natCast]
theorem setT_ok {t : List Node} (ht : Tree.Ok t) {x : Int} {n : Node} (hn : n.Ok) : Tree.Ok (setT t x n).1 := by
  unfold setT
  split
  · exact .nil
  · split
    · exact .nil
    · split
      · exact .nil
      · exact set_ok (known_ok ht) hn _

theorem growT_len {t : List Node} (h : Sane t) (h1 : t.length ≠ 127) : growT t = (t ++ List.replicate (t.length + 1) .zero, 0) := by
  unfold growT; rw [known_of h, if_neg h1]
theorem growT_full {t : List Node} (h : Sane t) (h1 : t.length = 127) : growT t = ([], 10) := by
  unfold growT; rw [known_of h, if_pos h1]
theorem width_double {n : Nat} (h : n = 0 ∨ Whole n) (h1 : n ≠ 127) : Whole ((2 * n + 1 : Nat) : Int) := by unfold Whole at *; omega
theorem grow_sane {t : List Node} (h : Sane t) (h1 : t.length ≠ 127) : Sane (t ++ List.replicate (t.length + 1) .zero) := by
  refine ⟨fun x hx => ?_, .inr ?_⟩
  · rw [List.getElem_append]
    split
    · rename_i hlt; exact h.1 x hlt
    · rw [List.getElem_replicate]; exact good_zero x
  · have := width_double h.2 h1
    simp only [List.length_append, List.length_replicate]
    rw [show t.length + (t.length + 1) = 2 * t.length + 1 by omega]; exact this
theorem grow_ok {t : List Node} (ht : Tree.Ok t) (h : t.length ≤ 127) : Tree.Ok (t ++ List.replicate (t.length + 1) .zero) := by
  refine ⟨by simp only [Small, List.length_append, List.length_replicate]; omega, fun x hx => ?_⟩
  rcases List.mem_append.1 hx with h | h
  · exact ht.2 x h
  · rw [(List.mem_replicate.1 h).2]; exact .zero
theorem growT_ok {t : List Node} (ht : Tree.Ok t) : Tree.Ok (growT t).1 := by
  unfold growT
  split
  · exact .nil
  · exact grow_ok (known_ok ht) (known_len t)
theorem trimT_ok {t : List Node} (ht : ∀ {a : List Node}, Tree.Ok a → Tree.Ok (trimL a)) (h : Tree.Ok t) : Tree.Ok (trimT t) := by
  unfold trimT
  simp only
  split
  · exact .nil
  · exact ht (known_ok h)

theorem freeT_neg {t : List Node} (h : Sane t) (hf : freeT t < 0) : freeT t = -1 ∧ ∀ j, j < t.length → blankEven t j = false := by
  unfold freeT at hf ⊢
  rw [known_of h] at hf ⊢
  cases e : firstN (blankEven t) t.length with
  | some k => rw [e] at hf; simp only at hf; omega
  | none => exact ⟨rfl, firstN_no e⟩
theorem freeT_pos {t : List Node} (h : Sane t) (hf : ¬ freeT t < 0) : ∃ k : Nat, freeT t = k ∧ 2 * k < t.length ∧ blankEven t (2 * k) = true ∧ ∀ j, j < 2 * k → blankEven t j = false := by
  unfold freeT at hf ⊢
  rw [known_of h] at hf ⊢
  cases e : firstN (blankEven t) t.length with
  | none => rw [e] at hf; simp only at hf; omega
  | some k =>
    obtain ⟨h1, h2, h3⟩ := firstN_eq e
    have hk : k % 2 = 0 := by
      have := h2; simp only [blankEven, decide_eq_true_eq] at this; exact this.1
    have e2 : 2 * (k / 2) = k := by omega
    exact ⟨k / 2, rfl, by omega, by rw [e2]; exact h2, by rw [e2]; exact h3⟩
theorem blankEven_kind {t : List Node} {j : Nat} (h : blankEven t (2 * j) = false) : (nodeAt t (2 * j)).kind ≠ 0 := by
  simp only [blankEven, decide_eq_false_iff_not] at h
  intro h1; exact h ⟨by omega, h1⟩
theorem freeT_ge {t : List Node} (h : Sane t) {k : Nat} (hk : ∀ j, j < 2 * k → blankEven t j = false) (hk2 : blankEven t (2 * k) = false) : freeT t = -1 ∨ freeT t > k := by
  by_cases hf : freeT t < 0
  · exact .inl (freeT_neg h hf).1
  · obtain ⟨q, e, h1, h2, h3⟩ := freeT_pos h hf
    right
    rw [e]
    by_cases hq : q ≤ k
    · rcases Nat.lt_or_eq_of_le hq with h4 | h4
      · rw [hk (2 * q) (by omega)] at h2; cases h2
      · subst h4; rw [hk2] at h2; cases h2
    · omega
theorem lastT_neg {t : List Node} (h : Sane t) (hf : lastT t < 0) : lastT t = -1 ∧ ∀ j, j < t.length → (nodeAt t j).kind = 0 := by
  unfold lastT at hf ⊢
  rw [known_of h] at hf ⊢
  cases e : lastN (fun x => decide ((nodeAt t x).kind ≠ 0)) t.length with
  | some k => rw [e] at hf; simp only [optI] at hf; omega
  | none => exact ⟨rfl, fun j hj => by simpa using lastN_no e j hj⟩
theorem lastT_pos {t : List Node} (h : Sane t) (hf : ¬ lastT t < 0) : ∃ k : Nat, lastT t = k ∧ k < t.length ∧ (nodeAt t k).kind ≠ 0 ∧ ∀ j, k < j → j < t.length → (nodeAt t j).kind = 0 := by
  unfold lastT at hf ⊢
  rw [known_of h] at hf ⊢
  cases e : lastN (fun x => decide ((nodeAt t x).kind ≠ 0)) t.length with
  | none => rw [e] at hf; simp only [optI] at hf; omega
  | some k =>
    obtain ⟨h1, h2, h3⟩ := lastN_eq e
    exact ⟨k, rfl, h1, by simpa using h2, fun j a b => by simpa using h3 j a b⟩
theorem leaves_of {t : List Node} (h : Sane t) : leaves_ t = ((t.length : Int) + 1) / 2 := by unfold leaves_; rw [known_of h]

theorem lastT_none {t : List Node} (h : Sane t) (hz : ∀ j, j < t.length → (nodeAt t j).kind = 0) : lastT t = -1 := by
  unfold lastT; rw [known_of h, lastN_none fun j hj => by simp [hz j hj]]; rfl
theorem lastT_some {t : List Node} (h : Sane t) {k : Nat} (hk : k < t.length) (h0 : (nodeAt t k).kind ≠ 0) (hz : ∀ j, k < j → j < t.length → (nodeAt t j).kind = 0) : lastT t = k := by
  unfold lastT; rw [known_of h, lastN_some (by simpa using h0) hk fun j h1 h2 => by simp [hz j h1 h2]]; rfl
theorem freeT_none {t : List Node} (h : Sane t) (hz : ∀ j, j < t.length → blankEven t j = false) : freeT t = -1 := by
  unfold freeT; rw [known_of h, firstN_none hz]
theorem freeT_some {t : List Node} (h : Sane t) {k : Nat} (hk : 2 * k < t.length) (h0 : blankEven t (2 * k) = true) (hz : ∀ j, j < 2 * k → blankEven t j = false) : freeT t = k := by
  unfold freeT; rw [known_of h, firstN_some hk h0 hz]; simp
def grown (t : List Node) : List Node := t ++ List.replicate (t.length + 1) .zero
theorem grown_len (t : List Node) : (grown t).length = 2 * t.length + 1 := by simp [grown]; omega
theorem grown_at (t : List Node) (x : Nat) : nodeAt (grown t) x = nodeAt t x := by
  unfold grown
  rw [nodeAt_append]
  split
  · rfl
  · rename_i h
    rw [nodeAt_ge (t := t) (by omega)]
    unfold nodeAt
    rw [List.getD_eq_getElem?_getD, List.getElem?_replicate]
    split <;> rfl
theorem grown_take (t : List Node) : (grown t).take t.length = t := by simp [grown]
theorem grown_blank (t : List Node) (x : Nat) : blankEven (grown t) x = blankEven t x := by unfold blankEven; rw [grown_at]
theorem lastT_grow {t : List Node} (h : Sane t) (h1 : t.length ≠ 127) : lastT (grown t) = lastT t := by
  have hg : Sane (grown t) := grow_sane h h1
  have hl := grown_len t
  by_cases hn : lastT t < 0
  · obtain ⟨e, hz⟩ := lastT_neg h hn
    rw [e]
    refine lastT_none hg fun j hj => ?_
    rw [grown_at]
    rcases Nat.lt_or_ge j t.length with hlt | hge
    · exact hz j hlt
    · rw [nodeAt_ge hge]; rfl
  · obtain ⟨k, e, hk, h0, hz⟩ := lastT_pos h hn
    rw [e]
    refine lastT_some hg (by omega) (by rw [grown_at]; exact h0) fun j h2 h3 => ?_
    rw [grown_at]
    rcases Nat.lt_or_ge j t.length with hlt | hge
    · exact hz j h2 hlt
    · rw [nodeAt_ge hge]; rfl
theorem freeT_grow {t : List Node} (h : Sane t) (h1 : t.length ≠ 127) : (freeT t < 0 → freeT (grown t) = leaves_ t) ∧ (¬ freeT t < 0 → freeT (grown t) = freeT t) := by
  have hg : Sane (grown t) := grow_sane h h1
  have hl := grown_len t
  refine ⟨fun hn => ?_, fun hn => ?_⟩
  · obtain ⟨e, hz⟩ := freeT_neg h hn
    have hodd : t.length = 0 ∨ t.length % 2 = 1 := by
      rcases h.2 with h2 | h2
      · exact .inl h2
      · have := h2.odd; exact .inr (by omega)
    have := freeT_some hg (k := (t.length + 1) / 2) (by omega) (by
      rw [grown_blank, blankEven, nodeAt_ge (by omega)]
      simp [Node.zero]) fun j hj => by
        rw [grown_blank]
        rcases Nat.lt_or_ge j t.length with hlt | hge
        · exact hz j hlt
        · have : j % 2 = 1 := by omega
          unfold blankEven
          simp; omega
    rw [this, leaves_of h]; omega
  · obtain ⟨k, e, hk, h0, hz⟩ := freeT_pos h hn
    rw [e]
    exact freeT_some hg (by omega) (by rw [grown_blank]; exact h0) fun j hj => by rw [grown_blank]; exact hz j hj
theorem grown_ok {t : List Node} (ht : Tree.Ok t) (h : t.length ≤ 127) : Tree.Ok (grown t) := grow_ok ht h
theorem growT_grown {t : List Node} (h : Sane t) (h1 : t.length ≠ 127) : growT t = (grown t, 0) := growT_len h h1
end Go.Proofs.YtihhinbjhiankaaGreatDoor.Al
