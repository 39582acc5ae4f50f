/-
  PLAIN LAWS: who has a key below a node.
-/
import Derived.Test.YtlehcigcaihoaaaDoorAlP13
set_option linter.unusedSimpArgs false
set_option linter.unusedVariables false
namespace Go.Proofs.YtlehcigcaihoaaaDoor.Al
open Go

def resF : Nat → List Node → Int → List Int
  | 0, _, _ => []
  | f + 1, t, x => if x < 0 ∨ x ≥ t.length then [] else if (nodeAt t x.toNat).kind ≠ 0 then x :: (nodeAt t x.toNat).inner.unmerged.map (fun i => 2 * i) else resF f t (leftI x t.length) ++ resF f t (rightI x t.length)
/-- Who has a key below a node. -/
def resI (t : List Node) (x : Int) : List Int := resF 7 t x
/-- How deep it is below a node. -/
def need (t : List Node) (x : Int) : Nat := if 0 ≤ x ∧ x < t.length then lev x.toNat + 1 else 0
theorem need_out {t : List Node} {x : Int} (h : ¬ (0 ≤ x ∧ x < t.length)) : need t x = 0 := if_neg h
theorem need_in {t : List Node} {x : Int} (h : 0 ≤ x ∧ x < t.length) : need t x = lev x.toNat + 1 := if_pos h
theorem resF_out (f : Nat) {t : List Node} {x : Int} (h : ¬ (0 ≤ x ∧ x < t.length)) : resF f t x = [] := by
  cases f with
  | zero => rfl
  | succ f => unfold resF; rw [if_pos (by omega)]
/-- Both children stand one level lower, or there are none. -/
theorem kids {x w : Int} (h : IsN x w) : (leftI x w = -1 ∨ (0 ≤ leftI x w ∧ leftI x w < w ∧ lev (leftI x w).toNat + 1 = lev x.toNat)) ∧ (rightI x w = -1 ∨ (0 ≤ rightI x w ∧ rightI x w < w ∧ lev (rightI x w).toNat + 1 = lev x.toNat)) := by
  have := IsN.all (p := fun y n => (leftI (y : Int) (n : Int) = -1 ∨ (0 ≤ leftI (y : Int) (n : Int) ∧ leftI (y : Int) (n : Int) < (n : Int) ∧ lev (leftI (y : Int) (n : Int)).toNat + 1 = lev y)) ∧
    (rightI (y : Int) (n : Int) = -1 ∨ (0 ≤ rightI (y : Int) (n : Int) ∧ rightI (y : Int) (n : Int) < (n : Int) ∧ lev (rightI (y : Int) (n : Int)).toNat + 1 = lev y))) (by decide +kernel) h
  rwa [h.cast.1, h.cast.2] at this
theorem need_kids {t : List Node} (hw : Whole t.length) {x : Int} {f : Nat} (hx : 0 ≤ x ∧ x < t.length) (h : need t x ≤ f + 1) : need t (leftI x t.length) ≤ f ∧ need t (rightI x t.length) ≤ f := by
  obtain ⟨a, b⟩ := kids (w := t.length) ⟨hw, hx⟩
  rw [need_in hx] at h
  constructor
  · rcases a with a | ⟨a1, a2, a3⟩
    · rw [a, need_out (by omega)]; omega
    · rw [need_in ⟨a1, a2⟩]; omega
  · rcases b with b | ⟨a1, a2, a3⟩
    · rw [b, need_out (by omega)]; omega
    · rw [need_in ⟨a1, a2⟩]; omega
theorem resF_more {t : List Node} (hw : Whole t.length) : ∀ (f : Nat) (x : Int), need t x ≤ f → resF (f + 1) t x = resF f t x := by
  intro f
  induction f with
  | zero =>
    intro x h
    have hx : ¬ (0 ≤ x ∧ x < t.length) := fun hx => by rw [need_in hx] at h; omega
    rw [resF_out _ hx, resF_out _ hx]
  | succ f ih =>
    intro x h
    by_cases hx : 0 ≤ x ∧ x < t.length
    · obtain ⟨a, b⟩ := need_kids hw hx h
      conv => lhs; unfold resF
      conv => rhs; unfold resF
      rw [ih _ a, ih _ b]
    · rw [resF_out _ hx, resF_out _ hx]
theorem need_le {t : List Node} (hw : Whole t.length) (x : Int) : need t x ≤ 7 := by
  by_cases hx : 0 ≤ x ∧ x < t.length
  · have := lev_le (x := x) (w := t.length) ⟨hw, hx⟩
    rw [need_in hx]; omega
  · rw [need_out hx]; omega
theorem resI_out {t : List Node} {x : Int} (h : ¬ (0 ≤ x ∧ x < t.length)) : resI t x = [] := resF_out _ h
theorem resI_key {t : List Node} {x : Int} (h : 0 ≤ x ∧ x < t.length) (hk : (nodeAt t x.toNat).kind ≠ 0) : resI t x = x :: (nodeAt t x.toNat).inner.unmerged.map (fun i => 2 * i) := by
  unfold resI resF; rw [if_neg (by omega), if_pos hk]
theorem resI_blank {t : List Node} (hw : Whole t.length) {x : Int} (h : 0 ≤ x ∧ x < t.length) (hk : (nodeAt t x.toNat).kind = 0) : resI t x = resI t (leftI x t.length) ++ resI t (rightI x t.length) := by
  obtain ⟨a, b⟩ := need_kids hw h (f := 6) (need_le hw x)
  have e : resI t x = resF 6 t (leftI x t.length) ++ resF 6 t (rightI x t.length) := by
    unfold resI; conv => lhs; unfold resF
    rw [if_neg (by omega), if_neg (not_not_intro hk)]
  rw [e, ← resF_more hw 6 _ a, ← resF_more hw 6 _ b]
  rfl
/-- The unmerged leaves of a node of a tree. -/
theorem unmerged_in {n : Node} (h : nodeCheck n = 0) : n.inner.unmerged.length ≤ 64 ∧ ∀ i ∈ n.inner.unmerged, 0 ≤ i ∧ i ≤ 63 := by
  unfold nodeCheck at h
  split at h
  · cases h
  split at h
  · cases h
  rename_i h1 h2
  by_cases hk : n.kind = 2
  · split at h
    · omega
    · unfold innerCheck at h
      split at h
      · cases h
      split at h
      · cases h
      split at h
      · cases h
      rename_i a b c
      refine ⟨by omega, fun i hi => ?_⟩
      constructor <;> exact Classical.byContradiction fun hh => c ⟨i, hi, by omega⟩
  · have : n.inner = .zero := by
      by_cases e : n.inner = .zero
      · exact e
      · exact absurd (.inr ⟨hk, e⟩) h2
    rw [this]
    exact ⟨by simp [Inner.zero], fun i hi => by simp [Inner.zero] at hi⟩
end Go.Proofs.YtlehcigcaihoaaaDoor.Al
