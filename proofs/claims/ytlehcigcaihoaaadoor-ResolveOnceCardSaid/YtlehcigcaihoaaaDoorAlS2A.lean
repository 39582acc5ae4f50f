/-
  SPECS: what is wrong with an inner node (the document's).
-/
import Derived.Test.YtlehcigcaihoaaaDoorAlS1
set_option linter.unusedSimpArgs false
set_option linter.unusedVariables false
namespace Go.Proofs.YtlehcigcaihoaaaDoor.Al
open Go

theorem inner3 (l : List Int) : (∃ i ∈ l, i < 0 ∨ i > 63) = ∃ j, ∃ h : j < l.length, l[j] < 0 ∨ l[j] > 63 := by
  apply propext
  constructor
  · rintro ⟨i, hi, h⟩
    obtain ⟨j, hj, rfl⟩ := List.getElem_of_mem hi
    exact ⟨j, hj, h⟩
  · rintro ⟨j, hj, h⟩
    exact ⟨_, List.getElem_mem hj, h⟩
theorem inner8 (l : List Int) : (rise l ≠ l) = ∃ j, ∃ h : j + 1 < l.length, l[j] ≥ l[j + 1] := by
  apply propext
  rw [ne_eq, rise_eq_iff, rises_iff_step]
  simp only [Classical.not_forall, Int.not_lt, ge_iff_le]

theorem innerCheck5 (l : Inner) (h : l.enc.length = 0) : innerCheck l = 5 := by rw [innerCheck, if_pos h]
theorem innerCheck4 (l : Inner) (h : ¬ l.enc.length = 0) (h1 : l.enc.length > 200 ∨ l.hash.length > 200 ∨ l.unmerged.length > 64) : innerCheck l = 4 := by rw [innerCheck, if_neg h, if_pos h1]
theorem innerCheck3 (l : Inner) (h : ¬ l.enc.length = 0) (h1 : ¬ (l.enc.length > 200 ∨ l.hash.length > 200 ∨ l.unmerged.length > 64)) (k : Nat) (hk : k < l.unmerged.length) (h2 : l.unmerged[k] < 0 ∨ l.unmerged[k] > 63) : innerCheck l = 3 := by
  rw [innerCheck, if_neg h, if_neg h1, if_pos]
  exact ⟨_, List.getElem_mem hk, h2⟩
theorem innerCheck8 (l : Inner) (h : ¬ l.enc.length = 0) (h1 : ¬ (l.enc.length > 200 ∨ l.hash.length > 200 ∨ l.unmerged.length > 64)) (h2 : ∀ j (h : j < l.unmerged.length), ¬ (l.unmerged[j] < 0 ∨ l.unmerged[j] > 63)) (k : Nat) (hk : k + 1 < l.unmerged.length) (h3 : l.unmerged[k] ≥ l.unmerged[k + 1]) : innerCheck l = 8 := by
  rw [innerCheck, if_neg h, if_neg h1, if_neg, if_pos]
  · rw [inner8]; exact ⟨k, hk, h3⟩
  · rw [inner3]; rintro ⟨j, hj, hh⟩; exact h2 j hj hh
theorem innerCheck0 (l : Inner) (h : ¬ l.enc.length = 0) (h1 : ¬ (l.enc.length > 200 ∨ l.hash.length > 200 ∨ l.unmerged.length > 64)) (h2 : ∀ j (h : j < l.unmerged.length), ¬ (l.unmerged[j] < 0 ∨ l.unmerged[j] > 63)) (h3 : ∀ j (h : j + 1 < l.unmerged.length), l.unmerged[j] < l.unmerged[j + 1]) : innerCheck l = 0 := by
  rw [innerCheck, if_neg h, if_neg h1, if_neg, if_neg]
  · rw [inner8]; rintro ⟨j, hj, hh⟩; have := h3 j hj; omega
  · rw [inner3]; rintro ⟨j, hj, hh⟩; exact h2 j hj hh

end Go.Proofs.YtlehcigcaihoaaaDoor.Al
