/-
  PLAIN LAWS: trees in which a leaf and its way up are made blank.
-/
import Derived.Test.YtlehcigcaihoaaaGreatDoorAlP13
import Derived.Test.YtlehcigcaihoaaaGreatDoorAlP10
set_option linter.unusedSimpArgs false
set_option linter.unusedVariables false
namespace Go.Proofs.YtlehcigcaihoaaaGreatDoor.Al
open Go

theorem nodeAt_of {t : List Node} {x : Nat} (h : x < t.length) : nodeAt t x = t[x] := by simp [nodeAt, h]
theorem zeroAt_at (t : List Node) (L : List Int) (hL : ∀ p ∈ L, 0 ≤ p) {x : Nat} (h : x < (zeroAt t L).length) : (zeroAt t L)[x] = if (x : Int) ∈ L then .zero else t[x]'(by rw [← zeroAt_len t L]; exact h) := by
  have hx : x < t.length := by rw [← zeroAt_len t L]; exact h
  rw [← nodeAt_of h, zeroAt_get L t x hx hL, nodeAt_of hx]
theorem zeroAt_sane {t : List Node} (h : Sane t) (L : List Int) (hL : ∀ p ∈ L, 0 ≤ p) : Sane (zeroAt t L) := by
  refine ⟨fun x hx => ?_, by rw [zeroAt_len]; exact h.2⟩
  rw [zeroAt_at t L hL hx]
  split
  · exact good_zero x
  · exact h.1 x _
theorem zeroAt_twice (t : List Node) (L : List Int) (hL : ∀ p ∈ L, 0 ≤ p) : zeroAt (zeroAt t L) L = zeroAt t L := by
  refine List.ext_getElem (by rw [zeroAt_len]) fun x h1 h2 => ?_
  rw [zeroAt_at _ L hL h1]
  split
  · rw [zeroAt_at _ L hL h2, if_pos (by assumption)]
  · rfl
theorem zeroAt_ok {t : List Node} (h : Tree.Ok t) (L : List Int) : Tree.Ok (zeroAt t L) := by
  have : ∀ (L : List Int) (t : List Node), (∀ n ∈ t, n.Ok) → ∀ n ∈ zeroAt t L, n.Ok := by
    intro L
    induction L with
    | nil => intro t h; exact h
    | cons p L ih =>
      intro t h
      refine ih _ fun n hn => ?_
      rcases List.mem_or_eq_of_mem_set hn with hn | rfl
      · exact h n hn
      · exact .zero
  refine ⟨?_, this L t h.2⟩
  have := h.1
  simp only [Small] at this ⊢
  rw [zeroAt_len]; exact this
/-- The places that are made blank. -/
def blanks (w : Nat) (i : Int) : List Int := directI (2 * i) w ++ [2 * i]
theorem clear_in {t : List Node} (hs : Sane t) {i : Int} (h0 : 0 ≤ i) (h1 : i < leaves_ t) : IsN (2 * i) t.length ∧ clearT t i = (zeroAt t (blanks t.length i), 0) ∧ (∀ p ∈ blanks t.length i, 0 ≤ p) ∧ ∀ x : Int, x ∈ blanks t.length i ↔ x ∈ ups (2 * i) t.length := by
  have lv : leaves_ t = (t.length + 1) / 2 := by unfold leaves_; rw [known_of hs]
  have hne : ¬ t.length = 0 := by omega
  have hw : Whole t.length := hs.2.resolve_left hne
  have hodd : (t.length : Int) % 2 = 1 := by unfold Whole at hw; omega
  have hN : IsN (2 * i) t.length := ⟨hw, by omega, by omega⟩
  have hm : ∀ x : Int, x ∈ blanks t.length i ↔ x ∈ ups (2 * i) t.length := by
    intro x
    unfold blanks directI
    rw [ups_step hN]
    simp only [List.tail_cons, List.mem_append, List.mem_cons, List.not_mem_nil, or_false]
    exact Or.comm
  refine ⟨hN, ?_, fun p hp => (ups_is ((hm p).1 hp)).2.1, hm⟩
  unfold clearT blanks
  rw [if_neg (by omega), known_of hs]
theorem clear_out {t : List Node} {i : Int} (h : i < 0 ∨ i ≥ leaves_ t) : clearT t i = ([], 3) := if_pos h
theorem clear_sane (t : List Node) (i : Int) : Sane (clearT t i).1 := by
  by_cases h : i < 0 ∨ i ≥ leaves_ t
  · rw [clear_out h]; exact .nil
  · have hk := known_sane t
    have e : leaves_ (known t) = leaves_ t := by unfold leaves_; rw [known_known]
    have e2 : clearT t i = clearT (known t) i := by unfold clearT; rw [e, known_known]
    obtain ⟨_, h1, h2, _⟩ := clear_in hk (i := i) (by omega) (by omega)
    rw [e2, h1]
    exact zeroAt_sane hk _ h2
theorem clear_ok {t : List Node} (ht : Tree.Ok t) (i : Int) : Tree.Ok (clearT t i).1 := by
  unfold clearT
  split
  · exact .nil
  · exact zeroAt_ok (known_ok ht) _
end Go.Proofs.YtlehcigcaihoaaaGreatDoor.Al
