/-
  PLAIN LAWS: trees as rows of nodes.
-/
import Derived.Test.YtihhinbjhiankaaGreatDoorAlP5
set_option linter.unusedSimpArgs false
set_option linter.unusedVariables false
namespace Go.Proofs.YtihhinbjhiankaaGreatDoor.Al

/-- May a node of that kind stand at a place? -/
def Stands (x k : Int) : Prop := if x.tmod 2 = 0 then k ≠ 2 else k ≠ 1
instance (x k : Int) : Decidable (Stands x k) := by unfold Stands; infer_instance
/-- A width. -/
def Whole (w : Int) : Prop := w = 1 ∨ w = 3 ∨ w = 7 ∨ w = 15 ∨ w = 31 ∨ w = 63 ∨ w = 127
instance (w : Int) : Decidable (Whole w) := inferInstanceAs (Decidable (_ ∨ _))
def Good (x : Nat) (n : Node) : Prop := Stands x n.kind ∧ nodeCheck n = 0
instance (x : Nat) (n : Node) : Decidable (Good x n) := inferInstanceAs (Decidable (_ ∧ _))
/-- A tree. -/
def Sane (t : List Node) : Prop := (∀ x (h : x < t.length), Good x t[x]) ∧ (t.length = 0 ∨ Whole t.length)
instance (t : List Node) : Decidable (Sane t) := inferInstanceAs (Decidable (_ ∧ _))
def known (t : List Node) : List Node := if Sane t then t else []
def leaves_ (t : List Node) : Int := ((known t).length + 1) / 2

theorem whole_bits (w : Int) (h0 : 0 < w) (h1 : w ≤ 127) : (Go.bits .and .i64 w (w + 1) = 0) = Whole w := by
  have key : ∀ n : Nat, n < 128 → 0 < n → (Go.bits .and .i64 (n : Int) (n + 1) = 0 ↔ Whole (n : Int)) := by decide +kernel
  have := key w.toNat (by omega) (by omega)
  rw [Int.toNat_of_nonneg (by omega)] at this
  exact propext this
theorem Whole.le {w : Int} (h : Whole w) : 0 < w ∧ w ≤ 127 := by unfold Whole at h; omega
theorem Whole.odd {w : Int} (h : Whole w) : w % 2 = 1 := by unfold Whole at h; omega
theorem Sane.len {t : List Node} (h : Sane t) : t.length ≤ 127 := by
  rcases h.2 with h | h
  · omega
  · have := h.le; omega
theorem Sane.nil : Sane [] := ⟨fun x h => by simp at h, .inl rfl⟩
theorem known_len (t : List Node) : (known t).length ≤ 127 := by
  unfold known
  split
  · rename_i h; exact h.len
  · simp
theorem known_sane (t : List Node) : Sane (known t) := by
  unfold known
  split
  · assumption
  · exact .nil
theorem known_known (t : List Node) : known (known t) = known t := by
  rw [known, if_pos (known_sane t)]
theorem known_of {t : List Node} (h : Sane t) : known t = t := if_pos h
theorem known_ok {t : List Node} (h : Tree.Ok t) : Tree.Ok (known t) := by
  unfold known
  split
  · exact h
  · exact .nil
theorem fits_tmod (x k : Int) : Stands x k = if x.tmod 2 = 0 then k ≠ 2 else k ≠ 1 := rfl

theorem check_zero : nodeCheck .zero = 0 := by decide
theorem good_zero (x : Nat) : Good x .zero := by
  refine ⟨?_, check_zero⟩
  unfold Stands; split <;> decide
end Go.Proofs.YtihhinbjhiankaaGreatDoor.Al
