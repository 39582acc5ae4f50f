/-
  PLAIN LAWS: step by step on the wire.
-/
import Derived.Test.YtlehcigcaihoaaaGreatAlQ2
import Derived.Test.YtlehcigcaihoaaaGreatAlQ3
import Derived.Test.YtlehcigcaihoaaaGreatAlQ4
import Derived.Test.YtlehcigcaihoaaaGreatAlR
set_option linter.unusedSimpArgs false
set_option linter.unusedVariables false
namespace Go.Proofs.YtlehcigcaihoaaaGreat.Al
open Go

/-- How many octets a number is to have. -/
def clampK (k : Int) : Int := if k < 1 then 1 else if k > 4 then 4 else k
theorem clampK_bd (k : Int) : 1 ≤ clampK k ∧ clampK k ≤ 4 := by
  unfold clampK
  split
  · omega
  · split <;> omega
/-- A number's octets, the greatest first. -/
def beK (k : Nat) (n : Int) : List Int := (List.range k).map fun i => n / 256 ^ (k - 1 - i) % 256
theorem beK_len (k : Nat) (n : Int) : (beK k n).length = k := by simp [beK]
theorem beK_take {k i : Nat} (n : Int) (h : i < k) : (beK k n).take (i + 1) = (beK k n).take i ++ [n / 256 ^ (k - 1 - i) % 256] := by
  rw [List.take_succ_eq_append_getElem (by rw [beK_len]; exact h)]
  simp [beK]
theorem beK_all (k : Nat) (n : Int) : (beK k n).take k = beK k n := List.take_of_length_le (by rw [beK_len]; exact Nat.le_refl k)
theorem beK_4 (n : Int) : beK 4 n = be4 n := by
  simp [beK, be4, List.range_succ]
theorem be4_bytes (n : Int) : Bytes (be4 n) := by
  intro x hx
  simp only [be4, List.mem_cons, List.not_mem_nil, or_false] at hx
  omega
theorem shr_octet (n : Int) {e : Nat} (he : e ≤ 3) : IntKind.u8.wrap (n.fdiv (2 ^ (min (8 * e) IntKind.i64.bits))) = n / 256 ^ e % 256 := by
  rw [wrapU8]
  match e, he with
  | 0, _ => rw [Int.fdiv_eq_ediv_of_nonneg _ (by decide)]; rfl
  | 1, _ => rw [Int.fdiv_eq_ediv_of_nonneg _ (by decide)]; rfl
  | 2, _ => rw [Int.fdiv_eq_ediv_of_nonneg _ (by decide)]; rfl
  | 3, _ => rw [Int.fdiv_eq_ediv_of_nonneg _ (by decide)]; rfl
theorem num_snoc (l : List Int) (x : Int) : num (l ++ [x]) = num l * 256 + x := by simp [num]
theorem num_take {l : List Int} {i : Nat} (h : i < l.length) : num (l.take (i + 1)) = num (l.take i) * 256 + l[i] := by
  rw [List.take_succ_eq_append_getElem h, num_snoc]
theorem num_bd3 {l : List Int} (h : Bytes l) (hl : l.length ≤ 3) : 0 ≤ num l ∧ num l < 16777216 := by
  match l, h, hl with
  | [], _, _ => simp [num]
  | [a], h, _ => have := h a (by simp); simp [num]; omega
  | [a, b], h, _ => have := h a (by simp); have := h b (by simp); simp [num]; omega
  | [a, b, c], h, _ => have := h a (by simp); have := h b (by simp); have := h c (by simp); simp [num]; omega
theorem num_bd4 {l : List Int} (h : Bytes l) (hl : l.length ≤ 4) : 0 ≤ num l ∧ num l < 4294967296 := by
  match l, h, hl with
  | [], _, _ => simp [num]
  | [a], h, _ => have := h a (by simp); simp [num]; omega
  | [a, b], h, _ => have := h a (by simp); have := h b (by simp); simp [num]; omega
  | [a, b, c], h, _ => have := h a (by simp); have := h b (by simp); have := h c (by simp); simp [num]; omega
  | [a, b, c, d], h, _ => have := h a (by simp); have := h b (by simp); have := h c (by simp); have := h d (by simp); simp [num]; omega
theorem flat_take {l : List Int} {k : Nat} (h : k < l.length) : (l.take (k + 1)).flatMap be4 = (l.take k).flatMap be4 ++ be4 l[k] := by
  rw [List.take_succ_eq_append_getElem h, List.flatMap_append]; simp
theorem num4_app : ∀ {a b : List Int}, a.length % 4 = 0 → num4 (a ++ b) = num4 a ++ num4 b
  | [], b, _ => rfl
  | [_], _, h => by simp at h
  | [_, _], _, h => by simp at h
  | [_, _, _], _, h => by simp at h
  | x :: y :: z :: w :: r, b, h => by
    have ih := num4_app (a := r) (b := b) (by simp at h; omega)
    simp only [List.cons_append, num4, ih]
theorem num4_four {l : List Int} (h : l.length = 4) : num4 l = [num l] := by
  match l, h with
  | [_, _, _, _], _ => rfl
theorem num4_step {v : List Int} {k : Nat} (h : 4 * (k + 1) ≤ v.length) : num4 (v.take (4 * (k + 1))) = num4 (v.take (4 * k)) ++ [num ((v.drop (4 * k)).take 4)] := by
  have e : v.take (4 * (k + 1)) = v.take (4 * k) ++ (v.drop (4 * k)).take 4 := by
    rw [show 4 * (k + 1) = 4 * k + 4 by omega, List.take_add]
  rw [e, num4_app (by rw [List.length_take]; omega), num4_four (l := (v.drop (4 * k)).take 4) (by rw [List.length_take, List.length_drop]; omega)]
theorem num4_len : ∀ v : List Int, v.length % 4 = 0 → (num4 v).length = v.length / 4
  | [], _ => rfl
  | [_], h => by simp at h
  | [_, _], h => by simp at h
  | [_, _, _], h => by simp at h
  | x :: y :: z :: w :: r, h => by
    have ih := num4_len r (by simp at h; omega)
    simp only [num4, List.length_cons, ih]; omega
theorem vput_bytes {n : Int} (h0 : 0 ≤ n) : Bytes (vput n) := by
  intro x hx
  unfold vput at hx
  by_cases h : n < 0 ∨ n > 1073741823
  · rw [if_pos h] at hx; cases hx
  rw [if_neg h] at hx
  by_cases h1 : n < 64
  · rw [if_pos h1] at hx; simp at hx; omega
  rw [if_neg h1] at hx
  by_cases h2 : n < 16384
  · rw [if_pos h2] at hx; simp at hx; omega
  · rw [if_neg h2] at hx; simp at hx; omega
theorem bytes_of {b : List Int} (h : Oct b) : Bytes b := fun x hx => by
  have := h.2 x hx
  have e1 : IntKind.u8.min = 0 := rfl
  have e2 : IntKind.u8.max = 255 := rfl
  omega
theorem oct_of {b : List Int} (h : Bytes b) (hl : b.length ≤ 140737488355328) : Oct b := ⟨hl, fun x hx => by
  have := h x hx
  have e1 : IntKind.u8.min = 0 := rfl
  have e2 : IntKind.u8.max = 255 := rfl
  omega⟩
theorem vget_rest {b : List Int} : (vget b).2.1.length ≤ b.length ∧ ∀ x ∈ (vget b).2.1, x ∈ b := by
  cases b with
  | nil => simp [vget]
  | cons x b =>
    simp only [vget]
    split
    · simp
    · split
      · simp
      · split
        · simp
        · refine ⟨by simp; omega, fun y hy => List.mem_cons_of_mem _ (List.mem_of_mem_drop hy)⟩
theorem gbytes_sub (b : List Int) : ((gbytes b).1.length ≤ b.length ∧ ∀ x ∈ (gbytes b).1, x ∈ b) ∧ ((gbytes b).2.1.length ≤ b.length ∧ ∀ x ∈ (gbytes b).2.1, x ∈ b) := by
  have h := vget_rest (b := b)
  unfold gbytes
  split
  · simp
  · split
    · simp
    · split
      · simp
      · refine ⟨⟨by simp; omega, fun x hx => h.2 x (List.mem_of_mem_take hx)⟩, ⟨by simp; omega, fun x hx => h.2 x (List.mem_of_mem_drop hx)⟩⟩
theorem gbytes_oct {b : List Int} (h : Oct b) : Oct (gbytes b).1 ∧ Oct (gbytes b).2.1 := by
  have hs := gbytes_sub b
  have hl := h.1
  simp only [Small] at hl
  exact ⟨⟨by simp only [Small]; omega, fun x hx => h.2 x (hs.1.2 x hx)⟩, ⟨by simp only [Small]; omega, fun x hx => h.2 x (hs.2.2 x hx)⟩⟩
end Go.Proofs.YtlehcigcaihoaaaGreat.Al
