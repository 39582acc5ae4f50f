/-
  PLAIN LAWS: shifts and bits.
-/
import Derived.Test.YtlehcigcaihoaaaGreatAlQ1
set_option linter.unusedSimpArgs false
set_option linter.unusedVariables false
namespace Go.Proofs.YtlehcigcaihoaaaGreat.Al
open Go

/-- A number moved up by an octet, and an octet. -/
theorem or_octet (n x : Int) (h0 : 0 ≤ n) (h1 : n ≤ 16777216) (h2 : 0 ≤ x) (h3 : x ≤ 255) : bits .or .i64 (n * 256) x = n * 256 + x := by
  obtain ⟨a, rfl⟩ := Int.eq_ofNat_of_zero_le h0
  obtain ⟨b, rfl⟩ := Int.eq_ofNat_of_zero_le h2
  have e : ((a : Int) * 256) = ((a * 256 : Nat) : Int) := by omega
  rw [e]
  have ho : a * 256 ||| b = a * 256 + b := by
    rw [show a * 256 = a <<< 8 by rw [Nat.shiftLeft_eq], Nat.shiftLeft_add_eq_or_of_lt (by omega)]
  show IntKind.i64.wrap ((BitVec.ofInt 64 ((a * 256 : Nat) : Int) ||| BitVec.ofInt 64 (b : Int)).toNat : Int) = _
  rw [BitVec.toNat_or, BitVec.ofInt_natCast, BitVec.ofInt_natCast, BitVec.toNat_ofNat, BitVec.toNat_ofNat, Nat.mod_eq_of_lt (by omega), Nat.mod_eq_of_lt (by omega), ho]
  rw [wrap64 _ (by omega) (by omega)]
  omega
end Go.Proofs.YtlehcigcaihoaaaGreat.Al
