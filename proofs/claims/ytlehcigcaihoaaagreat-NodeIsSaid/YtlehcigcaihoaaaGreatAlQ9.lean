/-
  PLAIN LAWS: octets as strings; what is got is well laid.
-/
import Derived.Test.YtlehcigcaihoaaaGreatAlQ10
set_option linter.unusedSimpArgs false
set_option linter.unusedVariables false
namespace Go.Proofs.YtlehcigcaihoaaaGreat.Al
open Go

theorem bytesOf_app (a b : List Int) : bytesOf (a ++ b) = bytesOf a ++ bytesOf b := by simp [bytesOf]
theorem bytesOf_len (a : List Int) : (bytesOf a).length = a.length := by simp [bytesOf]
theorem evStr_add (a b : List UInt8) (h : a.length + b.length ≤ maxRow) : evStr .add a b = some (.str (a ++ b)) := by simp [evStr, h]
theorem iget_ok {b : List Int} (hb : Oct b) : (iget b).1.Ok := by
  have ho := gbytes_oct hb
  rcases h1 : gbytes b with ⟨x, r, e⟩
  rw [h1] at ho
  have ho2 := gbytes_oct ho.2
  simp only at ho
  rcases h2 : gbytes r with ⟨y, s, f⟩
  rw [h2] at ho2
  have ho3 := gnums_nums ho2.2
  simp only at ho2
  rcases h3 : gnums s with ⟨l, t, g⟩
  rw [h3] at ho3
  simp only at ho3
  rw [iget_eq h1 h2 h3]
  split
  · exact .zero
  · split
    · exact .zero
    · split
      · exact .zero
      · split
        · exact .zero
        · exact ⟨ho.1, ho2.1, ho3⟩
theorem iget_nil {b : List Int} {n : Inner} {r : List Int} {e : Int} (h : iget b = (n, r, e)) (he : ¬ e = 0) : n = .zero ∧ r = [] := by
  have := iget_bad (b := b) (by rw [h]; exact he)
  rw [h] at this
  simp only [Prod.mk.injEq] at this
  exact ⟨this.1, this.2.1⟩
end Go.Proofs.YtlehcigcaihoaaaGreat.Al
