/-
  RULES: guards inside a statement of open order.
-/
import Derived.Test.YtlehcigcaihoaaaDoorAlD8
import Derived.Test.YtlehcigcaihoaaaDoorAlR
set_option linter.unusedSimpArgs false
set_option linter.unusedVariables false
namespace Go.Proofs.YtlehcigcaihoaaaDoor.Al
open Go

section
variable {S : Seat} {T : List (Reg S)} {env : Env} {d : Option Nat} {op : IOp} {l : List IOper} {Q : St → Prop} {labs : List Lab} {k : Nat} {Ps : List (List Entry)} {rs : List Pend} {H : List Entry} {g : Nat} {b : Lab}
theorem qgJ_tt : qgrdW S T (.bool true) true d op g l b labs k Ps rs Q env H = drawW S T (⟨d, op, none, []⟩ :: l) (b :: labs) k Ps rs Q ⟨env, H⟩ := by rw [qgrdW_b]; simp
theorem qgJ_ff : qgrdW S T (.bool false) false d op g l b labs k Ps rs Q env H = drawW S T (⟨d, op, none, []⟩ :: l) (b :: labs) k Ps rs Q ⟨env, H⟩ := by rw [qgrdW_b]; simp
theorem qgJ_tf : qgrdW S T (.bool true) false d op g l b labs k Ps rs Q env H = drawW S T l labs k Ps rs Q ⟨updo env d (.tup []), H⟩ := by rw [qgrdW_b]; simp
theorem qgJ_ft : qgrdW S T (.bool false) true d op g l b labs k Ps rs Q env H = drawW S T l labs k Ps rs Q ⟨updo env d (.tup []), H⟩ := by rw [qgrdW_b]; simp
end
end Go.Proofs.YtlehcigcaihoaaaDoor.Al
