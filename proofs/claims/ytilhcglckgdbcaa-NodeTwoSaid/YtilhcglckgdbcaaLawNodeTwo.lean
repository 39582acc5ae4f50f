/- The law NodeTwo of the package cordwoodlaw09 answers true for every input, and leaves its arguments as they were. No conditions. -/
import Derived.Test.YtilhcglckgdbcaaRows
import Derived.Test.YtilhcglckgdbcaaAlE2
import Derived.Test.YtilhcglckgdbcaaAlM23
set_option linter.unusedSimpArgs false
set_option linter.unusedVariables false
namespace Go.Proofs.Ytilhcglckgdbcaa.nodeTwo
open Go Go.RowKit Go.ChangeShapes Go.WideShapes Go.ChangeAt Go.Proofs.Ytilhcglckgdbcaa.Al
theorem own : ownKnob Try.prog.godebug = none := by kernel_rfl
theorem laidOut : laidOutB Try.prog = true := by kernel_rfl
set_option maxRecDepth 100000 in
theorem lifted (os : Os) (started : os.Started) (H : Type) (enc : TypeId × Value → H) :
    ReturnsInHanded {} Try.checked os 12 .any (Rows.nodeTwoSpec.pre6 enc Try.prog Try.f12 Rows.nodeTwoRow.domain false) (Rows.nodeTwoSpec.post enc Try.prog Try.f12 false true false false) := by
  refine returnsInHanded_of_change_sized (C := Try.checked) own started (by kernel_rfl) Try.func12
    (ChangeSpec.witness6 (enc := enc) (C := Try.checked) false ⟨#[], #[.slice none 0 0], []⟩ 8 (by kernel_rfl) (by kernel_rfl) (by kernel_rfl) (by kernel_rfl)) ?_
  intro W base args ds gs before hval0 hW hcnd hsz0 _
  have hW' := hW
  obtain ⟨p, q, hA0, hV, rfl, hfz, hnd⟩ := hW
  have hval : ∀ (j : Nat) t v, Try.f12.params[j]? = some t → args[j]? = some v → Value.okWide Try.prog W .any base t v := hval0
  have hA : DataW.TrodAll enc Try.prog W 0 (fun _ => true) true Try.f12.params.toList args.toList ds p := hA0
  rw [Try.params12] at hA hval
  have hback := hA
  obtain ⟨v0, vs0, d0, ds0, p0, q0, hargs, rfl, rfl, h0, r0⟩ := trodAll_cons hA
  obtain ⟨rfl, rfl, rfl⟩ := trodAll_nil r0
  obtain rfl : args = #[v0] := by cases args; simp_all
  obtain ⟨rfl, rfl⟩ := trodVars_none hV
  have z0 := sized_at (j := 0) (t := 57) hsz0 (by kernel_rfl) rfl
  have n0 : ∀ cs, v0 ≠ .agg cs := fun cs h => by
    obtain ⟨x, y, z, hx⟩ := okWide_slice (P := Try.prog) (t := 57) (e := 46) (by kernel_rfl) (hval 0 57 v0 rfl rfl)
    rw [h] at hx; cases hx
  obtain ⟨a0, w0, k0⟩ := Shape.one (S := seat) (t := 57) (E := nodes) shapeNodes (fun _ => rfl) (w := W) h0 z0 n0
  have key : Calls Try.prog 12 #[v0] W fun e w' => e = .returned (.bool true) ∧ Below W.heap.size W w' :=
    law_calls (S := seat) (c := 178) (nodeTwo_spec a0 w0) (.cons k0 (Handed.nil seat W))
  refine key.mono fun e W' ⟨he, bel⟩ => ?_
  subst he
  exact ⟨_, rfl, _, _, _, [], _, [], hW', trodAll_mk1 (shut_bool Try.underlying4 _), handed_back laidOut bel (by kernel_rfl) hback, rfl, bel.frame _, fun h => by cases h⟩
theorem over : Rows.nodeTwoRow.holds Try.pinned (OpenSpec.ofChange Rows.nodeTwoSpec) :=
  OpenClaim.holds_of_wide 12 Try.f12 rfl rfl rfl rfl rfl rfl rfl ⟨rfl, rfl, rfl, rfl, rfl⟩ rfl rfl rfl rfl rfl (by kernel_rfl) Try.func12 (by kernel_rfl)
    (of_decide_eq_true (by kernel_rfl)) (by unfold Func.isWrapper; first | (rw [if_pos (by decide +kernel)]; kernel_rfl) | (rw [if_neg (by decide +kernel)]; exact ⟨rfl, rfl⟩))
    (fun os started H enc _ => lifted os started H enc)
theorem proved : Rows.NodeTwoSaid := over
end Go.Proofs.Ytilhcglckgdbcaa.nodeTwo
namespace Go.Proofs.Ytilhcglckgdbcaa
/-- The row, under a short name, for the claim. -/
theorem nodeTwo_holds : Rows.NodeTwoSaid := nodeTwo.proved
#print axioms nodeTwo_holds
end Go.Proofs.Ytilhcglckgdbcaa
