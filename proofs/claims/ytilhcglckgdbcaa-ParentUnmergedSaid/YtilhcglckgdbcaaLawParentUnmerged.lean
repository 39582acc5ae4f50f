/- The law ParentUnmerged of the package cordwoodlaw08 answers true for every input, and leaves its arguments as they were. No conditions. -/
import Derived.Test.YtilhcglckgdbcaaRows
import Derived.Test.YtilhcglckgdbcaaAlE2
import Derived.Test.YtilhcglckgdbcaaAlM13
set_option linter.unusedSimpArgs false
set_option linter.unusedVariables false
namespace Go.Proofs.Ytilhcglckgdbcaa.parentUnmerged
open Go Go.RowKit Go.ChangeShapes Go.WideShapes Go.ChangeAt Go.Proofs.Ytilhcglckgdbcaa.Al
theorem own : ownKnob Try.prog.godebug = none := by kernel_rfl
theorem laidOut : laidOutB Try.prog = true := by kernel_rfl
set_option maxRecDepth 100000 in
theorem lifted (os : Os) (started : os.Started) (H : Type) (enc : TypeId × Value → H) :
    ReturnsInHanded {} Try.checked os 8 .any (Rows.parentUnmergedSpec.pre6 enc Try.prog Try.f8 Rows.parentUnmergedRow.domain false) (Rows.parentUnmergedSpec.post enc Try.prog Try.f8 false true false false) := by
  refine returnsInHanded_of_change_sized (C := Try.checked) own started (by kernel_rfl) Try.func8
    (ChangeSpec.witness6 (enc := enc) (C := Try.checked) false ⟨#[], #[.agg #[.slice none 0 0, .slice none 0 0, .slice none 0 0], .int .i64 0], []⟩ 8 (by kernel_rfl) (by kernel_rfl) (by kernel_rfl) (by kernel_rfl)) ?_
  intro W base args ds gs before hval0 hW hcnd hsz0 _
  have hW' := hW
  obtain ⟨p, q, hA0, hV, rfl, hfz, hnd⟩ := hW
  have hval : ∀ (j : Nat) t v, Try.f8.params[j]? = some t → args[j]? = some v → Value.okWide Try.prog W .any base t v := hval0
  have hA : DataW.TrodAll enc Try.prog W 0 (fun _ => true) true Try.f8.params.toList args.toList ds p := hA0
  rw [Try.params8] at hA hval
  have hback := hA
  obtain ⟨v0, vs0, d0, ds0, p0, q0, hargs, rfl, rfl, h0, r0⟩ := trodAll_cons hA
  obtain ⟨v1, vs1, d1, ds1, p1, q1, rfl, rfl, rfl, h1, r1⟩ := trodAll_cons r0
  obtain ⟨rfl, rfl, rfl⟩ := trodAll_nil r1
  obtain rfl : args = #[v0, v1] := by cases args; simp_all
  obtain ⟨rfl, rfl⟩ := trodVars_none hV
  have z0 := sized_at (j := 0) (t := 25) hsz0 (by kernel_rfl) rfl
  obtain ⟨a0, w0, k0⟩ := Shape.many (S := seat) (F := Inner.cells) (n := 3) shapeInner (fun _ => rfl) (by decide) (w := W) h0 z0
  have z1 := sized_at (j := 1) (t := 3) hsz0 (by kernel_rfl) rfl
  have n1 : ∀ cs, v1 ≠ .agg cs := fun cs h => by
    obtain ⟨x, hx⟩ := okWide_int (P := Try.prog) (t := 3) (k := .i64) (by kernel_rfl) (hval 1 3 v1 rfl rfl)
    rw [h] at hx; cases hx
  obtain ⟨a1, w1, k1⟩ := Shape.one (S := seat) (t := 3) (E := (AV.int .i64)) shapeInt (fun _ => rfl) (w := W) h1 z1 n1
  have key : Calls Try.prog 8 #[v0, v1] W fun e w' => e = .returned (.bool true) ∧ Below W.heap.size W w' :=
    law_calls (S := seat) (c := 174) (parentUnmerged_spec a0 a1 w0 w1) (.cons k0 (.cons k1 (Handed.nil seat W)))
  refine key.mono fun e W' ⟨he, bel⟩ => ?_
  subst he
  exact ⟨_, rfl, _, _, _, [], _, [], hW', trodAll_mk1 (shut_bool Try.underlying4 _), handed_back laidOut bel (by kernel_rfl) hback, rfl, bel.frame _, fun h => by cases h⟩
theorem over : Rows.parentUnmergedRow.holds Try.pinned (OpenSpec.ofChange Rows.parentUnmergedSpec) :=
  OpenClaim.holds_of_wide 8 Try.f8 rfl rfl rfl rfl rfl rfl rfl ⟨rfl, rfl, rfl, rfl, rfl⟩ rfl rfl rfl rfl rfl (by kernel_rfl) Try.func8 (by kernel_rfl)
    (of_decide_eq_true (by kernel_rfl)) (by unfold Func.isWrapper; first | (rw [if_pos (by decide +kernel)]; kernel_rfl) | (rw [if_neg (by decide +kernel)]; exact ⟨rfl, rfl⟩))
    (fun os started H enc _ => lifted os started H enc)
theorem proved : Rows.ParentUnmergedSaid := over
end Go.Proofs.Ytilhcglckgdbcaa.parentUnmerged
namespace Go.Proofs.Ytilhcglckgdbcaa
/-- The row, under a short name, for the claim. -/
theorem parentUnmerged_holds : Rows.ParentUnmergedSaid := parentUnmerged.proved
#print axioms parentUnmerged_holds
end Go.Proofs.Ytilhcglckgdbcaa
