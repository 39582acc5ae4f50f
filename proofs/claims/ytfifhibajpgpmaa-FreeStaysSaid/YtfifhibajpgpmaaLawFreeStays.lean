/- The law FreeStays of the package cordwoodlaw17 answers true for every input, and leaves its arguments as they were. No conditions. -/
import Derived.Test.YtfifhibajpgpmaaRows
import Derived.Test.YtfifhibajpgpmaaAlE1
import Derived.Test.YtfifhibajpgpmaaAlL7
set_option linter.unusedSimpArgs false
set_option linter.unusedVariables false
namespace Go.Proofs.Ytfifhibajpgpmaa.freeStays
open Go Go.RowKit Go.ChangeShapes Go.WideShapes Go.ChangeAt Go.Proofs.Ytfifhibajpgpmaa.Al
theorem own : ownKnob Try.prog.godebug = none := by kernel_rfl
theorem laidOut : laidOutB Try.prog = true := by kernel_rfl
set_option maxRecDepth 100000 in
theorem lifted (os : Os) (started : os.Started) (H : Type) (enc : TypeId × Value → H) :
    ReturnsInHanded {} Try.checked os 7 .any (Rows.freeStaysSpec.pre6 enc Try.prog Try.f7 Rows.freeStaysRow.domain false) (Rows.freeStaysSpec.post enc Try.prog Try.f7 false true false false) := by
  refine returnsInHanded_of_change_sized (C := Try.checked) own started (by kernel_rfl) Try.func7
    (ChangeSpec.witness6 (enc := enc) (C := Try.checked) false ⟨#[], #[.slice none 0 0, .slice none 0 0, .slice none 0 0], []⟩ 8 (by kernel_rfl) (by kernel_rfl) (by kernel_rfl) (by kernel_rfl)) ?_
  intro W base args ds gs before hval0 hW hcnd hsz0 _
  have hW' := hW
  obtain ⟨p, q, hA0, hV, rfl, hfz, hnd⟩ := hW
  have hval : ∀ (j : Nat) t v, Try.f7.params[j]? = some t → args[j]? = some v → Value.okWide Try.prog W .any base t v := hval0
  have hA : DataW.TrodAll enc Try.prog W 0 (fun _ => true) true Try.f7.params.toList args.toList ds p := hA0
  rw [Try.params7] at hA hval
  have hback := hA
  obtain ⟨v0, vs0, d0, ds0, p0, q0, hargs, rfl, rfl, h0, r0⟩ := trodAll_cons hA
  obtain ⟨v1, vs1, d1, ds1, p1, q1, rfl, rfl, rfl, h1, r1⟩ := trodAll_cons r0
  obtain ⟨v2, vs2, d2, ds2, p2, q2, rfl, rfl, rfl, h2, r2⟩ := trodAll_cons r1
  obtain ⟨rfl, rfl, rfl⟩ := trodAll_nil r2
  obtain rfl : args = #[v0, v1, v2] := by cases args; simp_all
  obtain ⟨rfl, rfl⟩ := trodVars_none hV
  have n0 : ∀ cs, v0 ≠ .agg cs := fun cs h => by
    obtain ⟨x, y, z, hx⟩ := okWide_slice (P := Try.prog) (t := 22) (e := 3) (by kernel_rfl) (hval 0 22 v0 rfl rfl)
    rw [h] at hx; cases hx
  obtain ⟨a0, w0, k0⟩ := Shape.one (S := seat) (t := 22) (E := ints) (Shape.slice (t := 22) (e := 3) (sz := 1) (by kernel_rfl) (by kernel_rfl) (by decide) (fun _ => rfl) (Shape.int (k := .i64) (t := 3) (by kernel_rfl))) (fun _ => rfl) (w := W) h0 n0
  have n1 : ∀ cs, v1 ≠ .agg cs := fun cs h => by
    obtain ⟨x, y, z, hx⟩ := okWide_slice (P := Try.prog) (t := 22) (e := 3) (by kernel_rfl) (hval 1 22 v1 rfl rfl)
    rw [h] at hx; cases hx
  obtain ⟨a1, w1, k1⟩ := Shape.one (S := seat) (t := 22) (E := ints) (Shape.slice (t := 22) (e := 3) (sz := 1) (by kernel_rfl) (by kernel_rfl) (by decide) (fun _ => rfl) (Shape.int (k := .i64) (t := 3) (by kernel_rfl))) (fun _ => rfl) (w := W) h1 n1
  have n2 : ∀ cs, v2 ≠ .agg cs := fun cs h => by
    obtain ⟨x, y, z, hx⟩ := okWide_slice (P := Try.prog) (t := 22) (e := 3) (by kernel_rfl) (hval 2 22 v2 rfl rfl)
    rw [h] at hx; cases hx
  obtain ⟨a2, w2, k2⟩ := Shape.one (S := seat) (t := 22) (E := ints) (Shape.slice (t := 22) (e := 3) (sz := 1) (by kernel_rfl) (by kernel_rfl) (by decide) (fun _ => rfl) (Shape.int (k := .i64) (t := 3) (by kernel_rfl))) (fun _ => rfl) (w := W) h2 n2
  have key : Calls Try.prog 7 #[v0, v1, v2] W fun e w' => e = .returned (.bool true) ∧ Below W.heap.size W w' :=
    law_calls (S := seat) (c := 7) (freeStays_spec a0 a1 a2 ) (.cons k0 (.cons k1 (.cons k2 (Handed.nil seat W))))
  refine key.mono fun e W' ⟨he, bel⟩ => ?_
  subst he
  exact ⟨_, rfl, _, _, _, [], _, [], hW', trodAll_mk1 (shut_bool Try.underlying4 _), handed_back laidOut bel (by kernel_rfl) hback, rfl, bel.frame _, fun h => by cases h⟩
theorem over : Rows.freeStaysRow.holds Try.pinned (OpenSpec.ofChange Rows.freeStaysSpec) :=
  OpenClaim.holds_of_wide 7 Try.f7 rfl rfl rfl rfl rfl rfl rfl ⟨rfl, rfl, rfl, rfl, rfl⟩ rfl rfl rfl rfl rfl (by kernel_rfl) Try.func7 (by kernel_rfl)
    (of_decide_eq_true (by kernel_rfl)) (by unfold Func.isWrapper; first | (rw [if_pos (by decide +kernel)]; kernel_rfl) | (rw [if_neg (by decide +kernel)]; exact ⟨rfl, rfl⟩))
    (fun os started H enc _ => lifted os started H enc)
theorem proved : Rows.FreeStaysSaid := over
end Go.Proofs.Ytfifhibajpgpmaa.freeStays
namespace Go.Proofs.Ytfifhibajpgpmaa
/-- The row, under a short name, for the claim. -/
theorem freeStays_holds : Rows.FreeStaysSaid := freeStays.proved
#print axioms freeStays_holds
end Go.Proofs.Ytfifhibajpgpmaa
