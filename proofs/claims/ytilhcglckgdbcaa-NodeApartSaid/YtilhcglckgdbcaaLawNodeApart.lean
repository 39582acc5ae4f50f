/- The law NodeApart of the package cordwoodlaw09 answers true for every input, and leaves its arguments as they were. No conditions. -/
import Derived.Test.YtilhcglckgdbcaaRows
import Derived.Test.YtilhcglckgdbcaaAlE2
import Derived.Test.YtilhcglckgdbcaaAlM24
set_option linter.unusedSimpArgs false
set_option linter.unusedVariables false
namespace Go.Proofs.Ytilhcglckgdbcaa.nodeApart
open Go Go.RowKit Go.ChangeShapes Go.WideShapes Go.ChangeAt Go.Proofs.Ytilhcglckgdbcaa.Al
theorem own : ownKnob Try.prog.godebug = none := by kernel_rfl
theorem laidOut : laidOutB Try.prog = true := by kernel_rfl
set_option maxRecDepth 100000 in
theorem lifted (os : Os) (started : os.Started) (H : Type) (enc : TypeId × Value → H) :
    ReturnsInHanded {} Try.checked os 11 .any (Rows.nodeApartSpec.pre6 enc Try.prog Try.f11 Rows.nodeApartRow.domain false) (Rows.nodeApartSpec.post enc Try.prog Try.f11 false true false false) := by
  refine returnsInHanded_of_change_sized (C := Try.checked) own started (by kernel_rfl) Try.func11
    (ChangeSpec.witness6 (enc := enc) (C := Try.checked) false ⟨#[], #[.agg #[.int .i64 0, .slice none 0 0, .slice none 0 0, .int .i64 0, .slice none 0 0, .slice none 0 0, .slice none 0 0, .slice none 0 0], .agg #[.int .i64 0, .slice none 0 0, .slice none 0 0, .int .i64 0, .slice none 0 0, .slice none 0 0, .slice none 0 0, .slice none 0 0], .int .i64 0, .int .i64 0, .slice none 0 0, .slice none 0 0], []⟩ 8 (by kernel_rfl) (by kernel_rfl) (by kernel_rfl) (by kernel_rfl)) ?_
  intro W base args ds gs before hval0 hW hcnd hsz0 _
  have hW' := hW
  obtain ⟨p, q, hA0, hV, rfl, hfz, hnd⟩ := hW
  have hval : ∀ (j : Nat) t v, Try.f11.params[j]? = some t → args[j]? = some v → Value.okWide Try.prog W .any base t v := hval0
  have hA : DataW.TrodAll enc Try.prog W 0 (fun _ => true) true Try.f11.params.toList args.toList ds p := hA0
  rw [Try.params11] at hA hval
  have hback := hA
  obtain ⟨v0, vs0, d0, ds0, p0, q0, hargs, rfl, rfl, h0, r0⟩ := trodAll_cons hA
  obtain ⟨v1, vs1, d1, ds1, p1, q1, rfl, rfl, rfl, h1, r1⟩ := trodAll_cons r0
  obtain ⟨v2, vs2, d2, ds2, p2, q2, rfl, rfl, rfl, h2, r2⟩ := trodAll_cons r1
  obtain ⟨v3, vs3, d3, ds3, p3, q3, rfl, rfl, rfl, h3, r3⟩ := trodAll_cons r2
  obtain ⟨v4, vs4, d4, ds4, p4, q4, rfl, rfl, rfl, h4, r4⟩ := trodAll_cons r3
  obtain ⟨v5, vs5, d5, ds5, p5, q5, rfl, rfl, rfl, h5, r5⟩ := trodAll_cons r4
  obtain ⟨rfl, rfl, rfl⟩ := trodAll_nil r5
  obtain rfl : args = #[v0, v1, v2, v3, v4, v5] := by cases args; simp_all
  obtain ⟨rfl, rfl⟩ := trodVars_none hV
  have z0 := sized_at (j := 0) (t := 46) hsz0 (by kernel_rfl) rfl
  obtain ⟨a0, w0, k0⟩ := Shape.many (S := seat) (F := Node.cells) (n := 8) shapeNode (fun _ => rfl) (by decide) (w := W) h0 z0
  have z1 := sized_at (j := 1) (t := 46) hsz0 (by kernel_rfl) rfl
  obtain ⟨a1, w1, k1⟩ := Shape.many (S := seat) (F := Node.cells) (n := 8) shapeNode (fun _ => rfl) (by decide) (w := W) h1 z1
  have z2 := sized_at (j := 2) (t := 3) hsz0 (by kernel_rfl) rfl
  have n2 : ∀ cs, v2 ≠ .agg cs := fun cs h => by
    obtain ⟨x, hx⟩ := okWide_int (P := Try.prog) (t := 3) (k := .i64) (by kernel_rfl) (hval 2 3 v2 rfl rfl)
    rw [h] at hx; cases hx
  obtain ⟨a2, w2, k2⟩ := Shape.one (S := seat) (t := 3) (E := (AV.int .i64)) shapeInt (fun _ => rfl) (w := W) h2 z2 n2
  have z3 := sized_at (j := 3) (t := 3) hsz0 (by kernel_rfl) rfl
  have n3 : ∀ cs, v3 ≠ .agg cs := fun cs h => by
    obtain ⟨x, hx⟩ := okWide_int (P := Try.prog) (t := 3) (k := .i64) (by kernel_rfl) (hval 3 3 v3 rfl rfl)
    rw [h] at hx; cases hx
  obtain ⟨a3, w3, k3⟩ := Shape.one (S := seat) (t := 3) (E := (AV.int .i64)) shapeInt (fun _ => rfl) (w := W) h3 z3 n3
  have z4 := sized_at (j := 4) (t := 22) hsz0 (by kernel_rfl) rfl
  have n4 : ∀ cs, v4 ≠ .agg cs := fun cs h => by
    obtain ⟨x, y, z, hx⟩ := okWide_slice (P := Try.prog) (t := 22) (e := 5) (by kernel_rfl) (hval 4 22 v4 rfl rfl)
    rw [h] at hx; cases hx
  obtain ⟨a4, w4, k4⟩ := Shape.one (S := seat) (t := 22) (E := octs) shapeOct (fun _ => rfl) (w := W) h4 z4 n4
  have z5 := sized_at (j := 5) (t := 22) hsz0 (by kernel_rfl) rfl
  have n5 : ∀ cs, v5 ≠ .agg cs := fun cs h => by
    obtain ⟨x, y, z, hx⟩ := okWide_slice (P := Try.prog) (t := 22) (e := 5) (by kernel_rfl) (hval 5 22 v5 rfl rfl)
    rw [h] at hx; cases hx
  obtain ⟨a5, w5, k5⟩ := Shape.one (S := seat) (t := 22) (E := octs) shapeOct (fun _ => rfl) (w := W) h5 z5 n5
  have key : Calls Try.prog 11 #[v0, v1, v2, v3, v4, v5] W fun e w' => e = .returned (.bool true) ∧ Below W.heap.size W w' :=
    law_calls (S := seat) (c := 177) (nodeApart_spec a0 a1 a2 a3 a4 a5 w0 w1 w4 w5) (.cons k0 (.cons k1 (.cons k2 (.cons k3 (.cons k4 (.cons k5 (Handed.nil seat W)))))))
  refine key.mono fun e W' ⟨he, bel⟩ => ?_
  subst he
  exact ⟨_, rfl, _, _, _, [], _, [], hW', trodAll_mk1 (shut_bool Try.underlying4 _), handed_back laidOut bel (by kernel_rfl) hback, rfl, bel.frame _, fun h => by cases h⟩
theorem over : Rows.nodeApartRow.holds Try.pinned (OpenSpec.ofChange Rows.nodeApartSpec) :=
  OpenClaim.holds_of_wide 11 Try.f11 rfl rfl rfl rfl rfl rfl rfl ⟨rfl, rfl, rfl, rfl, rfl⟩ rfl rfl rfl rfl rfl (by kernel_rfl) Try.func11 (by kernel_rfl)
    (of_decide_eq_true (by kernel_rfl)) (by unfold Func.isWrapper; first | (rw [if_pos (by decide +kernel)]; kernel_rfl) | (rw [if_neg (by decide +kernel)]; exact ⟨rfl, rfl⟩))
    (fun os started H enc _ => lifted os started H enc)
theorem proved : Rows.NodeApartSaid := over
end Go.Proofs.Ytilhcglckgdbcaa.nodeApart
namespace Go.Proofs.Ytilhcglckgdbcaa
/-- The row, under a short name, for the claim. -/
theorem nodeApart_holds : Rows.NodeApartSaid := nodeApart.proved
#print axioms nodeApart_holds
end Go.Proofs.Ytilhcglckgdbcaa
