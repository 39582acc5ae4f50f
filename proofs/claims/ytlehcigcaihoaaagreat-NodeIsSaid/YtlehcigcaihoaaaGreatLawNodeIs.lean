/- The law NodeIs of the package cordwoodlaw09 answers true for every input, and leaves its arguments as they were. No conditions. -/
import Derived.Test.YtlehcigcaihoaaaGreatRows
import Derived.Test.YtlehcigcaihoaaaGreatAlE2
import Derived.Test.YtlehcigcaihoaaaGreatAlM27
set_option linter.unusedSimpArgs false
set_option linter.unusedVariables false
namespace Go.Proofs.YtlehcigcaihoaaaGreat.nodeIs
open Go Go.RowKit Go.ChangeShapes Go.WideShapes Go.ChangeAt Go.Proofs.YtlehcigcaihoaaaGreat.Al
theorem own : ownKnob Tryz.prog.godebug = none := by kernel_rfl
theorem laidOut : laidOutB Tryz.prog = true := by kernel_rfl
set_option maxRecDepth 100000 in
theorem lifted (os : Os) (started : os.Started) (H : Type) (enc : TypeId × Value → H) :
    ReturnsInHanded {} Tryz.checked os 3 .any (Rows.nodeIsSpec.pre6 enc Tryz.prog Tryz.f3 Rows.nodeIsRow.domain false) (Rows.nodeIsSpec.post enc Tryz.prog Tryz.f3 false true false false) := by
  refine returnsInHanded_of_change_sized (C := Tryz.checked) own started (by kernel_rfl) Tryz.func3
    (ChangeSpec.witness6 (enc := enc) (C := Tryz.checked) false ⟨#[], #[.agg #[.int .i64 0, .slice none 0 0, .slice none 0 0, .int .i64 0, .slice none 0 0, .slice none 0 0, .slice none 0 0, .slice none 0 0], .agg #[.int .i64 0, .slice none 0 0, .slice none 0 0, .int .i64 0, .slice none 0 0, .slice none 0 0, .slice none 0 0, .slice none 0 0], .slice none 0 0, .slice none 0 0, .int .i64 0], []⟩ 8 (by kernel_rfl) (by kernel_rfl) (by kernel_rfl) (by kernel_rfl)) ?_
  intro W base args ds gs before hval0 hW hcnd hsz0 _
  have hW' := hW
  obtain ⟨p, q, hA0, hV, rfl, hfz, hnd⟩ := hW
  have hval : ∀ (j : Nat) t v, Tryz.f3.params[j]? = some t → args[j]? = some v → Value.okWide Tryz.prog W .any base t v := hval0
  have hA : DataW.TrodAll enc Tryz.prog W 0 (fun _ => true) true Tryz.f3.params.toList args.toList ds p := hA0
  rw [Tryz.params3] at hA hval
  have hback := hA
  obtain ⟨v0, vs0, d0, ds0, p0, q0, hargs, rfl, rfl, h0, r0⟩ := trodAll_cons hA
  obtain ⟨v1, vs1, d1, ds1, p1, q1, rfl, rfl, rfl, h1, r1⟩ := trodAll_cons r0
  obtain ⟨v2, vs2, d2, ds2, p2, q2, rfl, rfl, rfl, h2, r2⟩ := trodAll_cons r1
  obtain ⟨v3, vs3, d3, ds3, p3, q3, rfl, rfl, rfl, h3, r3⟩ := trodAll_cons r2
  obtain ⟨v4, vs4, d4, ds4, p4, q4, rfl, rfl, rfl, h4, r4⟩ := trodAll_cons r3
  obtain ⟨rfl, rfl, rfl⟩ := trodAll_nil r4
  obtain rfl : args = #[v0, v1, v2, v3, v4] := by cases args; simp_all
  obtain ⟨rfl, rfl⟩ := trodVars_none hV
  have z0 := sized_at (j := 0) (t := 29) hsz0 (by kernel_rfl) rfl
  obtain ⟨a0, w0, k0⟩ := Shape.many (S := seat) (F := Node.cells) (n := 8) shapeNode (fun _ => rfl) (by decide) (w := W) h0 z0
  have z1 := sized_at (j := 1) (t := 29) hsz0 (by kernel_rfl) rfl
  obtain ⟨a1, w1, k1⟩ := Shape.many (S := seat) (F := Node.cells) (n := 8) shapeNode (fun _ => rfl) (by decide) (w := W) h1 z1
  have z2 := sized_at (j := 2) (t := 22) hsz0 (by kernel_rfl) rfl
  have n2 : ∀ cs, v2 ≠ .agg cs := fun cs h => by
    obtain ⟨x, y, z, hx⟩ := okWide_slice (P := Tryz.prog) (t := 22) (e := 5) (by kernel_rfl) (hval 2 22 v2 rfl rfl)
    rw [h] at hx; cases hx
  obtain ⟨a2, w2, k2⟩ := Shape.one (S := seat) (t := 22) (E := octs) shapeOct (fun _ => rfl) (w := W) h2 z2 n2
  have z3 := sized_at (j := 3) (t := 22) hsz0 (by kernel_rfl) rfl
  have n3 : ∀ cs, v3 ≠ .agg cs := fun cs h => by
    obtain ⟨x, y, z, hx⟩ := okWide_slice (P := Tryz.prog) (t := 22) (e := 5) (by kernel_rfl) (hval 3 22 v3 rfl rfl)
    rw [h] at hx; cases hx
  obtain ⟨a3, w3, k3⟩ := Shape.one (S := seat) (t := 22) (E := octs) shapeOct (fun _ => rfl) (w := W) h3 z3 n3
  have z4 := sized_at (j := 4) (t := 3) hsz0 (by kernel_rfl) rfl
  have n4 : ∀ cs, v4 ≠ .agg cs := fun cs h => by
    obtain ⟨x, hx⟩ := okWide_int (P := Tryz.prog) (t := 3) (k := .i64) (by kernel_rfl) (hval 4 3 v4 rfl rfl)
    rw [h] at hx; cases hx
  obtain ⟨a4, w4, k4⟩ := Shape.one (S := seat) (t := 3) (E := (AV.int .i64)) shapeInt (fun _ => rfl) (w := W) h4 z4 n4
  have key : Calls Tryz.prog 3 #[v0, v1, v2, v3, v4] W fun e w' => e = .returned (.bool true) ∧ Below W.heap.size W w' :=
    law_calls (S := seat) (c := 236) (nodeIs_spec a0 a1 a2 a3 a4 w0 w1 w2 w3) (.cons k0 (.cons k1 (.cons k2 (.cons k3 (.cons k4 (Handed.nil seat W)))))) (GlOk.none rfl)
  refine key.mono fun e W' ⟨he, bel⟩ => ?_
  subst he
  exact ⟨_, rfl, _, _, _, [], _, [], hW', trodAll_mk1 (shut_bool Tryz.underlying4 _), handed_back laidOut bel (by kernel_rfl) hback, rfl, bel.frame _, fun h => by cases h⟩
theorem over : Rows.nodeIsRow.holds Tryz.pinned (OpenSpec.ofChange Rows.nodeIsSpec) :=
  OpenClaim.holds_of_wide 3 Tryz.f3 rfl rfl rfl rfl rfl rfl rfl ⟨rfl, rfl, rfl, rfl, rfl⟩ rfl rfl rfl rfl rfl (by kernel_rfl) Tryz.func3 (by kernel_rfl)
    (of_decide_eq_true (by kernel_rfl)) (by unfold Func.isWrapper; first | (rw [if_pos (by decide +kernel)]; kernel_rfl) | (rw [if_neg (by decide +kernel)]; exact ⟨rfl, rfl⟩))
    (fun os started H enc _ => lifted os started H enc)
theorem proved : Rows.NodeIsSaid := over
end Go.Proofs.YtlehcigcaihoaaaGreat.nodeIs
namespace Go.Proofs.YtlehcigcaihoaaaGreat
/-- The row, under a short name, for the claim. -/
theorem nodeIs_holds : Rows.NodeIsSaid := nodeIs.proved
#print axioms nodeIs_holds
end Go.Proofs.YtlehcigcaihoaaaGreat
