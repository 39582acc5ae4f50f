/- The law NodeBack of the package cordwoodlaw09 answers true for every input, and leaves its arguments as they were. No conditions. -/
import Derived.Test.YtilhcglckgdbcaaRows
import Derived.Test.YtilhcglckgdbcaaAlE2
import Derived.Test.YtilhcglckgdbcaaAlM22
set_option linter.unusedSimpArgs false
set_option linter.unusedVariables false
namespace Go.Proofs.Ytilhcglckgdbcaa.nodeBack
open Go Go.RowKit Go.ChangeShapes Go.WideShapes Go.ChangeAt Go.Proofs.Ytilhcglckgdbcaa.Al
theorem own : ownKnob Try.prog.godebug = none := by kernel_rfl
theorem laidOut : laidOutB Try.prog = true := by kernel_rfl
set_option maxRecDepth 100000 in
theorem lifted (os : Os) (started : os.Started) (H : Type) (enc : TypeId × Value → H) :
    ReturnsInHanded {} Try.checked os 9 .any (Rows.nodeBackSpec.pre6 enc Try.prog Try.f9 Rows.nodeBackRow.domain false) (Rows.nodeBackSpec.post enc Try.prog Try.f9 false true false false) := by
  refine returnsInHanded_of_change_sized (C := Try.checked) own started (by kernel_rfl) Try.func9
    (ChangeSpec.witness6 (enc := enc) (C := Try.checked) false ⟨#[], #[.agg #[.int .i64 0, .slice none 0 0, .slice none 0 0, .int .i64 0, .slice none 0 0, .slice none 0 0, .slice none 0 0, .slice none 0 0], .slice none 0 0, .int .i64 0], []⟩ 8 (by kernel_rfl) (by kernel_rfl) (by kernel_rfl) (by kernel_rfl)) ?_
  intro W base args ds gs before hval0 hW hcnd hsz0 _
  have hW' := hW
  obtain ⟨p, q, hA0, hV, rfl, hfz, hnd⟩ := hW
  have hval : ∀ (j : Nat) t v, Try.f9.params[j]? = some t → args[j]? = some v → Value.okWide Try.prog W .any base t v := hval0
  have hA : DataW.TrodAll enc Try.prog W 0 (fun _ => true) true Try.f9.params.toList args.toList ds p := hA0
  rw [Try.params9] at hA hval
  have hback := hA
  obtain ⟨v0, vs0, d0, ds0, p0, q0, hargs, rfl, rfl, h0, r0⟩ := trodAll_cons hA
  obtain ⟨v1, vs1, d1, ds1, p1, q1, rfl, rfl, rfl, h1, r1⟩ := trodAll_cons r0
  obtain ⟨v2, vs2, d2, ds2, p2, q2, rfl, rfl, rfl, h2, r2⟩ := trodAll_cons r1
  obtain ⟨rfl, rfl, rfl⟩ := trodAll_nil r2
  obtain rfl : args = #[v0, v1, v2] := by cases args; simp_all
  obtain ⟨rfl, rfl⟩ := trodVars_none hV
  have z0 := sized_at (j := 0) (t := 46) hsz0 (by kernel_rfl) rfl
  obtain ⟨a0, w0, k0⟩ := Shape.many (S := seat) (F := Node.cells) (n := 8) shapeNode (fun _ => rfl) (by decide) (w := W) h0 z0
  have z1 := sized_at (j := 1) (t := 22) hsz0 (by kernel_rfl) rfl
  have n1 : ∀ cs, v1 ≠ .agg cs := fun cs h => by
    obtain ⟨x, y, z, hx⟩ := okWide_slice (P := Try.prog) (t := 22) (e := 5) (by kernel_rfl) (hval 1 22 v1 rfl rfl)
    rw [h] at hx; cases hx
  obtain ⟨a1, w1, k1⟩ := Shape.one (S := seat) (t := 22) (E := octs) shapeOct (fun _ => rfl) (w := W) h1 z1 n1
  have z2 := sized_at (j := 2) (t := 3) hsz0 (by kernel_rfl) rfl
  have n2 : ∀ cs, v2 ≠ .agg cs := fun cs h => by
    obtain ⟨x, hx⟩ := okWide_int (P := Try.prog) (t := 3) (k := .i64) (by kernel_rfl) (hval 2 3 v2 rfl rfl)
    rw [h] at hx; cases hx
  obtain ⟨a2, w2, k2⟩ := Shape.one (S := seat) (t := 3) (E := (AV.int .i64)) shapeInt (fun _ => rfl) (w := W) h2 z2 n2
  have key : Calls Try.prog 9 #[v0, v1, v2] W fun e w' => e = .returned (.bool true) ∧ Below W.heap.size W w' :=
    law_calls (S := seat) (c := 175) (nodeBack_spec a0 a1 a2 w0 w1) (.cons k0 (.cons k1 (.cons k2 (Handed.nil seat W))))
  refine key.mono fun e W' ⟨he, bel⟩ => ?_
  subst he
  exact ⟨_, rfl, _, _, _, [], _, [], hW', trodAll_mk1 (shut_bool Try.underlying4 _), handed_back laidOut bel (by kernel_rfl) hback, rfl, bel.frame _, fun h => by cases h⟩
theorem over : Rows.nodeBackRow.holds Try.pinned (OpenSpec.ofChange Rows.nodeBackSpec) :=
  OpenClaim.holds_of_wide 9 Try.f9 rfl rfl rfl rfl rfl rfl rfl ⟨rfl, rfl, rfl, rfl, rfl⟩ rfl rfl rfl rfl rfl (by kernel_rfl) Try.func9 (by kernel_rfl)
    (of_decide_eq_true (by kernel_rfl)) (by unfold Func.isWrapper; first | (rw [if_pos (by decide +kernel)]; kernel_rfl) | (rw [if_neg (by decide +kernel)]; exact ⟨rfl, rfl⟩))
    (fun os started H enc _ => lifted os started H enc)
theorem proved : Rows.NodeBackSaid := over
end Go.Proofs.Ytilhcglckgdbcaa.nodeBack
namespace Go.Proofs.Ytilhcglckgdbcaa
/-- The row, under a short name, for the claim. -/
theorem nodeBack_holds : Rows.NodeBackSaid := nodeBack.proved
#print axioms nodeBack_holds
end Go.Proofs.Ytilhcglckgdbcaa
