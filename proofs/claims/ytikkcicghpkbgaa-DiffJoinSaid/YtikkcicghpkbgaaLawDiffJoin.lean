/- The law DiffJoin of the package cordwoodlaw20 answers true for every input, and leaves its arguments as they were. No conditions. -/
import Derived.Test.YtikkcicghpkbgaaRows
import Derived.Test.YtikkcicghpkbgaaAlE2
import Derived.Test.YtikkcicghpkbgaaAlS20
set_option linter.unusedSimpArgs false
set_option linter.unusedVariables false
namespace Go.Proofs.Ytikkcicghpkbgaa.diffJoin
open Go Go.RowKit Go.ChangeShapes Go.WideShapes Go.ChangeAt Go.Proofs.Ytikkcicghpkbgaa.Al
theorem own : ownKnob Try.prog.godebug = none := by kernel_rfl
theorem laidOut : laidOutB Try.prog = true := by kernel_rfl
set_option maxRecDepth 100000 in
theorem lifted (os : Os) (started : os.Started) (H : Type) (enc : TypeId × Value → H) :
    ReturnsInHanded {} Try.checked os 9 .any (Rows.diffJoinSpec.pre6 enc Try.prog Try.f9 Rows.diffJoinRow.domain false) (Rows.diffJoinSpec.post enc Try.prog Try.f9 false true false false) := by
  refine returnsInHanded_of_change_sized (C := Try.checked) own started (by kernel_rfl) Try.func9
    (ChangeSpec.witness6 (enc := enc) (C := Try.checked) false ⟨#[], #[.slice none 0 0, .agg #[.int .i64 0, .slice none 0 0, .slice none 0 0], .agg #[.int .i64 0, .slice none 0 0, .slice none 0 0], .slice none 0 0], []⟩ 8 (by kernel_rfl) (by kernel_rfl) (by kernel_rfl) (by kernel_rfl)) ?_
  intro W base args ds gs before hval0 hW hcnd hsz0 _
  have hW' := hW
  obtain ⟨p, q, hA0, hV, rfl, hfz, hnd⟩ := hW
  have hval : ∀ (j : Nat) t v, Try.f9.params[j]? = some t → args[j]? = some v → Value.okWide Try.prog W .any base t v := hval0
  have hA : DataW.TrodAll enc Try.prog W 0 (fun _ => true) true Try.f9.params.toList args.toList ds p := hA0
  rw [Try.params9] at hA hval
  have hback := hA
  obtain ⟨v0, vs0, d0, ds0, p0, q0, hargs, rfl, rfl, h0, r0⟩ := trodAll_cons hA
  obtain ⟨v1, vs1, d1, ds1, p1, q1, rfl, rfl, rfl, h1, r1⟩ := trodAll_cons r0
  obtain ⟨v2, vs2, d2, ds2, p2, q2, rfl, rfl, rfl, h2, r2⟩ := trodAll_cons r1
  obtain ⟨v3, vs3, d3, ds3, p3, q3, rfl, rfl, rfl, h3, r3⟩ := trodAll_cons r2
  obtain ⟨rfl, rfl, rfl⟩ := trodAll_nil r3
  obtain rfl : args = #[v0, v1, v2, v3] := by cases args; simp_all
  obtain ⟨rfl, rfl⟩ := trodVars_none hV
  have z0 := sized_at (j := 0) (t := 22) hsz0 (by kernel_rfl) rfl
  have n0 : ∀ cs, v0 ≠ .agg cs := fun cs h => by
    obtain ⟨x, y, z, hx⟩ := okWide_slice (P := Try.prog) (t := 22) (e := 33) (by kernel_rfl) (hval 0 22 v0 rfl rfl)
    rw [h] at hx; cases hx
  obtain ⟨a0, w0, k0⟩ := Shape.one (S := seat) (t := 22) (E := nodes) shapeNodes (fun _ => rfl) (w := W) h0 z0 n0
  have z1 := sized_at (j := 1) (t := 44) hsz0 (by kernel_rfl) rfl
  obtain ⟨a1, w1, k1⟩ := Shape.many (S := seat) (F := (fun p : Patch => [.int .i64 p.len, ints p.x, nodes p.n])) (n := 3) shapePatch (fun _ => rfl) (by decide) (w := W) h1 z1
  have z2 := sized_at (j := 2) (t := 44) hsz0 (by kernel_rfl) rfl
  obtain ⟨a2, w2, k2⟩ := Shape.many (S := seat) (F := (fun p : Patch => [.int .i64 p.len, ints p.x, nodes p.n])) (n := 3) shapePatch (fun _ => rfl) (by decide) (w := W) h2 z2
  have z3 := sized_at (j := 3) (t := 22) hsz0 (by kernel_rfl) rfl
  have n3 : ∀ cs, v3 ≠ .agg cs := fun cs h => by
    obtain ⟨x, y, z, hx⟩ := okWide_slice (P := Try.prog) (t := 22) (e := 33) (by kernel_rfl) (hval 3 22 v3 rfl rfl)
    rw [h] at hx; cases hx
  obtain ⟨a3, w3, k3⟩ := Shape.one (S := seat) (t := 22) (E := nodes) shapeNodes (fun _ => rfl) (w := W) h3 z3 n3
  have key : Calls Try.prog 9 #[v0, v1, v2, v3] W fun e w' => e = .returned (.bool true) ∧ Below W.heap.size W w' :=
    law_calls (S := seat) (c := 96) (diffJoin_spec a0 a1 a2 a3 w0 w1 w2 w3) (.cons k0 (.cons k1 (.cons k2 (.cons k3 (Handed.nil seat W)))))
  refine key.mono fun e W' ⟨he, bel⟩ => ?_
  subst he
  exact ⟨_, rfl, _, _, _, [], _, [], hW', trodAll_mk1 (shut_bool Try.underlying4 _), handed_back laidOut bel (by kernel_rfl) hback, rfl, bel.frame _, fun h => by cases h⟩
theorem over : Rows.diffJoinRow.holds Try.pinned (OpenSpec.ofChange Rows.diffJoinSpec) :=
  OpenClaim.holds_of_wide 9 Try.f9 rfl rfl rfl rfl rfl rfl rfl ⟨rfl, rfl, rfl, rfl, rfl⟩ rfl rfl rfl rfl rfl (by kernel_rfl) Try.func9 (by kernel_rfl)
    (of_decide_eq_true (by kernel_rfl)) (by unfold Func.isWrapper; first | (rw [if_pos (by decide +kernel)]; kernel_rfl) | (rw [if_neg (by decide +kernel)]; exact ⟨rfl, rfl⟩))
    (fun os started H enc _ => lifted os started H enc)
theorem proved : Rows.DiffJoinSaid := over
end Go.Proofs.Ytikkcicghpkbgaa.diffJoin
namespace Go.Proofs.Ytikkcicghpkbgaa
/-- The row, under a short name, for the claim. -/
theorem diffJoin_holds : Rows.DiffJoinSaid := diffJoin.proved
#print axioms diffJoin_holds
end Go.Proofs.Ytikkcicghpkbgaa
