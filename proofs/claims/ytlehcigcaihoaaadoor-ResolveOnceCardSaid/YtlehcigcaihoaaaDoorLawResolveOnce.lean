/- The law ResolveOnce of the package cordwoodlaw11 answers true for every input, and leaves its arguments as they were. No conditions. -/
import Derived.Test.YtlehcigcaihoaaaDoorRows
import Derived.Test.YtlehcigcaihoaaaDoorAlE2
import Derived.Test.YtlehcigcaihoaaaDoorCards
import Derived.Test.YtlehcigcaihoaaaDoorTie
import Derived.Test.YtlehcigcaihoaaaDoorAlE3
import Derived.Test.YtlehcigcaihoaaaDoorAlS37
set_option linter.unusedSimpArgs false
set_option linter.unusedVariables false
namespace Go.Proofs.YtlehcigcaihoaaaDoor.resolveOnce
open Go Go.RowKit Go.ChangeShapes Go.WideShapes Go.ChangeAt Go.Proofs.YtlehcigcaihoaaaDoor.Al
theorem own : ownKnob Tryd.prog.godebug = none := by kernel_rfl
theorem laidOut : laidOutB Tryd.prog = true := by kernel_rfl
set_option maxRecDepth 100000 in
theorem lifted (os : Os) (started : os.Started) (H : Type) (enc : TypeId × Value → H) :
    ReturnsInHanded {} Tryd.checked os 7 .any (fun w args => (Rows.resolveOnceSpec.pre enc Tryd.prog Tryd.f7 [] false w args ∧ laidMetH Tryd.prog laidL w) ∧ sizedMet enc Tryd.prog Tryd.f7 (OpenSpec.ofChange Rows.resolveOnceSpec) false w args) (Rows.resolveOnceSpec.post enc Tryd.prog Tryd.f7 false true false false) := by
  refine returnsInHanded_of_change_and (C := Tryd.checked) (X := fun w _ => laidMetH Tryd.prog laidL w) (fun _ _ _ hh h => h.of_heap hh) own started (by kernel_rfl) Tryd.func7
    (ChangeSpec.witness_shaped (enc := enc) (C := Tryd.checked) (os := os) (X := fun w _ => laidMetH Tryd.prog laidL w) false (World.doorLaid Tryd.prog 400 os) #[.slice none 0 0, .int .i64 0] 8 rfl (World.shaped_of_RefB (by kernel_rfl) (by kernel_rfl)) (by kernel_rfl) (by kernel_rfl) (by kernel_rfl) (door_met os _)) ?_
  intro W base args ds gs before hval0 hW hcnd hsz0 hL _
  have hW' := hW
  obtain ⟨p, q, hA0, hV, rfl, hfz, hnd⟩ := hW
  have hval : ∀ (j : Nat) t v, Tryd.f7.params[j]? = some t → args[j]? = some v → Value.okWide Tryd.prog W .any base t v := hval0
  have hA : DataW.TrodAll enc Tryd.prog W 0 (fun _ => true) true Tryd.f7.params.toList args.toList ds p := hA0
  rw [Tryd.params7] at hA hval
  have hback := hA
  obtain ⟨v0, vs0, d0, ds0, p0, q0, hargs, rfl, rfl, h0, r0⟩ := trodAll_cons hA
  obtain ⟨v1, vs1, d1, ds1, p1, q1, rfl, rfl, rfl, h1, r1⟩ := trodAll_cons r0
  obtain ⟨rfl, rfl, rfl⟩ := trodAll_nil r1
  obtain rfl : args = #[v0, v1] := by cases args; simp_all
  obtain ⟨rfl, rfl⟩ := trodVars_none hV
  have z0 := sized_at (j := 0) (t := 22) hsz0 (by kernel_rfl) rfl
  have n0 : ∀ cs, v0 ≠ .agg cs := fun cs h => by
    obtain ⟨x, y, z, hx⟩ := okWide_slice (P := Tryd.prog) (t := 22) (e := 30) (by kernel_rfl) (hval 0 22 v0 rfl rfl)
    rw [h] at hx; cases hx
  obtain ⟨a0, w0, k0⟩ := Shape.one (S := seat) (t := 22) (E := nodes) shapeNodes (fun _ => rfl) (w := W) h0 z0 n0
  have z1 := sized_at (j := 1) (t := 3) hsz0 (by kernel_rfl) rfl
  have n1 : ∀ cs, v1 ≠ .agg cs := fun cs h => by
    obtain ⟨x, hx⟩ := okWide_int (P := Tryd.prog) (t := 3) (k := .i64) (by kernel_rfl) (hval 1 3 v1 rfl rfl)
    rw [h] at hx; cases hx
  obtain ⟨a1, w1, k1⟩ := Shape.one (S := seat) (t := 3) (E := (AV.int .i64)) shapeInt (fun _ => rfl) (w := W) h1 z1 n1
  have key : Calls Tryd.prog 7 #[v0, v1] W fun e w' => e = .returned (.bool true) ∧ Below W.heap.size W w' :=
    law_calls (S := seat) (c := 251) (resolveOnce_spec a0 a1 w0 w1) (.cons k0 (.cons k1 (Handed.nil seat W))) (laid_gl hL)
  refine key.mono fun e W' ⟨he, bel⟩ => ?_
  subst he
  exact ⟨_, rfl, _, _, _, [], _, [], hW', trodAll_mk1 (shut_bool Tryd.underlying4 _), handed_back laidOut bel (by kernel_rfl) hback, rfl, bel.frame _, fun h => by cases h⟩
theorem over : Rows.resolveOnceRow.holds Tryd.pinned (OpenSpec.ofChange Rows.resolveOnceSpec) :=
  OpenClaim.holds_of_wide 7 Tryd.f7 rfl rfl rfl rfl rfl rfl rfl ⟨rfl, rfl, rfl, rfl, rfl⟩ rfl rfl rfl rfl rfl (by kernel_rfl) Tryd.func7 (by kernel_rfl)
    (of_decide_eq_true (by kernel_rfl)) (by unfold Func.isWrapper; first | (rw [if_pos (by decide +kernel)]; kernel_rfl) | (rw [if_neg (by decide +kernel)]; exact ⟨rfl, rfl⟩))
    (fun os started H enc _ => lifted os started H enc)
theorem proved : Rows.ResolveOnceSaid := over
theorem card : Rows.ResolveOnceCardSaid :=
  Claim7.holds_tied_plain_at .later [] [.data, .data] true (true, "c8df7007a4dbf8c989e21fdb6def0babe4f9f73e3f2ae201ebbc95f33d0435b5") false
    over (fun _ h => by cases h) (by kernel_rfl) (fun _ h => by cases h) resolveOnce_row_tie rfl ⟨rfl, rfl⟩ (by kernel_rfl) rfl
    (fun f fn hf hfn => by
      obtain rfl : f = 7 := Option.some.inj ((show Tryd.prog.funcNamed "cordwood/cordwoodlaw11.ResolveOnce" = some 7 by kernel_rfl).symm.trans hf) |>.symm
      obtain rfl : fn = Tryd.f7 := (Option.some.inj (Tryd.func7.symm.trans hfn)).symm
      exact ⟨by kernel_rfl, fun j t ht => by
        rw [Tryd.params7] at ht
        have hm : t ∈ [22, 3] := by simpa using Array.mem_of_getElem? ht
        have hall : ([22, 3].all fun u => !Tryd.prog.wantsStandIn u) = true := by kernel_rfl
        exact (show Tryd.prog.wantsStandIn t = false by simpa using List.all_eq_true.1 hall t hm)⟩)
    (by kernel_rfl)
end Go.Proofs.YtlehcigcaihoaaaDoor.resolveOnce
namespace Go.Proofs.YtlehcigcaihoaaaDoor
/-- The row, under a short name, for the claim. -/
theorem resolveOnce_holds : Rows.ResolveOnceCardSaid := resolveOnce.card
#print axioms resolveOnce_holds
end Go.Proofs.YtlehcigcaihoaaaDoor
