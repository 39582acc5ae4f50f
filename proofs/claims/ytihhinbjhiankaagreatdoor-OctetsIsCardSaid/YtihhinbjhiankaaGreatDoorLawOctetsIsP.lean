/- The law OctetsIs of the package cordwoodlaw15 answers true for every input, and leaves its arguments as they were. No conditions. -/
import Derived.Test.YtihhinbjhiankaaGreatDoorRows
import Derived.Test.YtihhinbjhiankaaGreatDoorLawSetCP3
import Derived.Test.YtihhinbjhiankaaGreatDoorCards
import Derived.Test.YtihhinbjhiankaaGreatDoorTie
import Derived.Test.YtihhinbjhiankaaGreatDoorLawSetCP8
set_option linter.unusedSimpArgs false
set_option linter.unusedVariables false
namespace Go.Proofs.YtihhinbjhiankaaGreatDoor.octetsIs
open Go Go.RowKit Go.ChangeShapes Go.WideShapes Go.ChangeAt Go.Proofs.YtihhinbjhiankaaGreatDoor.Al
theorem own : ownKnob Tryz.prog.godebug = none := by kernel_rfl
theorem laidOut : laidOutB Tryz.prog = true := by kernel_rfl
set_option maxRecDepth 100000 in
theorem lifted (os : Os) (started : os.Started) (H : Type) (enc : TypeId × Value → H) :
    ReturnsInHanded {} Tryz.checked os 4 .any (fun w args => (Rows.octetsIsSpec.pre enc Tryz.prog Tryz.f4 [] false w args ∧ laidMetH Tryz.prog laidL w) ∧ sizedMet enc Tryz.prog Tryz.f4 (OpenSpec.ofChange Rows.octetsIsSpec) false w args) (Rows.octetsIsSpec.post enc Tryz.prog Tryz.f4 false true false false) := by
  refine returnsInHanded_of_change_and (C := Tryz.checked) (X := fun w _ => laidMetH Tryz.prog laidL w) (fun _ _ _ hh h => h.of_heap hh) own started (by kernel_rfl) Tryz.func4
    (ChangeSpec.witness_shaped (enc := enc) (C := Tryz.checked) (os := os) (X := fun w _ => laidMetH Tryz.prog laidL w) false (World.doorLaid Tryz.prog 400 os) #[.slice none 0 0, .slice none 0 0] 8 rfl (World.shaped_of_RefB (by kernel_rfl) (by kernel_rfl)) (by kernel_rfl) (by kernel_rfl) (by kernel_rfl) (door_met os _)) ?_
  intro W base args ds gs before hval0 hW hcnd hsz0 hL _
  have hW' := hW
  obtain ⟨p, q, hA0, hV, rfl, hfz, hnd⟩ := hW
  have hval : ∀ (j : Nat) t v, Tryz.f4.params[j]? = some t → args[j]? = some v → Value.okWide Tryz.prog W .any base t v := hval0
  have hA : DataW.TrodAll enc Tryz.prog W 0 (fun _ => true) true Tryz.f4.params.toList args.toList ds p := hA0
  rw [Tryz.params4] at hA hval
  have hback := hA
  obtain ⟨v0, vs0, d0, ds0, p0, q0, hargs, rfl, rfl, h0, r0⟩ := trodAll_cons hA
  obtain ⟨v1, vs1, d1, ds1, p1, q1, rfl, rfl, rfl, h1, r1⟩ := trodAll_cons r0
  obtain ⟨rfl, rfl, rfl⟩ := trodAll_nil r1
  obtain rfl : args = #[v0, v1] := by cases args; simp_all
  obtain ⟨rfl, rfl⟩ := trodVars_none hV
  have z0 := sized_at (j := 0) (t := 22) hsz0 (by kernel_rfl) rfl
  have n0 : ∀ cs, v0 ≠ .agg cs := fun cs h => by
    obtain ⟨x, y, z, hx⟩ := okWide_slice (P := Tryz.prog) (t := 22) (e := 49) (by kernel_rfl) (hval 0 22 v0 rfl rfl)
    rw [h] at hx; cases hx
  obtain ⟨a0, w0, k0⟩ := Shape.one (S := seat) (t := 22) (E := nodes) shapeNodes (fun _ => rfl) (w := W) h0 z0 n0
  have z1 := sized_at (j := 1) (t := 23) hsz0 (by kernel_rfl) rfl
  have n1 : ∀ cs, v1 ≠ .agg cs := fun cs h => by
    obtain ⟨x, y, z, hx⟩ := okWide_slice (P := Tryz.prog) (t := 23) (e := 5) (by kernel_rfl) (hval 1 23 v1 rfl rfl)
    rw [h] at hx; cases hx
  obtain ⟨a1, w1, k1⟩ := Shape.one (S := seat) (t := 23) (E := octs) shapeOct (fun _ => rfl) (w := W) h1 z1 n1
  have key : Calls Tryz.prog 4 #[v0, v1] W fun e w' => e = .returned (.bool true) ∧ Below W.heap.size W w' :=
    law_calls (S := seat) (c := 314) (octetsIs_spec a0 a1 w0 w1) (.cons k0 (.cons k1 (Handed.nil seat W))) (laid_gl hL)
  refine key.mono fun e W' ⟨he, bel⟩ => ?_
  subst he
  exact ⟨_, rfl, _, _, _, [], _, [], hW', trodAll_mk1 (shut_bool Tryz.underlying4 _), handed_back laidOut bel (by kernel_rfl) hback, rfl, bel.frame _, fun h => by cases h⟩
theorem over : Rows.octetsIsRow.holds Tryz.pinned (OpenSpec.ofChange Rows.octetsIsSpec) :=
  OpenClaim.holds_of_wide 4 Tryz.f4 rfl rfl rfl rfl rfl rfl rfl ⟨rfl, rfl, rfl, rfl, rfl⟩ rfl rfl rfl rfl rfl (by kernel_rfl) Tryz.func4 (by kernel_rfl)
    (of_decide_eq_true (by kernel_rfl)) (by unfold Func.isWrapper; first | (rw [if_pos (by decide +kernel)]; kernel_rfl) | (rw [if_neg (by decide +kernel)]; exact ⟨rfl, rfl⟩))
    (fun os started H enc _ => lifted os started H enc)
theorem proved : Rows.OctetsIsSaid := over
theorem card : Rows.OctetsIsCardSaid :=
  Claim7.holds_tied_plain_at .later [] [.data, .data] true (true, "894e7a30f364d97339c661a4aeb89071667b83b64035afa7da817c4a061c5926") false
    over (fun _ h => by cases h) (by kernel_rfl) (fun _ h => by cases h) octetsIs_row_tie rfl ⟨rfl, rfl⟩ (by kernel_rfl) rfl
    (fun f fn hf hfn => by
      obtain rfl : f = 4 := Option.some.inj ((show Tryz.prog.funcNamed "cordwood/cordwoodlaw15.OctetsIs" = some 4 by kernel_rfl).symm.trans hf) |>.symm
      obtain rfl : fn = Tryz.f4 := (Option.some.inj (Tryz.func4.symm.trans hfn)).symm
      exact ⟨by kernel_rfl, fun j t ht => by
        rw [Tryz.params4] at ht
        have hm : t ∈ [22, 23] := by simpa using Array.mem_of_getElem? ht
        have hall : ([22, 23].all fun u => !Tryz.prog.wantsStandIn u) = true := by kernel_rfl
        exact (show Tryz.prog.wantsStandIn t = false by simpa using List.all_eq_true.1 hall t hm)⟩)
    (by kernel_rfl)
end Go.Proofs.YtihhinbjhiankaaGreatDoor.octetsIs
namespace Go.Proofs.YtihhinbjhiankaaGreatDoor
/-- The row, under a short name, for the claim. -/
theorem octetsIs_holds : Rows.OctetsIsCardSaid := octetsIs.card
#print axioms octetsIs_holds
end Go.Proofs.YtihhinbjhiankaaGreatDoor
