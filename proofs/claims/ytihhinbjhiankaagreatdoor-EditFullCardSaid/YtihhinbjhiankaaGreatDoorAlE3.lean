/-
  WHAT A TIED ROW's CONDITION GIVES: the table of the library; the door's heap meets it.
-/
import Derived.Test.YtihhinbjhiankaaGreatDoorRows
import Derived.Test.YtihhinbjhiankaaGreatDoorAlE1
import Derived.Test.YtihhinbjhiankaaGreatDoorAlSeat
import Derived.ProofKit
import Derived.LaidMore
import Derived.OpenShut
import Derived.Stop.Joined
import Derived.MakeChecks
import Derived.Lib.LaidTab
namespace Go.Proofs.YtihhinbjhiankaaGreatDoor.Al
open Go Go.RowKit
theorem g32_at : Tryz.prog.globalNamed "math/bits.deBruijn32tab" = some 0 := by kernel_rfl
theorem g64_at : Tryz.prog.globalNamed "math/bits.deBruijn64tab" = some 1 := by kernel_rfl
theorem t32_at : (Tryz.prog.globals[0]?).map (·.type) = some 212 := by kernel_rfl
theorem t64_at : (Tryz.prog.globals[1]?).map (·.type) = some 205 := by kernel_rfl
theorem tab64_eq : (Rows.laid_math_bits_deBruijn64tab : DataW Unit) = Lib.tabData .u8 (Lib.deBruijn64tab.map Int.ofNat) := by kernel_rfl
def laidL : List (String × DataW Unit) := [("math/bits.deBruijn32tab", Rows.laid_math_bits_deBruijn32tab), ("math/bits.deBruijn64tab", Rows.laid_math_bits_deBruijn64tab)]
theorem laid_gl {W : World} (h : laidMetH Tryz.prog laidL W) : GlOk seat (fun b => b < W.heap.size) W := by
  rw [MakeChecks.laidMetH_plain _ _ _ (by kernel_rfl)] at h
  obtain ⟨ps, ⟨g0, t0, cs0, f0, p0, q0, hg0, ht0, hv0, hd0, ⟨g1, t1, cs1, f1, p1, q1, hg1, ht1, hv1, hd1, _, _⟩, _⟩, _, _⟩ := h
  obtain rfl := Option.some.inj (g64_at.symm.trans hg1)
  obtain rfl := Option.some.inj (t64_at.symm.trans ht1)
  rw [tab64_eq] at hd1
  have hc := Lib.cells_of_tab (n := 64) (e := 5) (by kernel_rfl) (by kernel_rfl) (by kernel_rfl) (by kernel_rfl) hd1
  have hcell : ∀ j, j < Lib.deBruijn64tab.length → W.cell? ⟨1, j, none⟩ = some (.int .u8 (Lib.deBruijn64tab.getD j 0 : Nat)) := by
    intro j hj
    have := World.var?_cell hg1 hv1 j
    rw [this]
    have e : cs1.toList = (Lib.deBruijn64tab.map Int.ofNat).map fun z => Value.int .u8 z := hc
    rw [← Array.getElem?_toList, e]
    simp [List.getD_eq_getElem?_getD, hj]
  intro p hp
  have hp' : p = (1, Lib.deBruijn64tab) := by simpa [seat] using hp
  subst hp'
  refine ⟨?_, hcell⟩
  have h0 := hcell 0 (by decide)
  by_cases hlt : 1 < W.heap.size
  · exact hlt
  · exfalso
    have : W.heap[1]? = none := Array.getElem?_eq_none (by omega)
    simp [World.cell?, this] at h0
theorem door_met (os : Os) (args : Array Value) : laidMetH Tryz.prog laidL ((World.doorLaid Tryz.prog 400 os).forCall (fun _ _ => 0) ⟨#[], args, []⟩).memory :=
  laidMetH_of_parts3 (fuel := 8) (laidMet_of_run' 8 (by kernel_rfl) (by kernel_rfl)) (by kernel_rfl) (by kernel_rfl)
def laidL3 : List (String × DataW Unit) := [("math/bits.deBruijn32tab", Rows.laid_math_bits_deBruijn32tab), ("math/bits.deBruijn64tab", Rows.laid_math_bits_deBruijn64tab), ("cordwood/block.numbers", Rows.laid_cordwood_block_numbers)]
theorem laid_gl3 {W : World} (h : laidMetH Tryz.prog laidL3 W) : GlOk seat (fun b => b < W.heap.size) W := by
  rw [MakeChecks.laidMetH_plain _ _ _ (by kernel_rfl)] at h
  obtain ⟨ps, ⟨g0, t0, cs0, f0, p0, q0, hg0, ht0, hv0, hd0, ⟨g1, t1, cs1, f1, p1, q1, hg1, ht1, hv1, hd1, _, _⟩, _⟩, _, _⟩ := h
  obtain rfl := Option.some.inj (g64_at.symm.trans hg1)
  obtain rfl := Option.some.inj (t64_at.symm.trans ht1)
  rw [tab64_eq] at hd1
  have hc := Lib.cells_of_tab (n := 64) (e := 5) (by kernel_rfl) (by kernel_rfl) (by kernel_rfl) (by kernel_rfl) hd1
  have hcell : ∀ j, j < Lib.deBruijn64tab.length → W.cell? ⟨1, j, none⟩ = some (.int .u8 (Lib.deBruijn64tab.getD j 0 : Nat)) := by
    intro j hj
    have := World.var?_cell hg1 hv1 j
    rw [this]
    have e : cs1.toList = (Lib.deBruijn64tab.map Int.ofNat).map fun z => Value.int .u8 z := hc
    rw [← Array.getElem?_toList, e]
    simp [List.getD_eq_getElem?_getD, hj]
  intro p hp
  have hp' : p = (1, Lib.deBruijn64tab) := by simpa [seat] using hp
  subst hp'
  refine ⟨?_, hcell⟩
  have h0 := hcell 0 (by decide)
  by_cases hlt : 1 < W.heap.size
  · exact hlt
  · exfalso
    have : W.heap[1]? = none := Array.getElem?_eq_none (by omega)
    simp [World.cell?, this] at h0
theorem door_met3 (os : Os) (args : Array Value) : laidMetH Tryz.prog laidL3 ((World.doorLaid Tryz.prog 400 os).forCall (fun _ _ => 0) ⟨#[], args, []⟩).memory :=
  laidMetH_of_parts3 (fuel := 8) (laidMet_of_run' 8 (by kernel_rfl) (by kernel_rfl)) (by kernel_rfl) (by kernel_rfl)
end Go.Proofs.YtihhinbjhiankaaGreatDoor.Al
