/-
  WHERE THE LIBRARY's FUNCTIONS STAND IN THIS PROGRAM, for the contracts of the shelf.
-/
import Derived.Shelf.Lays
import Derived.Shelf.Lays2
import Derived.Shelf.Lays7
import Derived.Test.YtihhinbjhiankaaGreatDoorAlSeat
namespace Go.Proofs.YtihhinbjhiankaaGreatDoor.Al
open Go Go.Shelf
def lays189f : List (Nat × Nat) := [(189, 197), (125, 218), (257, 217), (128, 237), (129, 238), (294, 229), (295, 230), (296, 231), (297, 232), (298, 233), (299, 234), (216, 145), (300, 235), (301, 236), (328, 246), (329, 247), (330, 248), (331, 249), (332, 250), (215, 195), (343, 253)]
def lays189t : List (Nat × Nat) := [(28, 35), (3, 3), (46, 147), (0, 0), (51, 172), (53, 199), (4, 4), (183, 193), (182, 192), (131, 101), (5, 5), (9, 9), (218, 206), (222, 210), (228, 216), (229, 217)]
def lays189g : List (Nat × Nat) := []
def lays189Ren : Ren := ⟨fun x => ((lays189f.lookup x).getD x), fun x => ((lays189t.lookup x).getD x), fun x => ((lays189g.lookup x).getD x)⟩
theorem lays189At : Lays.n189 seat.P lays189Ren where
  mixed := by kernel_rfl
  f125 := by kernel_rfl
  f128 := by kernel_rfl
  f129 := by kernel_rfl
  f189 := by kernel_rfl
  f215 := by kernel_rfl
  f216 := by kernel_rfl
  f257 := by kernel_rfl
  f294 := by kernel_rfl
  f295 := by kernel_rfl
  f296 := by kernel_rfl
  f297 := by kernel_rfl
  f298 := by kernel_rfl
  f299 := by kernel_rfl
  f300 := by kernel_rfl
  f301 := by kernel_rfl
  f328 := by kernel_rfl
  f329 := by kernel_rfl
  f330 := by kernel_rfl
  f331 := by kernel_rfl
  f332 := by kernel_rfl
  f343 := by kernel_rfl
  t0 := by kernel_rfl
  a0 := fun w => by kernel_rfl
  z0 := fun w => by kernel_rfl
  v0 := fun w => by kernel_rfl
  t3 := by kernel_rfl
  a3 := fun w => by kernel_rfl
  z3 := fun w => by kernel_rfl
  v3 := fun w => by kernel_rfl
  t4 := by kernel_rfl
  a4 := fun w => by kernel_rfl
  z4 := fun w => by kernel_rfl
  v4 := fun w => by kernel_rfl
  t5 := by kernel_rfl
  a5 := fun w => by kernel_rfl
  z5 := fun w => by kernel_rfl
  v5 := fun w => by kernel_rfl
  t9 := by kernel_rfl
  a9 := fun w => by kernel_rfl
  z9 := fun w => by kernel_rfl
  v9 := fun w => by kernel_rfl
  t28 := by kernel_rfl
  a28 := fun w => by kernel_rfl
  z28 := fun w => by kernel_rfl
  v28 := fun w => by kernel_rfl
  t46 := by kernel_rfl
  a46 := fun w => by kernel_rfl
  z46 := fun w => by kernel_rfl
  v46 := fun w => by kernel_rfl
  t51 := by kernel_rfl
  a51 := fun w => by kernel_rfl
  z51 := fun w => by kernel_rfl
  v51 := fun w => by kernel_rfl
  t53 := by kernel_rfl
  a53 := fun w => by kernel_rfl
  z53 := fun w => by kernel_rfl
  v53 := fun w => by kernel_rfl
  t131 := by kernel_rfl
  a131 := fun w => by kernel_rfl
  z131 := fun w => by kernel_rfl
  v131 := fun w => by kernel_rfl
  t182 := by kernel_rfl
  a182 := fun w => by kernel_rfl
  z182 := fun w => by kernel_rfl
  v182 := fun w => by kernel_rfl
  t183 := by kernel_rfl
  a183 := fun w => by kernel_rfl
  z183 := fun w => by kernel_rfl
  v183 := fun w => by kernel_rfl
  t218 := by kernel_rfl
  a218 := fun w => by kernel_rfl
  z218 := fun w => by kernel_rfl
  v218 := fun w => by kernel_rfl
  t222 := by kernel_rfl
  a222 := fun w => by kernel_rfl
  z222 := fun w => by kernel_rfl
  v222 := fun w => by kernel_rfl
  t228 := by kernel_rfl
  a228 := fun w => by kernel_rfl
  z228 := fun w => by kernel_rfl
  v228 := fun w => by kernel_rfl
  t229 := by kernel_rfl
  a229 := fun w => by kernel_rfl
  z229 := fun w => by kernel_rfl
  v229 := fun w => by kernel_rfl
def lays220f : List (Nat × Nat) := [(20, 153)]
def lays220t : List (Nat × Nat) := [(22, 35), (3, 3), (4, 4), (0, 0)]
def lays220g : List (Nat × Nat) := []
def lays220Ren : Ren := ⟨fun x => ((lays220f.lookup x).getD x), fun x => ((lays220t.lookup x).getD x), fun x => ((lays220g.lookup x).getD x)⟩
theorem lays220At : Lays2.n20 seat.P lays220Ren where
  mixed := by kernel_rfl
  f20 := by kernel_rfl
  t0 := by kernel_rfl
  a0 := fun w => by kernel_rfl
  z0 := fun w => by kernel_rfl
  v0 := fun w => by kernel_rfl
  t3 := by kernel_rfl
  a3 := fun w => by kernel_rfl
  z3 := fun w => by kernel_rfl
  v3 := fun w => by kernel_rfl
  t4 := by kernel_rfl
  a4 := fun w => by kernel_rfl
  z4 := fun w => by kernel_rfl
  v4 := fun w => by kernel_rfl
  t22 := by kernel_rfl
  a22 := fun w => by kernel_rfl
  z22 := fun w => by kernel_rfl
  v22 := fun w => by kernel_rfl
  i3 := by kernel_rfl
def lays727f : List (Nat × Nat) := [(27, 221), (28, 240), (29, 241)]
def lays727t : List (Nat × Nat) := [(25, 147), (3, 3), (27, 172), (22, 199), (4, 4), (53, 212), (0, 0), (5, 5), (54, 205)]
def lays727g : List (Nat × Nat) := [(0, 0), (1, 1)]
def lays727Ren : Ren := ⟨fun x => ((lays727f.lookup x).getD x), fun x => ((lays727t.lookup x).getD x), fun x => ((lays727g.lookup x).getD x)⟩
theorem lays727At : Lays7.n27 seat.P lays727Ren where
  mixed := by kernel_rfl
  f27 := by kernel_rfl
  f28 := by kernel_rfl
  f29 := by kernel_rfl
  t0 := by kernel_rfl
  a0 := fun w => by kernel_rfl
  z0 := fun w => by kernel_rfl
  v0 := fun w => by kernel_rfl
  i0 := by kernel_rfl
  t3 := by kernel_rfl
  a3 := fun w => by kernel_rfl
  z3 := fun w => by kernel_rfl
  v3 := fun w => by kernel_rfl
  i3 := by kernel_rfl
  t4 := by kernel_rfl
  a4 := fun w => by kernel_rfl
  z4 := fun w => by kernel_rfl
  v4 := fun w => by kernel_rfl
  i4 := by kernel_rfl
  t5 := by kernel_rfl
  a5 := fun w => by kernel_rfl
  z5 := fun w => by kernel_rfl
  v5 := fun w => by kernel_rfl
  i5 := by kernel_rfl
  t22 := by kernel_rfl
  a22 := fun w => by kernel_rfl
  z22 := fun w => by kernel_rfl
  v22 := fun w => by kernel_rfl
  i22 := by kernel_rfl
  t25 := by kernel_rfl
  a25 := fun w => by kernel_rfl
  z25 := fun w => by kernel_rfl
  v25 := fun w => by kernel_rfl
  i25 := by kernel_rfl
  t27 := by kernel_rfl
  a27 := fun w => by kernel_rfl
  z27 := fun w => by kernel_rfl
  v27 := fun w => by kernel_rfl
  i27 := by kernel_rfl
  t53 := by kernel_rfl
  a53 := fun w => by kernel_rfl
  z53 := fun w => by kernel_rfl
  v53 := fun w => by kernel_rfl
  i53 := by kernel_rfl
  t54 := by kernel_rfl
  a54 := fun w => by kernel_rfl
  z54 := fun w => by kernel_rfl
  g0 := by kernel_rfl
  g1 := by kernel_rfl
end Go.Proofs.YtihhinbjhiankaaGreatDoor.Al
