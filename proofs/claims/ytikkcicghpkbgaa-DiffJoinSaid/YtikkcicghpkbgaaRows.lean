/-
  No cell of these rows narrows 'for every input' (looked for: loops, veiled, ifaces, maps, wideKeys, modest, calm, conditions, laid).
  DERIVED. THE GIVEN ROWS OF THIS SEAT. 9 by the template 'for every input the law returns true; each argument reads behind the call as it read before'; 0 by the template 'total and deterministic' (their statements: YtikkcicghpkbgaaTotals.lean).
  GIVEN WITH THE SEED: the statements are not yours to turn. If you find one false, say at which input.
  Laid BY PROGRAM, IN A SANDBOX (cutbox-rows.mjs): the forced cells as the released guide's own fill.sh prints them over the translation 9c0a87cd192858bf… (all of the seat's roots in one cut). By AI agents, Wed Nov 11 2026. No macro, syntax, notation, axiom, sorry.
-/
import Derived.Test.YtikkcicghpkbgaaChecked
import GoSem.Claim
import GoSem.ClaimJoined
import GoSem.ClaimMapViews
import Derived.JoinedTies
import Derived.KernelRfl
namespace Go.Proofs.Ytikkcicghpkbgaa
/- THE CELL 'sum', in the pinned program and in every row, IS THE sha256 OF THE DUMP (.gsa) THAT YtikkcicghpkbgaaProg.lean LOADS. Nothing in Lean hashes anything: it is a label: what it is worth is what the hold of that sum in a sandbox is worth. -/
noncomputable def Try.pinned : Pinned := { name := "ytikkcicghpkbgaa", sum := "9c0a87cd192858bfb6c4b2b01cc9b3c1b98c850f3d9e7c40a9da7fba31d8d9ab", checked := Try.checked }
namespace Rows
def none {H : Type} : Left H := { results := [], args := [] }

/-- 'cordwoodlaw10.ShapeFree': WHATEVER THE INPUT: true; the input reads as it did. -/
def shapeFreeSpec : ChangeSpec := { name := "shapeFree", fn := fun _ => fun
  | [d1, d2] => { results := [.lit (.bool true)], args := [d1, d2] }
  | _ => none }
def shapeFreeRow : OpenClaim := { program := "ytikkcicghpkbgaa", sum := "9c0a87cd192858bfb6c4b2b01cc9b3c1b98c850f3d9e7c40a9da7fba31d8d9ab", func := "cordwood/cordwoodlaw10.ShapeFree", spec := "shapeFree", unfollowed := true, recurses := true, apart := false }
def ShapeFreeSaid : Prop := shapeFreeRow.holds Try.pinned (OpenSpec.ofChange shapeFreeSpec)

/-- ITS FALSE NEIGHBOUR: 'it returns false'. Refute it at one input. -/
def shapeFreeWrong : ChangeSpec := { name := "shapeFree", fn := fun _ => fun
  | [d1, d2] => { results := [.lit (.bool false)], args := [d1, d2] }
  | _ => none }
def ShapeFreeWrongFalsely : Prop := shapeFreeRow.holds Try.pinned (OpenSpec.ofChange shapeFreeWrong)

/-- 'cordwoodlaw10.ShapeSets': WHATEVER THE INPUT: true; the input reads as it did. -/
def shapeSetsSpec : ChangeSpec := { name := "shapeSets", fn := fun _ => fun
  | [d1, d2, d3, d4, d5] => { results := [.lit (.bool true)], args := [d1, d2, d3, d4, d5] }
  | _ => none }
def shapeSetsRow : OpenClaim := { program := "ytikkcicghpkbgaa", sum := "9c0a87cd192858bfb6c4b2b01cc9b3c1b98c850f3d9e7c40a9da7fba31d8d9ab", func := "cordwood/cordwoodlaw10.ShapeSets", spec := "shapeSets", unfollowed := true, recurses := true, apart := false }
def ShapeSetsSaid : Prop := shapeSetsRow.holds Try.pinned (OpenSpec.ofChange shapeSetsSpec)

/-- ITS FALSE NEIGHBOUR: 'it returns false'. Refute it at one input. -/
def shapeSetsWrong : ChangeSpec := { name := "shapeSets", fn := fun _ => fun
  | [d1, d2, d3, d4, d5] => { results := [.lit (.bool false)], args := [d1, d2, d3, d4, d5] }
  | _ => none }
def ShapeSetsWrongFalsely : Prop := shapeSetsRow.holds Try.pinned (OpenSpec.ofChange shapeSetsWrong)

/-- 'cordwoodlaw10.ShapeGrows': WHATEVER THE INPUT: true; the input reads as it did. -/
def shapeGrowsSpec : ChangeSpec := { name := "shapeGrows", fn := fun _ => fun
  | [d] => { results := [.lit (.bool true)], args := [d] }
  | _ => none }
def shapeGrowsRow : OpenClaim := { program := "ytikkcicghpkbgaa", sum := "9c0a87cd192858bfb6c4b2b01cc9b3c1b98c850f3d9e7c40a9da7fba31d8d9ab", func := "cordwood/cordwoodlaw10.ShapeGrows", spec := "shapeGrows", unfollowed := true, recurses := true, apart := false }
def ShapeGrowsSaid : Prop := shapeGrowsRow.holds Try.pinned (OpenSpec.ofChange shapeGrowsSpec)

/-- ITS FALSE NEIGHBOUR: 'it returns false'. Refute it at one input. -/
def shapeGrowsWrong : ChangeSpec := { name := "shapeGrows", fn := fun _ => fun
  | [d] => { results := [.lit (.bool false)], args := [d] }
  | _ => none }
def ShapeGrowsWrongFalsely : Prop := shapeGrowsRow.holds Try.pinned (OpenSpec.ofChange shapeGrowsWrong)

/-- 'cordwoodlaw10.ShapeTrims': WHATEVER THE INPUT: true; the input reads as it did. -/
def shapeTrimsSpec : ChangeSpec := { name := "shapeTrims", fn := fun _ => fun
  | [d] => { results := [.lit (.bool true)], args := [d] }
  | _ => none }
def shapeTrimsRow : OpenClaim := { program := "ytikkcicghpkbgaa", sum := "9c0a87cd192858bfb6c4b2b01cc9b3c1b98c850f3d9e7c40a9da7fba31d8d9ab", func := "cordwood/cordwoodlaw10.ShapeTrims", spec := "shapeTrims", unfollowed := true, recurses := true, apart := false }
def ShapeTrimsSaid : Prop := shapeTrimsRow.holds Try.pinned (OpenSpec.ofChange shapeTrimsSpec)

/-- ITS FALSE NEIGHBOUR: 'it returns false'. Refute it at one input. -/
def shapeTrimsWrong : ChangeSpec := { name := "shapeTrims", fn := fun _ => fun
  | [d] => { results := [.lit (.bool false)], args := [d] }
  | _ => none }
def ShapeTrimsWrongFalsely : Prop := shapeTrimsRow.holds Try.pinned (OpenSpec.ofChange shapeTrimsWrong)

/-- 'cordwoodlaw20.DiffIs': WHATEVER THE INPUT: true; the input reads as it did. -/
def diffIsSpec : ChangeSpec := { name := "diffIs", fn := fun _ => fun
  | [d1, d2, d3, d4] => { results := [.lit (.bool true)], args := [d1, d2, d3, d4] }
  | _ => none }
def diffIsRow : OpenClaim := { program := "ytikkcicghpkbgaa", sum := "9c0a87cd192858bfb6c4b2b01cc9b3c1b98c850f3d9e7c40a9da7fba31d8d9ab", func := "cordwood/cordwoodlaw20.DiffIs", spec := "diffIs", unfollowed := true, recurses := true, apart := false }
def DiffIsSaid : Prop := diffIsRow.holds Try.pinned (OpenSpec.ofChange diffIsSpec)

/-- ITS FALSE NEIGHBOUR: 'it returns false'. Refute it at one input. -/
def diffIsWrong : ChangeSpec := { name := "diffIs", fn := fun _ => fun
  | [d1, d2, d3, d4] => { results := [.lit (.bool false)], args := [d1, d2, d3, d4] }
  | _ => none }
def DiffIsWrongFalsely : Prop := diffIsRow.holds Try.pinned (OpenSpec.ofChange diffIsWrong)

/-- 'cordwoodlaw20.DiffBack': WHATEVER THE INPUT: true; the input reads as it did. -/
def diffBackSpec : ChangeSpec := { name := "diffBack", fn := fun _ => fun
  | [d1, d2] => { results := [.lit (.bool true)], args := [d1, d2] }
  | _ => none }
def diffBackRow : OpenClaim := { program := "ytikkcicghpkbgaa", sum := "9c0a87cd192858bfb6c4b2b01cc9b3c1b98c850f3d9e7c40a9da7fba31d8d9ab", func := "cordwood/cordwoodlaw20.DiffBack", spec := "diffBack", unfollowed := true, recurses := true, apart := false }
def DiffBackSaid : Prop := diffBackRow.holds Try.pinned (OpenSpec.ofChange diffBackSpec)

/-- ITS FALSE NEIGHBOUR: 'it returns false'. Refute it at one input. -/
def diffBackWrong : ChangeSpec := { name := "diffBack", fn := fun _ => fun
  | [d1, d2] => { results := [.lit (.bool false)], args := [d1, d2] }
  | _ => none }
def DiffBackWrongFalsely : Prop := diffBackRow.holds Try.pinned (OpenSpec.ofChange diffBackWrong)

/-- 'cordwoodlaw20.DiffJoin': WHATEVER THE INPUT: true; the input reads as it did. -/
def diffJoinSpec : ChangeSpec := { name := "diffJoin", fn := fun _ => fun
  | [d1, d2, d3, d4] => { results := [.lit (.bool true)], args := [d1, d2, d3, d4] }
  | _ => none }
def diffJoinRow : OpenClaim := { program := "ytikkcicghpkbgaa", sum := "9c0a87cd192858bfb6c4b2b01cc9b3c1b98c850f3d9e7c40a9da7fba31d8d9ab", func := "cordwood/cordwoodlaw20.DiffJoin", spec := "diffJoin", unfollowed := true, recurses := true, apart := false }
def DiffJoinSaid : Prop := diffJoinRow.holds Try.pinned (OpenSpec.ofChange diffJoinSpec)

/-- ITS FALSE NEIGHBOUR: 'it returns false'. Refute it at one input. -/
def diffJoinWrong : ChangeSpec := { name := "diffJoin", fn := fun _ => fun
  | [d1, d2, d3, d4] => { results := [.lit (.bool false)], args := [d1, d2, d3, d4] }
  | _ => none }
def DiffJoinWrongFalsely : Prop := diffJoinRow.holds Try.pinned (OpenSpec.ofChange diffJoinWrong)

/-- 'cordwoodlaw20.DiffNone': WHATEVER THE INPUT: true; the input reads as it did. -/
def diffNoneSpec : ChangeSpec := { name := "diffNone", fn := fun _ => fun
  | [d1, d2] => { results := [.lit (.bool true)], args := [d1, d2] }
  | _ => none }
def diffNoneRow : OpenClaim := { program := "ytikkcicghpkbgaa", sum := "9c0a87cd192858bfb6c4b2b01cc9b3c1b98c850f3d9e7c40a9da7fba31d8d9ab", func := "cordwood/cordwoodlaw20.DiffNone", spec := "diffNone", unfollowed := true, recurses := true, apart := false }
def DiffNoneSaid : Prop := diffNoneRow.holds Try.pinned (OpenSpec.ofChange diffNoneSpec)

/-- ITS FALSE NEIGHBOUR: 'it returns false'. Refute it at one input. -/
def diffNoneWrong : ChangeSpec := { name := "diffNone", fn := fun _ => fun
  | [d1, d2] => { results := [.lit (.bool false)], args := [d1, d2] }
  | _ => none }
def DiffNoneWrongFalsely : Prop := diffNoneRow.holds Try.pinned (OpenSpec.ofChange diffNoneWrong)

/-- 'cordwoodlaw20.DiffThree': WHATEVER THE INPUT: true; the input reads as it did. -/
def diffThreeSpec : ChangeSpec := { name := "diffThree", fn := fun _ => fun
  | [d1, d2, d3, d4] => { results := [.lit (.bool true)], args := [d1, d2, d3, d4] }
  | _ => none }
def diffThreeRow : OpenClaim := { program := "ytikkcicghpkbgaa", sum := "9c0a87cd192858bfb6c4b2b01cc9b3c1b98c850f3d9e7c40a9da7fba31d8d9ab", func := "cordwood/cordwoodlaw20.DiffThree", spec := "diffThree", unfollowed := true, recurses := true, apart := false }
def DiffThreeSaid : Prop := diffThreeRow.holds Try.pinned (OpenSpec.ofChange diffThreeSpec)

/-- ITS FALSE NEIGHBOUR: 'it returns false'. Refute it at one input. -/
def diffThreeWrong : ChangeSpec := { name := "diffThree", fn := fun _ => fun
  | [d1, d2, d3, d4] => { results := [.lit (.bool false)], args := [d1, d2, d3, d4] }
  | _ => none }
def DiffThreeWrongFalsely : Prop := diffThreeRow.holds Try.pinned (OpenSpec.ofChange diffThreeWrong)

/- THE SECOND FORM. 'bulk': how many values and letters a reading holds, each counted each time it is reached (what is shared counts as often as it is met; a slice's spare places count too). A statement '..UptoSaid' is the law's where the arguments, and the package variables that the reading takes, are together of bulk at most 1048576: NARROWER than '..Said'. Prove '..Said' where nothing that the law and all that it calls make is longer than what came in: it says more and counts as full. Else prove '..UptoSaid'. A law counts once. -/
mutual
def uptoBulk {H : Type} : DataW H → Nat
  | .lit (.string bytes) => bytes.length + 1
  | .lit _ => 1
  | .nil => 1
  | .ptr d => uptoBulk d + 1
  | .slice elems spare => uptoBulkAll elems + uptoBulkAll spare + 1
  | .agg parts => uptoBulkAll parts + 1
  | .iface _ d => uptoBulk d + 1
  | .map entries => uptoBulkEntries entries + 1
  | .held _ => 1
def uptoBulkAll {H : Type} : List (DataW H) → Nat
  | [] => 0
  | d :: r => uptoBulk d + uptoBulkAll r
def uptoBulkEntries {H : Type} : List (Lit × DataW H) → Nat
  | [] => 0
  | x :: r => uptoBulkEntry x + uptoBulkEntries r
def uptoBulkEntry {H : Type} : Lit × DataW H → Nat
  | (.string bytes, d) => bytes.length + uptoBulk d + 1
  | (_, d) => uptoBulk d + 1
 end
def uptoSmall : (H : Type) → List (DataW H) → Bool := fun _ ds => decide (uptoBulkAll ds ≤ 1048576)
def OpenSpec.upto (s : _root_.Go.ChangeSpec) : _root_.Go.OpenSpec := { _root_.Go.OpenSpec.ofChange s with cond := some uptoSmall }

/-- 'cordwoodlaw10.ShapeFree', WHERE WHAT IT READS IS OF BULK AT MOST 1048576: true; the input reads as it did. -/
def shapeFreeUptoRow : OpenClaim := { program := "ytikkcicghpkbgaa", sum := "9c0a87cd192858bfb6c4b2b01cc9b3c1b98c850f3d9e7c40a9da7fba31d8d9ab", func := "cordwood/cordwoodlaw10.ShapeFree", spec := "shapeFree", unfollowed := true, recurses := true, apart := false, narrowed := true }
def ShapeFreeUptoSaid : Prop := shapeFreeUptoRow.holds Try.pinned (OpenSpec.upto shapeFreeSpec)

/-- 'cordwoodlaw10.ShapeSets', WHERE WHAT IT READS IS OF BULK AT MOST 1048576: true; the input reads as it did. -/
def shapeSetsUptoRow : OpenClaim := { program := "ytikkcicghpkbgaa", sum := "9c0a87cd192858bfb6c4b2b01cc9b3c1b98c850f3d9e7c40a9da7fba31d8d9ab", func := "cordwood/cordwoodlaw10.ShapeSets", spec := "shapeSets", unfollowed := true, recurses := true, apart := false, narrowed := true }
def ShapeSetsUptoSaid : Prop := shapeSetsUptoRow.holds Try.pinned (OpenSpec.upto shapeSetsSpec)

/-- 'cordwoodlaw10.ShapeGrows', WHERE WHAT IT READS IS OF BULK AT MOST 1048576: true; the input reads as it did. -/
def shapeGrowsUptoRow : OpenClaim := { program := "ytikkcicghpkbgaa", sum := "9c0a87cd192858bfb6c4b2b01cc9b3c1b98c850f3d9e7c40a9da7fba31d8d9ab", func := "cordwood/cordwoodlaw10.ShapeGrows", spec := "shapeGrows", unfollowed := true, recurses := true, apart := false, narrowed := true }
def ShapeGrowsUptoSaid : Prop := shapeGrowsUptoRow.holds Try.pinned (OpenSpec.upto shapeGrowsSpec)

/-- 'cordwoodlaw10.ShapeTrims', WHERE WHAT IT READS IS OF BULK AT MOST 1048576: true; the input reads as it did. -/
def shapeTrimsUptoRow : OpenClaim := { program := "ytikkcicghpkbgaa", sum := "9c0a87cd192858bfb6c4b2b01cc9b3c1b98c850f3d9e7c40a9da7fba31d8d9ab", func := "cordwood/cordwoodlaw10.ShapeTrims", spec := "shapeTrims", unfollowed := true, recurses := true, apart := false, narrowed := true }
def ShapeTrimsUptoSaid : Prop := shapeTrimsUptoRow.holds Try.pinned (OpenSpec.upto shapeTrimsSpec)

/-- 'cordwoodlaw20.DiffIs', WHERE WHAT IT READS IS OF BULK AT MOST 1048576: true; the input reads as it did. -/
def diffIsUptoRow : OpenClaim := { program := "ytikkcicghpkbgaa", sum := "9c0a87cd192858bfb6c4b2b01cc9b3c1b98c850f3d9e7c40a9da7fba31d8d9ab", func := "cordwood/cordwoodlaw20.DiffIs", spec := "diffIs", unfollowed := true, recurses := true, apart := false, narrowed := true }
def DiffIsUptoSaid : Prop := diffIsUptoRow.holds Try.pinned (OpenSpec.upto diffIsSpec)

/-- 'cordwoodlaw20.DiffBack', WHERE WHAT IT READS IS OF BULK AT MOST 1048576: true; the input reads as it did. -/
def diffBackUptoRow : OpenClaim := { program := "ytikkcicghpkbgaa", sum := "9c0a87cd192858bfb6c4b2b01cc9b3c1b98c850f3d9e7c40a9da7fba31d8d9ab", func := "cordwood/cordwoodlaw20.DiffBack", spec := "diffBack", unfollowed := true, recurses := true, apart := false, narrowed := true }
def DiffBackUptoSaid : Prop := diffBackUptoRow.holds Try.pinned (OpenSpec.upto diffBackSpec)

/-- 'cordwoodlaw20.DiffJoin', WHERE WHAT IT READS IS OF BULK AT MOST 1048576: true; the input reads as it did. -/
def diffJoinUptoRow : OpenClaim := { program := "ytikkcicghpkbgaa", sum := "9c0a87cd192858bfb6c4b2b01cc9b3c1b98c850f3d9e7c40a9da7fba31d8d9ab", func := "cordwood/cordwoodlaw20.DiffJoin", spec := "diffJoin", unfollowed := true, recurses := true, apart := false, narrowed := true }
def DiffJoinUptoSaid : Prop := diffJoinUptoRow.holds Try.pinned (OpenSpec.upto diffJoinSpec)

/-- 'cordwoodlaw20.DiffNone', WHERE WHAT IT READS IS OF BULK AT MOST 1048576: true; the input reads as it did. -/
def diffNoneUptoRow : OpenClaim := { program := "ytikkcicghpkbgaa", sum := "9c0a87cd192858bfb6c4b2b01cc9b3c1b98c850f3d9e7c40a9da7fba31d8d9ab", func := "cordwood/cordwoodlaw20.DiffNone", spec := "diffNone", unfollowed := true, recurses := true, apart := false, narrowed := true }
def DiffNoneUptoSaid : Prop := diffNoneUptoRow.holds Try.pinned (OpenSpec.upto diffNoneSpec)

/-- 'cordwoodlaw20.DiffThree', WHERE WHAT IT READS IS OF BULK AT MOST 1048576: true; the input reads as it did. -/
def diffThreeUptoRow : OpenClaim := { program := "ytikkcicghpkbgaa", sum := "9c0a87cd192858bfb6c4b2b01cc9b3c1b98c850f3d9e7c40a9da7fba31d8d9ab", func := "cordwood/cordwoodlaw20.DiffThree", spec := "diffThree", unfollowed := true, recurses := true, apart := false, narrowed := true }
def DiffThreeUptoSaid : Prop := diffThreeUptoRow.holds Try.pinned (OpenSpec.upto diffThreeSpec)

end Rows
end Go.Proofs.Ytikkcicghpkbgaa
