/-
  NARROWER THAN 'FOR EVERY INPUT', by the rows' own cells (each row's printed sentence says how): ShapeKeeps: laid · ShapeClears: laid · ResolveBoth: laid · ResolveCovers: laid · ResolveOnce: laid · ResolveFilter: laid · ResolveGrows: laid.
  DERIVED. THE GIVEN ROWS OF THIS SEAT. 7 by the template 'for every input the law returns true; each argument reads behind the call as it read before'; 0 by the template 'total and deterministic' (their statements: YtlehcigcaihoaaaDoorTotals.lean).
  GIVEN WITH THE SEED: the statements are not yours to turn. If you find one false, say at which input.
  Laid BY PROGRAM, IN A SANDBOX (cutbox-rows.mjs): the forced cells as the released guide's own fill.sh prints them over the translation 5b292f46f176f4ba… (all of the seat's roots in one cut). By AI agents, Wed Nov 11 2026. No macro, syntax, notation, axiom, sorry.
-/
import Derived.Test.YtlehcigcaihoaaaDoorChecked
import GoSem.Claim
import GoSem.ClaimJoined
import GoSem.ClaimMapViews
import Derived.JoinedTies
import Derived.KernelRfl
namespace Go.Proofs.YtlehcigcaihoaaaDoor
/- THE CELL 'sum', in the pinned program and in every row, IS THE sha256 OF THE DUMP (.gsa) THAT YtlehcigcaihoaaaDoorProg.lean LOADS. Nothing in Lean hashes anything: it is a label: what it is worth is what the hold of that sum in a sandbox is worth. -/
noncomputable def Tryd.pinned : Pinned := { name := "ytlehcigcaihoaaadoor", sum := "5b292f46f176f4ba944214b071ad2a89aa641b36bf5ed243745c89fff352549a", checked := Tryd.checked }
namespace Rows
def none {H : Type} : Left H := { results := [], args := [] }

/- WHAT THE LISTED PACKAGE-LEVEL VARIABLES READ AS WHEN THE CALL BEGINS. Each datum BY PROGRAM (the guide's laid-datum.mjs) off the statement by which the dump's own 'gosem.cut.vars' lays the variable. In a bare row this is a premise. The card (YtlehcigcaihoaaaDoorCards.lean) ties it to the program's text. -/
def laid_math_bits_deBruijn32tab {H : Type} : DataW H := .agg [.lit (.int .u8 0), .lit (.int .u8 1), .lit (.int .u8 28), .lit (.int .u8 2), .lit (.int .u8 29), .lit (.int .u8 14), .lit (.int .u8 24), .lit (.int .u8 3), .lit (.int .u8 30), .lit (.int .u8 22), .lit (.int .u8 20), .lit (.int .u8 15), .lit (.int .u8 25), .lit (.int .u8 17), .lit (.int .u8 4), .lit (.int .u8 8), .lit (.int .u8 31), .lit (.int .u8 27), .lit (.int .u8 13), .lit (.int .u8 23), .lit (.int .u8 21), .lit (.int .u8 19), .lit (.int .u8 16), .lit (.int .u8 7), .lit (.int .u8 26), .lit (.int .u8 12), .lit (.int .u8 18), .lit (.int .u8 6), .lit (.int .u8 11), .lit (.int .u8 5), .lit (.int .u8 10), .lit (.int .u8 9)]
def laid_math_bits_deBruijn64tab {H : Type} : DataW H := .agg [.lit (.int .u8 0), .lit (.int .u8 1), .lit (.int .u8 56), .lit (.int .u8 2), .lit (.int .u8 57), .lit (.int .u8 49), .lit (.int .u8 28), .lit (.int .u8 3), .lit (.int .u8 61), .lit (.int .u8 58), .lit (.int .u8 42), .lit (.int .u8 50), .lit (.int .u8 38), .lit (.int .u8 29), .lit (.int .u8 17), .lit (.int .u8 4), .lit (.int .u8 62), .lit (.int .u8 47), .lit (.int .u8 59), .lit (.int .u8 36), .lit (.int .u8 45), .lit (.int .u8 43), .lit (.int .u8 51), .lit (.int .u8 22), .lit (.int .u8 53), .lit (.int .u8 39), .lit (.int .u8 33), .lit (.int .u8 30), .lit (.int .u8 24), .lit (.int .u8 18), .lit (.int .u8 12), .lit (.int .u8 5), .lit (.int .u8 63), .lit (.int .u8 55), .lit (.int .u8 48), .lit (.int .u8 27), .lit (.int .u8 60), .lit (.int .u8 41), .lit (.int .u8 37), .lit (.int .u8 16), .lit (.int .u8 46), .lit (.int .u8 35), .lit (.int .u8 44), .lit (.int .u8 21), .lit (.int .u8 52), .lit (.int .u8 32), .lit (.int .u8 23), .lit (.int .u8 11), .lit (.int .u8 54), .lit (.int .u8 26), .lit (.int .u8 40), .lit (.int .u8 15), .lit (.int .u8 34), .lit (.int .u8 20), .lit (.int .u8 31), .lit (.int .u8 10), .lit (.int .u8 25), .lit (.int .u8 14), .lit (.int .u8 19), .lit (.int .u8 9), .lit (.int .u8 13), .lit (.int .u8 8), .lit (.int .u8 7), .lit (.int .u8 6)]

/-- 'cordwoodlaw10.ShapeKeeps': WHATEVER THE INPUT: true; the input reads as it did. -/
def shapeKeepsSpec : ChangeSpec := { name := "shapeKeeps", fn := fun _ => fun
  | [d1, d2, d3] => { results := [.lit (.bool true)], args := [d1, d2, d3] }
  | _ => none }
def shapeKeepsRow : OpenClaim := { program := "ytlehcigcaihoaaadoor", sum := "5b292f46f176f4ba944214b071ad2a89aa641b36bf5ed243745c89fff352549a", func := "cordwood/cordwoodlaw10.ShapeKeeps", spec := "shapeKeeps", unfollowed := true, recurses := true, named := ["math/bits.deBruijn32tab", "math/bits.deBruijn64tab"], apart := false, laid := [("math/bits.deBruijn32tab", laid_math_bits_deBruijn32tab), ("math/bits.deBruijn64tab", laid_math_bits_deBruijn64tab)] }
def ShapeKeepsSaid : Prop := shapeKeepsRow.holds Tryd.pinned (OpenSpec.ofChange shapeKeepsSpec)

/-- ITS FALSE NEIGHBOUR: 'it returns false'. Refute it at one input. -/
def shapeKeepsWrong : ChangeSpec := { name := "shapeKeeps", fn := fun _ => fun
  | [d1, d2, d3] => { results := [.lit (.bool false)], args := [d1, d2, d3] }
  | _ => none }
def ShapeKeepsWrongFalsely : Prop := shapeKeepsRow.holds Tryd.pinned (OpenSpec.ofChange shapeKeepsWrong)

/-- 'cordwoodlaw10.ShapeClears': WHATEVER THE INPUT: true; the input reads as it did. -/
def shapeClearsSpec : ChangeSpec := { name := "shapeClears", fn := fun _ => fun
  | [d1, d2] => { results := [.lit (.bool true)], args := [d1, d2] }
  | _ => none }
def shapeClearsRow : OpenClaim := { program := "ytlehcigcaihoaaadoor", sum := "5b292f46f176f4ba944214b071ad2a89aa641b36bf5ed243745c89fff352549a", func := "cordwood/cordwoodlaw10.ShapeClears", spec := "shapeClears", unfollowed := true, recurses := true, named := ["math/bits.deBruijn32tab", "math/bits.deBruijn64tab"], apart := false, laid := [("math/bits.deBruijn32tab", laid_math_bits_deBruijn32tab), ("math/bits.deBruijn64tab", laid_math_bits_deBruijn64tab)] }
def ShapeClearsSaid : Prop := shapeClearsRow.holds Tryd.pinned (OpenSpec.ofChange shapeClearsSpec)

/-- ITS FALSE NEIGHBOUR: 'it returns false'. Refute it at one input. -/
def shapeClearsWrong : ChangeSpec := { name := "shapeClears", fn := fun _ => fun
  | [d1, d2] => { results := [.lit (.bool false)], args := [d1, d2] }
  | _ => none }
def ShapeClearsWrongFalsely : Prop := shapeClearsRow.holds Tryd.pinned (OpenSpec.ofChange shapeClearsWrong)

/-- 'cordwoodlaw11.ResolveBoth': WHATEVER THE INPUT: true; the input reads as it did. -/
def resolveBothSpec : ChangeSpec := { name := "resolveBoth", fn := fun _ => fun
  | [d1, d2] => { results := [.lit (.bool true)], args := [d1, d2] }
  | _ => none }
def resolveBothRow : OpenClaim := { program := "ytlehcigcaihoaaadoor", sum := "5b292f46f176f4ba944214b071ad2a89aa641b36bf5ed243745c89fff352549a", func := "cordwood/cordwoodlaw11.ResolveBoth", spec := "resolveBoth", unfollowed := true, recurses := true, named := ["math/bits.deBruijn32tab", "math/bits.deBruijn64tab"], apart := false, laid := [("math/bits.deBruijn32tab", laid_math_bits_deBruijn32tab), ("math/bits.deBruijn64tab", laid_math_bits_deBruijn64tab)] }
def ResolveBothSaid : Prop := resolveBothRow.holds Tryd.pinned (OpenSpec.ofChange resolveBothSpec)

/-- ITS FALSE NEIGHBOUR: 'it returns false'. Refute it at one input. -/
def resolveBothWrong : ChangeSpec := { name := "resolveBoth", fn := fun _ => fun
  | [d1, d2] => { results := [.lit (.bool false)], args := [d1, d2] }
  | _ => none }
def ResolveBothWrongFalsely : Prop := resolveBothRow.holds Tryd.pinned (OpenSpec.ofChange resolveBothWrong)

/-- 'cordwoodlaw11.ResolveCovers': WHATEVER THE INPUT: true; the input reads as it did. -/
def resolveCoversSpec : ChangeSpec := { name := "resolveCovers", fn := fun _ => fun
  | [d1, d2] => { results := [.lit (.bool true)], args := [d1, d2] }
  | _ => none }
def resolveCoversRow : OpenClaim := { program := "ytlehcigcaihoaaadoor", sum := "5b292f46f176f4ba944214b071ad2a89aa641b36bf5ed243745c89fff352549a", func := "cordwood/cordwoodlaw11.ResolveCovers", spec := "resolveCovers", unfollowed := true, recurses := true, named := ["math/bits.deBruijn32tab", "math/bits.deBruijn64tab"], apart := false, laid := [("math/bits.deBruijn32tab", laid_math_bits_deBruijn32tab), ("math/bits.deBruijn64tab", laid_math_bits_deBruijn64tab)] }
def ResolveCoversSaid : Prop := resolveCoversRow.holds Tryd.pinned (OpenSpec.ofChange resolveCoversSpec)

/-- ITS FALSE NEIGHBOUR: 'it returns false'. Refute it at one input. -/
def resolveCoversWrong : ChangeSpec := { name := "resolveCovers", fn := fun _ => fun
  | [d1, d2] => { results := [.lit (.bool false)], args := [d1, d2] }
  | _ => none }
def ResolveCoversWrongFalsely : Prop := resolveCoversRow.holds Tryd.pinned (OpenSpec.ofChange resolveCoversWrong)

/-- 'cordwoodlaw11.ResolveOnce': WHATEVER THE INPUT: true; the input reads as it did. -/
def resolveOnceSpec : ChangeSpec := { name := "resolveOnce", fn := fun _ => fun
  | [d1, d2] => { results := [.lit (.bool true)], args := [d1, d2] }
  | _ => none }
def resolveOnceRow : OpenClaim := { program := "ytlehcigcaihoaaadoor", sum := "5b292f46f176f4ba944214b071ad2a89aa641b36bf5ed243745c89fff352549a", func := "cordwood/cordwoodlaw11.ResolveOnce", spec := "resolveOnce", unfollowed := true, recurses := true, named := ["math/bits.deBruijn32tab", "math/bits.deBruijn64tab"], apart := false, laid := [("math/bits.deBruijn32tab", laid_math_bits_deBruijn32tab), ("math/bits.deBruijn64tab", laid_math_bits_deBruijn64tab)] }
def ResolveOnceSaid : Prop := resolveOnceRow.holds Tryd.pinned (OpenSpec.ofChange resolveOnceSpec)

/-- ITS FALSE NEIGHBOUR: 'it returns false'. Refute it at one input. -/
def resolveOnceWrong : ChangeSpec := { name := "resolveOnce", fn := fun _ => fun
  | [d1, d2] => { results := [.lit (.bool false)], args := [d1, d2] }
  | _ => none }
def ResolveOnceWrongFalsely : Prop := resolveOnceRow.holds Tryd.pinned (OpenSpec.ofChange resolveOnceWrong)

/-- 'cordwoodlaw11.ResolveFilter': WHATEVER THE INPUT: true; the input reads as it did. -/
def resolveFilterSpec : ChangeSpec := { name := "resolveFilter", fn := fun _ => fun
  | [d1, d2] => { results := [.lit (.bool true)], args := [d1, d2] }
  | _ => none }
def resolveFilterRow : OpenClaim := { program := "ytlehcigcaihoaaadoor", sum := "5b292f46f176f4ba944214b071ad2a89aa641b36bf5ed243745c89fff352549a", func := "cordwood/cordwoodlaw11.ResolveFilter", spec := "resolveFilter", unfollowed := true, recurses := true, named := ["math/bits.deBruijn32tab", "math/bits.deBruijn64tab"], apart := false, laid := [("math/bits.deBruijn32tab", laid_math_bits_deBruijn32tab), ("math/bits.deBruijn64tab", laid_math_bits_deBruijn64tab)] }
def ResolveFilterSaid : Prop := resolveFilterRow.holds Tryd.pinned (OpenSpec.ofChange resolveFilterSpec)

/-- ITS FALSE NEIGHBOUR: 'it returns false'. Refute it at one input. -/
def resolveFilterWrong : ChangeSpec := { name := "resolveFilter", fn := fun _ => fun
  | [d1, d2] => { results := [.lit (.bool false)], args := [d1, d2] }
  | _ => none }
def ResolveFilterWrongFalsely : Prop := resolveFilterRow.holds Tryd.pinned (OpenSpec.ofChange resolveFilterWrong)

/-- 'cordwoodlaw11.ResolveGrows': WHATEVER THE INPUT: true; the input reads as it did. -/
def resolveGrowsSpec : ChangeSpec := { name := "resolveGrows", fn := fun _ => fun
  | [d1, d2] => { results := [.lit (.bool true)], args := [d1, d2] }
  | _ => none }
def resolveGrowsRow : OpenClaim := { program := "ytlehcigcaihoaaadoor", sum := "5b292f46f176f4ba944214b071ad2a89aa641b36bf5ed243745c89fff352549a", func := "cordwood/cordwoodlaw11.ResolveGrows", spec := "resolveGrows", unfollowed := true, recurses := true, named := ["math/bits.deBruijn32tab", "math/bits.deBruijn64tab"], apart := false, laid := [("math/bits.deBruijn32tab", laid_math_bits_deBruijn32tab), ("math/bits.deBruijn64tab", laid_math_bits_deBruijn64tab)] }
def ResolveGrowsSaid : Prop := resolveGrowsRow.holds Tryd.pinned (OpenSpec.ofChange resolveGrowsSpec)

/-- ITS FALSE NEIGHBOUR: 'it returns false'. Refute it at one input. -/
def resolveGrowsWrong : ChangeSpec := { name := "resolveGrows", fn := fun _ => fun
  | [d1, d2] => { results := [.lit (.bool false)], args := [d1, d2] }
  | _ => none }
def ResolveGrowsWrongFalsely : Prop := resolveGrowsRow.holds Tryd.pinned (OpenSpec.ofChange resolveGrowsWrong)

/- THE SECOND FORM. 'bulk': how many values and letters a reading holds, each counted each time it is reached (what is shared counts as often as it is met; a slice's spare places count too). A statement '..UptoSaid' is the law's where the arguments, and the package variables that the reading takes, are together of bulk at most 1048576: NARROWER than '..Said'. Prove '..Said' where nothing that the law and all that it calls make is longer than what came in: it says more and counts as full. Else prove '..UptoSaid'. A law counts once. -/
mutual
def uptoBulk {H : Type} : DataW H → Nat
  | .lit (.string bytes) => bytes.length + 1
  | .lit _ => 1
  | .nil => 1
  | .ptr d => uptoBulk d + 1
  | .slice elems spare => uptoBulkAll elems + uptoBulkAll spare + 1
  | .agg parts => uptoBulkAll parts + 1
  | .iface _ d => uptoBulk d + 1
  | .map entries => uptoBulkEntries entries + 1
  | .held _ => 1
def uptoBulkAll {H : Type} : List (DataW H) → Nat
  | [] => 0
  | d :: r => uptoBulk d + uptoBulkAll r
def uptoBulkEntries {H : Type} : List (Lit × DataW H) → Nat
  | [] => 0
  | x :: r => uptoBulkEntry x + uptoBulkEntries r
def uptoBulkEntry {H : Type} : Lit × DataW H → Nat
  | (.string bytes, d) => bytes.length + uptoBulk d + 1
  | (_, d) => uptoBulk d + 1
 end
def uptoSmall : (H : Type) → List (DataW H) → Bool := fun _ ds => decide (uptoBulkAll ds ≤ 1048576)
def OpenSpec.upto (s : _root_.Go.ChangeSpec) : _root_.Go.OpenSpec := { _root_.Go.OpenSpec.ofChange s with cond := some uptoSmall }

/-- 'cordwoodlaw10.ShapeKeeps', WHERE WHAT IT READS IS OF BULK AT MOST 1048576: true; the input reads as it did. -/
def shapeKeepsUptoRow : OpenClaim := { program := "ytlehcigcaihoaaadoor", sum := "5b292f46f176f4ba944214b071ad2a89aa641b36bf5ed243745c89fff352549a", func := "cordwood/cordwoodlaw10.ShapeKeeps", spec := "shapeKeeps", unfollowed := true, recurses := true, named := ["math/bits.deBruijn32tab", "math/bits.deBruijn64tab"], apart := false, laid := [("math/bits.deBruijn32tab", laid_math_bits_deBruijn32tab), ("math/bits.deBruijn64tab", laid_math_bits_deBruijn64tab)], narrowed := true }
def ShapeKeepsUptoSaid : Prop := shapeKeepsUptoRow.holds Tryd.pinned (OpenSpec.upto shapeKeepsSpec)

/-- 'cordwoodlaw10.ShapeClears', WHERE WHAT IT READS IS OF BULK AT MOST 1048576: true; the input reads as it did. -/
def shapeClearsUptoRow : OpenClaim := { program := "ytlehcigcaihoaaadoor", sum := "5b292f46f176f4ba944214b071ad2a89aa641b36bf5ed243745c89fff352549a", func := "cordwood/cordwoodlaw10.ShapeClears", spec := "shapeClears", unfollowed := true, recurses := true, named := ["math/bits.deBruijn32tab", "math/bits.deBruijn64tab"], apart := false, laid := [("math/bits.deBruijn32tab", laid_math_bits_deBruijn32tab), ("math/bits.deBruijn64tab", laid_math_bits_deBruijn64tab)], narrowed := true }
def ShapeClearsUptoSaid : Prop := shapeClearsUptoRow.holds Tryd.pinned (OpenSpec.upto shapeClearsSpec)

/-- 'cordwoodlaw11.ResolveBoth', WHERE WHAT IT READS IS OF BULK AT MOST 1048576: true; the input reads as it did. -/
def resolveBothUptoRow : OpenClaim := { program := "ytlehcigcaihoaaadoor", sum := "5b292f46f176f4ba944214b071ad2a89aa641b36bf5ed243745c89fff352549a", func := "cordwood/cordwoodlaw11.ResolveBoth", spec := "resolveBoth", unfollowed := true, recurses := true, named := ["math/bits.deBruijn32tab", "math/bits.deBruijn64tab"], apart := false, laid := [("math/bits.deBruijn32tab", laid_math_bits_deBruijn32tab), ("math/bits.deBruijn64tab", laid_math_bits_deBruijn64tab)], narrowed := true }
def ResolveBothUptoSaid : Prop := resolveBothUptoRow.holds Tryd.pinned (OpenSpec.upto resolveBothSpec)

/-- 'cordwoodlaw11.ResolveCovers', WHERE WHAT IT READS IS OF BULK AT MOST 1048576: true; the input reads as it did. -/
def resolveCoversUptoRow : OpenClaim := { program := "ytlehcigcaihoaaadoor", sum := "5b292f46f176f4ba944214b071ad2a89aa641b36bf5ed243745c89fff352549a", func := "cordwood/cordwoodlaw11.ResolveCovers", spec := "resolveCovers", unfollowed := true, recurses := true, named := ["math/bits.deBruijn32tab", "math/bits.deBruijn64tab"], apart := false, laid := [("math/bits.deBruijn32tab", laid_math_bits_deBruijn32tab), ("math/bits.deBruijn64tab", laid_math_bits_deBruijn64tab)], narrowed := true }
def ResolveCoversUptoSaid : Prop := resolveCoversUptoRow.holds Tryd.pinned (OpenSpec.upto resolveCoversSpec)

/-- 'cordwoodlaw11.ResolveOnce', WHERE WHAT IT READS IS OF BULK AT MOST 1048576: true; the input reads as it did. -/
def resolveOnceUptoRow : OpenClaim := { program := "ytlehcigcaihoaaadoor", sum := "5b292f46f176f4ba944214b071ad2a89aa641b36bf5ed243745c89fff352549a", func := "cordwood/cordwoodlaw11.ResolveOnce", spec := "resolveOnce", unfollowed := true, recurses := true, named := ["math/bits.deBruijn32tab", "math/bits.deBruijn64tab"], apart := false, laid := [("math/bits.deBruijn32tab", laid_math_bits_deBruijn32tab), ("math/bits.deBruijn64tab", laid_math_bits_deBruijn64tab)], narrowed := true }
def ResolveOnceUptoSaid : Prop := resolveOnceUptoRow.holds Tryd.pinned (OpenSpec.upto resolveOnceSpec)

/-- 'cordwoodlaw11.ResolveFilter', WHERE WHAT IT READS IS OF BULK AT MOST 1048576: true; the input reads as it did. -/
def resolveFilterUptoRow : OpenClaim := { program := "ytlehcigcaihoaaadoor", sum := "5b292f46f176f4ba944214b071ad2a89aa641b36bf5ed243745c89fff352549a", func := "cordwood/cordwoodlaw11.ResolveFilter", spec := "resolveFilter", unfollowed := true, recurses := true, named := ["math/bits.deBruijn32tab", "math/bits.deBruijn64tab"], apart := false, laid := [("math/bits.deBruijn32tab", laid_math_bits_deBruijn32tab), ("math/bits.deBruijn64tab", laid_math_bits_deBruijn64tab)], narrowed := true }
def ResolveFilterUptoSaid : Prop := resolveFilterUptoRow.holds Tryd.pinned (OpenSpec.upto resolveFilterSpec)

/-- 'cordwoodlaw11.ResolveGrows', WHERE WHAT IT READS IS OF BULK AT MOST 1048576: true; the input reads as it did. -/
def resolveGrowsUptoRow : OpenClaim := { program := "ytlehcigcaihoaaadoor", sum := "5b292f46f176f4ba944214b071ad2a89aa641b36bf5ed243745c89fff352549a", func := "cordwood/cordwoodlaw11.ResolveGrows", spec := "resolveGrows", unfollowed := true, recurses := true, named := ["math/bits.deBruijn32tab", "math/bits.deBruijn64tab"], apart := false, laid := [("math/bits.deBruijn32tab", laid_math_bits_deBruijn32tab), ("math/bits.deBruijn64tab", laid_math_bits_deBruijn64tab)], narrowed := true }
def ResolveGrowsUptoSaid : Prop := resolveGrowsUptoRow.holds Tryd.pinned (OpenSpec.upto resolveGrowsSpec)

end Rows
end Go.Proofs.YtlehcigcaihoaaaDoor
