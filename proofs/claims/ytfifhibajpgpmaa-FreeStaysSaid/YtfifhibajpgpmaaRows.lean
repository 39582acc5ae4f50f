/-
  No cell of these rows narrows 'for every input' (looked for: loops, veiled, ifaces, maps, wideKeys, modest, calm, conditions, laid).
  DERIVED. THE GIVEN ROWS OF THIS SEAT. 6 by the template 'for every input the law returns true; each argument reads behind the call as it read before'; 0 by the template 'total and deterministic' (their statements: YtfifhibajpgpmaaTotals.lean).
  GIVEN WITH THE SEED: the statements are not yours to turn. If you find one false, say at which input.
  Laid BY PROGRAM, IN A SANDBOX (cutbox-rows.mjs): the forced cells as the released guide's own fill.sh prints them over the translation fbadbdbe1c45f7dc… (all of the seat's roots in one cut). By AI agents, Wed Nov 11 2026. No macro, syntax, notation, axiom, sorry.
-/
import Derived.Test.YtfifhibajpgpmaaChecked
import GoSem.Claim
import GoSem.ClaimJoined
import GoSem.ClaimMapViews
import Derived.JoinedTies
import Derived.KernelRfl
namespace Go.Proofs.Ytfifhibajpgpmaa
/- THE CELL 'sum', in the pinned program and in every row, IS THE sha256 OF THE DUMP (.gsa) THAT YtfifhibajpgpmaaProg.lean LOADS. Nothing in Lean hashes anything: it is a label: what it is worth is what the hold of that sum in a sandbox is worth. -/
noncomputable def Try.pinned : Pinned := { name := "ytfifhibajpgpmaa", sum := "fbadbdbe1c45f7dc95ec680755eb07d3f7110b8f7a02454dba06ead39bc932b1", checked := Try.checked }
namespace Rows
def none {H : Type} : Left H := { results := [], args := [] }

/-- 'cordwoodlaw17.FreeRises': WHATEVER THE INPUT: true; the input reads as it did. -/
def freeRisesSpec : ChangeSpec := { name := "freeRises", fn := fun _ => fun
  | [d] => { results := [.lit (.bool true)], args := [d] }
  | _ => none }
def freeRisesRow : OpenClaim := { program := "ytfifhibajpgpmaa", sum := "fbadbdbe1c45f7dc95ec680755eb07d3f7110b8f7a02454dba06ead39bc932b1", func := "cordwood/cordwoodlaw17.FreeRises", spec := "freeRises", unfollowed := true, recurses := true, apart := false }
def FreeRisesSaid : Prop := freeRisesRow.holds Try.pinned (OpenSpec.ofChange freeRisesSpec)

/-- ITS FALSE NEIGHBOUR: 'it returns false'. Refute it at one input. -/
def freeRisesWrong : ChangeSpec := { name := "freeRises", fn := fun _ => fun
  | [d] => { results := [.lit (.bool false)], args := [d] }
  | _ => none }
def FreeRisesWrongFalsely : Prop := freeRisesRow.holds Try.pinned (OpenSpec.ofChange freeRisesWrong)

/-- 'cordwoodlaw17.FreeNew': WHATEVER THE INPUT: true; the input reads as it did. -/
def freeNewSpec : ChangeSpec := { name := "freeNew", fn := fun _ => fun
  | [d1, d2] => { results := [.lit (.bool true)], args := [d1, d2] }
  | _ => none }
def freeNewRow : OpenClaim := { program := "ytfifhibajpgpmaa", sum := "fbadbdbe1c45f7dc95ec680755eb07d3f7110b8f7a02454dba06ead39bc932b1", func := "cordwood/cordwoodlaw17.FreeNew", spec := "freeNew", unfollowed := true, recurses := true, apart := false }
def FreeNewSaid : Prop := freeNewRow.holds Try.pinned (OpenSpec.ofChange freeNewSpec)

/-- ITS FALSE NEIGHBOUR: 'it returns false'. Refute it at one input. -/
def freeNewWrong : ChangeSpec := { name := "freeNew", fn := fun _ => fun
  | [d1, d2] => { results := [.lit (.bool false)], args := [d1, d2] }
  | _ => none }
def FreeNewWrongFalsely : Prop := freeNewRow.holds Try.pinned (OpenSpec.ofChange freeNewWrong)

/-- 'cordwoodlaw17.FreeLeast': WHATEVER THE INPUT: true; the input reads as it did. -/
def freeLeastSpec : ChangeSpec := { name := "freeLeast", fn := fun _ => fun
  | [d1, d2] => { results := [.lit (.bool true)], args := [d1, d2] }
  | _ => none }
def freeLeastRow : OpenClaim := { program := "ytfifhibajpgpmaa", sum := "fbadbdbe1c45f7dc95ec680755eb07d3f7110b8f7a02454dba06ead39bc932b1", func := "cordwood/cordwoodlaw17.FreeLeast", spec := "freeLeast", unfollowed := true, recurses := true, apart := false }
def FreeLeastSaid : Prop := freeLeastRow.holds Try.pinned (OpenSpec.ofChange freeLeastSpec)

/-- ITS FALSE NEIGHBOUR: 'it returns false'. Refute it at one input. -/
def freeLeastWrong : ChangeSpec := { name := "freeLeast", fn := fun _ => fun
  | [d1, d2] => { results := [.lit (.bool false)], args := [d1, d2] }
  | _ => none }
def FreeLeastWrongFalsely : Prop := freeLeastRow.holds Try.pinned (OpenSpec.ofChange freeLeastWrong)

/-- 'cordwoodlaw17.FreeIs': WHATEVER THE INPUT: true; the input reads as it did. -/
def freeIsSpec : ChangeSpec := { name := "freeIs", fn := fun _ => fun
  | [d1, d2, d3] => { results := [.lit (.bool true)], args := [d1, d2, d3] }
  | _ => none }
def freeIsRow : OpenClaim := { program := "ytfifhibajpgpmaa", sum := "fbadbdbe1c45f7dc95ec680755eb07d3f7110b8f7a02454dba06ead39bc932b1", func := "cordwood/cordwoodlaw17.FreeIs", spec := "freeIs", unfollowed := true, recurses := true, apart := false }
def FreeIsSaid : Prop := freeIsRow.holds Try.pinned (OpenSpec.ofChange freeIsSpec)

/-- ITS FALSE NEIGHBOUR: 'it returns false'. Refute it at one input. -/
def freeIsWrong : ChangeSpec := { name := "freeIs", fn := fun _ => fun
  | [d1, d2, d3] => { results := [.lit (.bool false)], args := [d1, d2, d3] }
  | _ => none }
def FreeIsWrongFalsely : Prop := freeIsRow.holds Try.pinned (OpenSpec.ofChange freeIsWrong)

/-- 'cordwoodlaw17.FreeStays': WHATEVER THE INPUT: true; the input reads as it did. -/
def freeStaysSpec : ChangeSpec := { name := "freeStays", fn := fun _ => fun
  | [d1, d2, d3] => { results := [.lit (.bool true)], args := [d1, d2, d3] }
  | _ => none }
def freeStaysRow : OpenClaim := { program := "ytfifhibajpgpmaa", sum := "fbadbdbe1c45f7dc95ec680755eb07d3f7110b8f7a02454dba06ead39bc932b1", func := "cordwood/cordwoodlaw17.FreeStays", spec := "freeStays", unfollowed := true, recurses := true, apart := false }
def FreeStaysSaid : Prop := freeStaysRow.holds Try.pinned (OpenSpec.ofChange freeStaysSpec)

/-- ITS FALSE NEIGHBOUR: 'it returns false'. Refute it at one input. -/
def freeStaysWrong : ChangeSpec := { name := "freeStays", fn := fun _ => fun
  | [d1, d2, d3] => { results := [.lit (.bool false)], args := [d1, d2, d3] }
  | _ => none }
def FreeStaysWrongFalsely : Prop := freeStaysRow.holds Try.pinned (OpenSpec.ofChange freeStaysWrong)

/-- 'cordwoodlaw17.FreePut': WHATEVER THE INPUT: true; the input reads as it did. -/
def freePutSpec : ChangeSpec := { name := "freePut", fn := fun _ => fun
  | [d1, d2, d3] => { results := [.lit (.bool true)], args := [d1, d2, d3] }
  | _ => none }
def freePutRow : OpenClaim := { program := "ytfifhibajpgpmaa", sum := "fbadbdbe1c45f7dc95ec680755eb07d3f7110b8f7a02454dba06ead39bc932b1", func := "cordwood/cordwoodlaw17.FreePut", spec := "freePut", unfollowed := true, recurses := true, apart := false }
def FreePutSaid : Prop := freePutRow.holds Try.pinned (OpenSpec.ofChange freePutSpec)

/-- ITS FALSE NEIGHBOUR: 'it returns false'. Refute it at one input. -/
def freePutWrong : ChangeSpec := { name := "freePut", fn := fun _ => fun
  | [d1, d2, d3] => { results := [.lit (.bool false)], args := [d1, d2, d3] }
  | _ => none }
def FreePutWrongFalsely : Prop := freePutRow.holds Try.pinned (OpenSpec.ofChange freePutWrong)

/- THE SECOND FORM. 'bulk': how many values and letters a reading holds, each counted each time it is reached (what is shared counts as often as it is met; a slice's spare places count too). A statement '..UptoSaid' is the law's where the arguments, and the package variables that the reading takes, are together of bulk at most 1048576: NARROWER than '..Said'. Prove '..Said' where nothing that the law and all that it calls make is longer than what came in: it says more and counts as full. Else prove '..UptoSaid'. A law counts once. -/
mutual
def uptoBulk {H : Type} : DataW H → Nat
  | .lit (.string bytes) => bytes.length + 1
  | .lit _ => 1
  | .nil => 1
  | .ptr d => uptoBulk d + 1
  | .slice elems spare => uptoBulkAll elems + uptoBulkAll spare + 1
  | .agg parts => uptoBulkAll parts + 1
  | .iface _ d => uptoBulk d + 1
  | .map entries => uptoBulkEntries entries + 1
  | .held _ => 1
def uptoBulkAll {H : Type} : List (DataW H) → Nat
  | [] => 0
  | d :: r => uptoBulk d + uptoBulkAll r
def uptoBulkEntries {H : Type} : List (Lit × DataW H) → Nat
  | [] => 0
  | x :: r => uptoBulkEntry x + uptoBulkEntries r
def uptoBulkEntry {H : Type} : Lit × DataW H → Nat
  | (.string bytes, d) => bytes.length + uptoBulk d + 1
  | (_, d) => uptoBulk d + 1
 end
def uptoSmall : (H : Type) → List (DataW H) → Bool := fun _ ds => decide (uptoBulkAll ds ≤ 1048576)
def OpenSpec.upto (s : _root_.Go.ChangeSpec) : _root_.Go.OpenSpec := { _root_.Go.OpenSpec.ofChange s with cond := some uptoSmall }

/-- 'cordwoodlaw17.FreeRises', WHERE WHAT IT READS IS OF BULK AT MOST 1048576: true; the input reads as it did. -/
def freeRisesUptoRow : OpenClaim := { program := "ytfifhibajpgpmaa", sum := "fbadbdbe1c45f7dc95ec680755eb07d3f7110b8f7a02454dba06ead39bc932b1", func := "cordwood/cordwoodlaw17.FreeRises", spec := "freeRises", unfollowed := true, recurses := true, apart := false, narrowed := true }
def FreeRisesUptoSaid : Prop := freeRisesUptoRow.holds Try.pinned (OpenSpec.upto freeRisesSpec)

/-- 'cordwoodlaw17.FreeNew', WHERE WHAT IT READS IS OF BULK AT MOST 1048576: true; the input reads as it did. -/
def freeNewUptoRow : OpenClaim := { program := "ytfifhibajpgpmaa", sum := "fbadbdbe1c45f7dc95ec680755eb07d3f7110b8f7a02454dba06ead39bc932b1", func := "cordwood/cordwoodlaw17.FreeNew", spec := "freeNew", unfollowed := true, recurses := true, apart := false, narrowed := true }
def FreeNewUptoSaid : Prop := freeNewUptoRow.holds Try.pinned (OpenSpec.upto freeNewSpec)

/-- 'cordwoodlaw17.FreeLeast', WHERE WHAT IT READS IS OF BULK AT MOST 1048576: true; the input reads as it did. -/
def freeLeastUptoRow : OpenClaim := { program := "ytfifhibajpgpmaa", sum := "fbadbdbe1c45f7dc95ec680755eb07d3f7110b8f7a02454dba06ead39bc932b1", func := "cordwood/cordwoodlaw17.FreeLeast", spec := "freeLeast", unfollowed := true, recurses := true, apart := false, narrowed := true }
def FreeLeastUptoSaid : Prop := freeLeastUptoRow.holds Try.pinned (OpenSpec.upto freeLeastSpec)

/-- 'cordwoodlaw17.FreeIs', WHERE WHAT IT READS IS OF BULK AT MOST 1048576: true; the input reads as it did. -/
def freeIsUptoRow : OpenClaim := { program := "ytfifhibajpgpmaa", sum := "fbadbdbe1c45f7dc95ec680755eb07d3f7110b8f7a02454dba06ead39bc932b1", func := "cordwood/cordwoodlaw17.FreeIs", spec := "freeIs", unfollowed := true, recurses := true, apart := false, narrowed := true }
def FreeIsUptoSaid : Prop := freeIsUptoRow.holds Try.pinned (OpenSpec.upto freeIsSpec)

/-- 'cordwoodlaw17.FreeStays', WHERE WHAT IT READS IS OF BULK AT MOST 1048576: true; the input reads as it did. -/
def freeStaysUptoRow : OpenClaim := { program := "ytfifhibajpgpmaa", sum := "fbadbdbe1c45f7dc95ec680755eb07d3f7110b8f7a02454dba06ead39bc932b1", func := "cordwood/cordwoodlaw17.FreeStays", spec := "freeStays", unfollowed := true, recurses := true, apart := false, narrowed := true }
def FreeStaysUptoSaid : Prop := freeStaysUptoRow.holds Try.pinned (OpenSpec.upto freeStaysSpec)

/-- 'cordwoodlaw17.FreePut', WHERE WHAT IT READS IS OF BULK AT MOST 1048576: true; the input reads as it did. -/
def freePutUptoRow : OpenClaim := { program := "ytfifhibajpgpmaa", sum := "fbadbdbe1c45f7dc95ec680755eb07d3f7110b8f7a02454dba06ead39bc932b1", func := "cordwood/cordwoodlaw17.FreePut", spec := "freePut", unfollowed := true, recurses := true, apart := false, narrowed := true }
def FreePutUptoSaid : Prop := freePutUptoRow.holds Try.pinned (OpenSpec.upto freePutSpec)

end Rows
end Go.Proofs.Ytfifhibajpgpmaa
