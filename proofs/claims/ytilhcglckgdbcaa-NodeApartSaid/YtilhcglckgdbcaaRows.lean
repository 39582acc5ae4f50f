/-
  No cell of these rows narrows 'for every input' (looked for: loops, veiled, ifaces, maps, wideKeys, modest, calm, conditions, laid).
  DERIVED. THE GIVEN ROWS OF THIS SEAT. 11 by the template 'for every input the law returns true; each argument reads behind the call as it read before'; 0 by the template 'total and deterministic' (their statements: YtilhcglckgdbcaaTotals.lean).
  GIVEN WITH THE SEED: the statements are not yours to turn. If you find one false, say at which input.
  Laid BY PROGRAM, IN A SANDBOX (cutbox-rows.mjs): the forced cells as the released guide's own fill.sh prints them over the translation 309a1c9fe890446a… (all of the seat's roots in one cut). By AI agents, Wed Nov 11 2026. No macro, syntax, notation, axiom, sorry.
-/
import Derived.Test.YtilhcglckgdbcaaChecked
import GoSem.Claim
import GoSem.ClaimJoined
import GoSem.ClaimMapViews
import Derived.JoinedTies
import Derived.KernelRfl
namespace Go.Proofs.Ytilhcglckgdbcaa
/- THE CELL 'sum', in the pinned program and in every row, IS THE sha256 OF THE DUMP (.gsa) THAT YtilhcglckgdbcaaProg.lean LOADS. Nothing in Lean hashes anything: it is a label: what it is worth is what the hold of that sum in a sandbox is worth. -/
noncomputable def Try.pinned : Pinned := { name := "ytilhcglckgdbcaa", sum := "309a1c9fe890446a5c51e9a03371e534372311abc93989ffe9f3fe7d39f04316", checked := Try.checked }
namespace Rows
def none {H : Type} : Left H := { results := [], args := [] }

/-- 'cordwoodlaw08.ParentIs': WHATEVER THE INPUT: true; the input reads as it did. -/
def parentIsSpec : ChangeSpec := { name := "parentIs", fn := fun _ => fun
  | [d1, d2, d3, d4] => { results := [.lit (.bool true)], args := [d1, d2, d3, d4] }
  | _ => none }
def parentIsRow : OpenClaim := { program := "ytilhcglckgdbcaa", sum := "309a1c9fe890446a5c51e9a03371e534372311abc93989ffe9f3fe7d39f04316", func := "cordwood/cordwoodlaw08.ParentIs", spec := "parentIs", unfollowed := true, recurses := true, apart := false }
def ParentIsSaid : Prop := parentIsRow.holds Try.pinned (OpenSpec.ofChange parentIsSpec)

/-- ITS FALSE NEIGHBOUR: 'it returns false'. Refute it at one input. -/
def parentIsWrong : ChangeSpec := { name := "parentIs", fn := fun _ => fun
  | [d1, d2, d3, d4] => { results := [.lit (.bool false)], args := [d1, d2, d3, d4] }
  | _ => none }
def ParentIsWrongFalsely : Prop := parentIsRow.holds Try.pinned (OpenSpec.ofChange parentIsWrong)

/-- 'cordwoodlaw08.ParentBack': WHATEVER THE INPUT: true; the input reads as it did. -/
def parentBackSpec : ChangeSpec := { name := "parentBack", fn := fun _ => fun
  | [d1, d2, d3] => { results := [.lit (.bool true)], args := [d1, d2, d3] }
  | _ => none }
def parentBackRow : OpenClaim := { program := "ytilhcglckgdbcaa", sum := "309a1c9fe890446a5c51e9a03371e534372311abc93989ffe9f3fe7d39f04316", func := "cordwood/cordwoodlaw08.ParentBack", spec := "parentBack", unfollowed := true, recurses := true, apart := false }
def ParentBackSaid : Prop := parentBackRow.holds Try.pinned (OpenSpec.ofChange parentBackSpec)

/-- ITS FALSE NEIGHBOUR: 'it returns false'. Refute it at one input. -/
def parentBackWrong : ChangeSpec := { name := "parentBack", fn := fun _ => fun
  | [d1, d2, d3] => { results := [.lit (.bool false)], args := [d1, d2, d3] }
  | _ => none }
def ParentBackWrongFalsely : Prop := parentBackRow.holds Try.pinned (OpenSpec.ofChange parentBackWrong)

/-- 'cordwoodlaw08.ParentOnly': WHATEVER THE INPUT: true; the input reads as it did. -/
def parentOnlySpec : ChangeSpec := { name := "parentOnly", fn := fun _ => fun
  | [d] => { results := [.lit (.bool true)], args := [d] }
  | _ => none }
def parentOnlyRow : OpenClaim := { program := "ytilhcglckgdbcaa", sum := "309a1c9fe890446a5c51e9a03371e534372311abc93989ffe9f3fe7d39f04316", func := "cordwood/cordwoodlaw08.ParentOnly", spec := "parentOnly", unfollowed := true, recurses := true, apart := false }
def ParentOnlySaid : Prop := parentOnlyRow.holds Try.pinned (OpenSpec.ofChange parentOnlySpec)

/-- ITS FALSE NEIGHBOUR: 'it returns false'. Refute it at one input. -/
def parentOnlyWrong : ChangeSpec := { name := "parentOnly", fn := fun _ => fun
  | [d] => { results := [.lit (.bool false)], args := [d] }
  | _ => none }
def ParentOnlyWrongFalsely : Prop := parentOnlyRow.holds Try.pinned (OpenSpec.ofChange parentOnlyWrong)

/-- 'cordwoodlaw08.ParentJoin': WHATEVER THE INPUT: true; the input reads as it did. -/
def parentJoinSpec : ChangeSpec := { name := "parentJoin", fn := fun _ => fun
  | [d1, d2, d3] => { results := [.lit (.bool true)], args := [d1, d2, d3] }
  | _ => none }
def parentJoinRow : OpenClaim := { program := "ytilhcglckgdbcaa", sum := "309a1c9fe890446a5c51e9a03371e534372311abc93989ffe9f3fe7d39f04316", func := "cordwood/cordwoodlaw08.ParentJoin", spec := "parentJoin", unfollowed := true, recurses := true, apart := false }
def ParentJoinSaid : Prop := parentJoinRow.holds Try.pinned (OpenSpec.ofChange parentJoinSpec)

/-- ITS FALSE NEIGHBOUR: 'it returns false'. Refute it at one input. -/
def parentJoinWrong : ChangeSpec := { name := "parentJoin", fn := fun _ => fun
  | [d1, d2, d3] => { results := [.lit (.bool false)], args := [d1, d2, d3] }
  | _ => none }
def ParentJoinWrongFalsely : Prop := parentJoinRow.holds Try.pinned (OpenSpec.ofChange parentJoinWrong)

/-- 'cordwoodlaw08.ParentCuts': WHATEVER THE INPUT: true; the input reads as it did. -/
def parentCutsSpec : ChangeSpec := { name := "parentCuts", fn := fun _ => fun
  | [d1, d2] => { results := [.lit (.bool true)], args := [d1, d2] }
  | _ => none }
def parentCutsRow : OpenClaim := { program := "ytilhcglckgdbcaa", sum := "309a1c9fe890446a5c51e9a03371e534372311abc93989ffe9f3fe7d39f04316", func := "cordwood/cordwoodlaw08.ParentCuts", spec := "parentCuts", unfollowed := true, recurses := true, apart := false }
def ParentCutsSaid : Prop := parentCutsRow.holds Try.pinned (OpenSpec.ofChange parentCutsSpec)

/-- ITS FALSE NEIGHBOUR: 'it returns false'. Refute it at one input. -/
def parentCutsWrong : ChangeSpec := { name := "parentCuts", fn := fun _ => fun
  | [d1, d2] => { results := [.lit (.bool false)], args := [d1, d2] }
  | _ => none }
def ParentCutsWrongFalsely : Prop := parentCutsRow.holds Try.pinned (OpenSpec.ofChange parentCutsWrong)

/-- 'cordwoodlaw08.ParentUnmerged': WHATEVER THE INPUT: true; the input reads as it did. -/
def parentUnmergedSpec : ChangeSpec := { name := "parentUnmerged", fn := fun _ => fun
  | [d1, d2] => { results := [.lit (.bool true)], args := [d1, d2] }
  | _ => none }
def parentUnmergedRow : OpenClaim := { program := "ytilhcglckgdbcaa", sum := "309a1c9fe890446a5c51e9a03371e534372311abc93989ffe9f3fe7d39f04316", func := "cordwood/cordwoodlaw08.ParentUnmerged", spec := "parentUnmerged", unfollowed := true, recurses := true, apart := false }
def ParentUnmergedSaid : Prop := parentUnmergedRow.holds Try.pinned (OpenSpec.ofChange parentUnmergedSpec)

/-- ITS FALSE NEIGHBOUR: 'it returns false'. Refute it at one input. -/
def parentUnmergedWrong : ChangeSpec := { name := "parentUnmerged", fn := fun _ => fun
  | [d1, d2] => { results := [.lit (.bool false)], args := [d1, d2] }
  | _ => none }
def ParentUnmergedWrongFalsely : Prop := parentUnmergedRow.holds Try.pinned (OpenSpec.ofChange parentUnmergedWrong)

/-- 'cordwoodlaw09.NodeBack': WHATEVER THE INPUT: true; the input reads as it did. -/
def nodeBackSpec : ChangeSpec := { name := "nodeBack", fn := fun _ => fun
  | [d1, d2, d3] => { results := [.lit (.bool true)], args := [d1, d2, d3] }
  | _ => none }
def nodeBackRow : OpenClaim := { program := "ytilhcglckgdbcaa", sum := "309a1c9fe890446a5c51e9a03371e534372311abc93989ffe9f3fe7d39f04316", func := "cordwood/cordwoodlaw09.NodeBack", spec := "nodeBack", unfollowed := true, recurses := true, apart := false }
def NodeBackSaid : Prop := nodeBackRow.holds Try.pinned (OpenSpec.ofChange nodeBackSpec)

/-- ITS FALSE NEIGHBOUR: 'it returns false'. Refute it at one input. -/
def nodeBackWrong : ChangeSpec := { name := "nodeBack", fn := fun _ => fun
  | [d1, d2, d3] => { results := [.lit (.bool false)], args := [d1, d2, d3] }
  | _ => none }
def NodeBackWrongFalsely : Prop := nodeBackRow.holds Try.pinned (OpenSpec.ofChange nodeBackWrong)

/-- 'cordwoodlaw09.NodeOnly': WHATEVER THE INPUT: true; the input reads as it did. -/
def nodeOnlySpec : ChangeSpec := { name := "nodeOnly", fn := fun _ => fun
  | [d] => { results := [.lit (.bool true)], args := [d] }
  | _ => none }
def nodeOnlyRow : OpenClaim := { program := "ytilhcglckgdbcaa", sum := "309a1c9fe890446a5c51e9a03371e534372311abc93989ffe9f3fe7d39f04316", func := "cordwood/cordwoodlaw09.NodeOnly", spec := "nodeOnly", unfollowed := true, recurses := true, apart := false }
def NodeOnlySaid : Prop := nodeOnlyRow.holds Try.pinned (OpenSpec.ofChange nodeOnlySpec)

/-- ITS FALSE NEIGHBOUR: 'it returns false'. Refute it at one input. -/
def nodeOnlyWrong : ChangeSpec := { name := "nodeOnly", fn := fun _ => fun
  | [d] => { results := [.lit (.bool false)], args := [d] }
  | _ => none }
def NodeOnlyWrongFalsely : Prop := nodeOnlyRow.holds Try.pinned (OpenSpec.ofChange nodeOnlyWrong)

/-- 'cordwoodlaw09.NodeApart': WHATEVER THE INPUT: true; the input reads as it did. -/
def nodeApartSpec : ChangeSpec := { name := "nodeApart", fn := fun _ => fun
  | [d1, d2, d3, d4, d5, d6] => { results := [.lit (.bool true)], args := [d1, d2, d3, d4, d5, d6] }
  | _ => none }
def nodeApartRow : OpenClaim := { program := "ytilhcglckgdbcaa", sum := "309a1c9fe890446a5c51e9a03371e534372311abc93989ffe9f3fe7d39f04316", func := "cordwood/cordwoodlaw09.NodeApart", spec := "nodeApart", unfollowed := true, recurses := true, apart := false }
def NodeApartSaid : Prop := nodeApartRow.holds Try.pinned (OpenSpec.ofChange nodeApartSpec)

/-- ITS FALSE NEIGHBOUR: 'it returns false'. Refute it at one input. -/
def nodeApartWrong : ChangeSpec := { name := "nodeApart", fn := fun _ => fun
  | [d1, d2, d3, d4, d5, d6] => { results := [.lit (.bool false)], args := [d1, d2, d3, d4, d5, d6] }
  | _ => none }
def NodeApartWrongFalsely : Prop := nodeApartRow.holds Try.pinned (OpenSpec.ofChange nodeApartWrong)

/-- 'cordwoodlaw09.NodeTwo': WHATEVER THE INPUT: true; the input reads as it did. -/
def nodeTwoSpec : ChangeSpec := { name := "nodeTwo", fn := fun _ => fun
  | [d] => { results := [.lit (.bool true)], args := [d] }
  | _ => none }
def nodeTwoRow : OpenClaim := { program := "ytilhcglckgdbcaa", sum := "309a1c9fe890446a5c51e9a03371e534372311abc93989ffe9f3fe7d39f04316", func := "cordwood/cordwoodlaw09.NodeTwo", spec := "nodeTwo", unfollowed := true, recurses := true, apart := false }
def NodeTwoSaid : Prop := nodeTwoRow.holds Try.pinned (OpenSpec.ofChange nodeTwoSpec)

/-- ITS FALSE NEIGHBOUR: 'it returns false'. Refute it at one input. -/
def nodeTwoWrong : ChangeSpec := { name := "nodeTwo", fn := fun _ => fun
  | [d] => { results := [.lit (.bool false)], args := [d] }
  | _ => none }
def NodeTwoWrongFalsely : Prop := nodeTwoRow.holds Try.pinned (OpenSpec.ofChange nodeTwoWrong)

/-- 'cordwoodlaw09.NodeBlank': WHATEVER THE INPUT: true; the input reads as it did. -/
def nodeBlankSpec : ChangeSpec := { name := "nodeBlank", fn := fun _ => fun
  | [d1, d2, d3, d4] => { results := [.lit (.bool true)], args := [d1, d2, d3, d4] }
  | _ => none }
def nodeBlankRow : OpenClaim := { program := "ytilhcglckgdbcaa", sum := "309a1c9fe890446a5c51e9a03371e534372311abc93989ffe9f3fe7d39f04316", func := "cordwood/cordwoodlaw09.NodeBlank", spec := "nodeBlank", unfollowed := true, recurses := true, apart := false }
def NodeBlankSaid : Prop := nodeBlankRow.holds Try.pinned (OpenSpec.ofChange nodeBlankSpec)

/-- ITS FALSE NEIGHBOUR: 'it returns false'. Refute it at one input. -/
def nodeBlankWrong : ChangeSpec := { name := "nodeBlank", fn := fun _ => fun
  | [d1, d2, d3, d4] => { results := [.lit (.bool false)], args := [d1, d2, d3, d4] }
  | _ => none }
def NodeBlankWrongFalsely : Prop := nodeBlankRow.holds Try.pinned (OpenSpec.ofChange nodeBlankWrong)

/- THE SECOND FORM. 'bulk': how many values and letters a reading holds, each counted each time it is reached (what is shared counts as often as it is met; a slice's spare places count too). A statement '..UptoSaid' is the law's where the arguments, and the package variables that the reading takes, are together of bulk at most 1048576: NARROWER than '..Said'. Prove '..Said' where nothing that the law and all that it calls make is longer than what came in: it says more and counts as full. Else prove '..UptoSaid'. A law counts once. -/
mutual
def uptoBulk {H : Type} : DataW H → Nat
  | .lit (.string bytes) => bytes.length + 1
  | .lit _ => 1
  | .nil => 1
  | .ptr d => uptoBulk d + 1
  | .slice elems spare => uptoBulkAll elems + uptoBulkAll spare + 1
  | .agg parts => uptoBulkAll parts + 1
  | .iface _ d => uptoBulk d + 1
  | .map entries => uptoBulkEntries entries + 1
  | .held _ => 1
def uptoBulkAll {H : Type} : List (DataW H) → Nat
  | [] => 0
  | d :: r => uptoBulk d + uptoBulkAll r
def uptoBulkEntries {H : Type} : List (Lit × DataW H) → Nat
  | [] => 0
  | x :: r => uptoBulkEntry x + uptoBulkEntries r
def uptoBulkEntry {H : Type} : Lit × DataW H → Nat
  | (.string bytes, d) => bytes.length + uptoBulk d + 1
  | (_, d) => uptoBulk d + 1
 end
def uptoSmall : (H : Type) → List (DataW H) → Bool := fun _ ds => decide (uptoBulkAll ds ≤ 1048576)
def OpenSpec.upto (s : _root_.Go.ChangeSpec) : _root_.Go.OpenSpec := { _root_.Go.OpenSpec.ofChange s with cond := some uptoSmall }

/-- 'cordwoodlaw08.ParentIs', WHERE WHAT IT READS IS OF BULK AT MOST 1048576: true; the input reads as it did. -/
def parentIsUptoRow : OpenClaim := { program := "ytilhcglckgdbcaa", sum := "309a1c9fe890446a5c51e9a03371e534372311abc93989ffe9f3fe7d39f04316", func := "cordwood/cordwoodlaw08.ParentIs", spec := "parentIs", unfollowed := true, recurses := true, apart := false, narrowed := true }
def ParentIsUptoSaid : Prop := parentIsUptoRow.holds Try.pinned (OpenSpec.upto parentIsSpec)

/-- 'cordwoodlaw08.ParentBack', WHERE WHAT IT READS IS OF BULK AT MOST 1048576: true; the input reads as it did. -/
def parentBackUptoRow : OpenClaim := { program := "ytilhcglckgdbcaa", sum := "309a1c9fe890446a5c51e9a03371e534372311abc93989ffe9f3fe7d39f04316", func := "cordwood/cordwoodlaw08.ParentBack", spec := "parentBack", unfollowed := true, recurses := true, apart := false, narrowed := true }
def ParentBackUptoSaid : Prop := parentBackUptoRow.holds Try.pinned (OpenSpec.upto parentBackSpec)

/-- 'cordwoodlaw08.ParentOnly', WHERE WHAT IT READS IS OF BULK AT MOST 1048576: true; the input reads as it did. -/
def parentOnlyUptoRow : OpenClaim := { program := "ytilhcglckgdbcaa", sum := "309a1c9fe890446a5c51e9a03371e534372311abc93989ffe9f3fe7d39f04316", func := "cordwood/cordwoodlaw08.ParentOnly", spec := "parentOnly", unfollowed := true, recurses := true, apart := false, narrowed := true }
def ParentOnlyUptoSaid : Prop := parentOnlyUptoRow.holds Try.pinned (OpenSpec.upto parentOnlySpec)

/-- 'cordwoodlaw08.ParentJoin', WHERE WHAT IT READS IS OF BULK AT MOST 1048576: true; the input reads as it did. -/
def parentJoinUptoRow : OpenClaim := { program := "ytilhcglckgdbcaa", sum := "309a1c9fe890446a5c51e9a03371e534372311abc93989ffe9f3fe7d39f04316", func := "cordwood/cordwoodlaw08.ParentJoin", spec := "parentJoin", unfollowed := true, recurses := true, apart := false, narrowed := true }
def ParentJoinUptoSaid : Prop := parentJoinUptoRow.holds Try.pinned (OpenSpec.upto parentJoinSpec)

/-- 'cordwoodlaw08.ParentCuts', WHERE WHAT IT READS IS OF BULK AT MOST 1048576: true; the input reads as it did. -/
def parentCutsUptoRow : OpenClaim := { program := "ytilhcglckgdbcaa", sum := "309a1c9fe890446a5c51e9a03371e534372311abc93989ffe9f3fe7d39f04316", func := "cordwood/cordwoodlaw08.ParentCuts", spec := "parentCuts", unfollowed := true, recurses := true, apart := false, narrowed := true }
def ParentCutsUptoSaid : Prop := parentCutsUptoRow.holds Try.pinned (OpenSpec.upto parentCutsSpec)

/-- 'cordwoodlaw08.ParentUnmerged', WHERE WHAT IT READS IS OF BULK AT MOST 1048576: true; the input reads as it did. -/
def parentUnmergedUptoRow : OpenClaim := { program := "ytilhcglckgdbcaa", sum := "309a1c9fe890446a5c51e9a03371e534372311abc93989ffe9f3fe7d39f04316", func := "cordwood/cordwoodlaw08.ParentUnmerged", spec := "parentUnmerged", unfollowed := true, recurses := true, apart := false, narrowed := true }
def ParentUnmergedUptoSaid : Prop := parentUnmergedUptoRow.holds Try.pinned (OpenSpec.upto parentUnmergedSpec)

/-- 'cordwoodlaw09.NodeBack', WHERE WHAT IT READS IS OF BULK AT MOST 1048576: true; the input reads as it did. -/
def nodeBackUptoRow : OpenClaim := { program := "ytilhcglckgdbcaa", sum := "309a1c9fe890446a5c51e9a03371e534372311abc93989ffe9f3fe7d39f04316", func := "cordwood/cordwoodlaw09.NodeBack", spec := "nodeBack", unfollowed := true, recurses := true, apart := false, narrowed := true }
def NodeBackUptoSaid : Prop := nodeBackUptoRow.holds Try.pinned (OpenSpec.upto nodeBackSpec)

/-- 'cordwoodlaw09.NodeOnly', WHERE WHAT IT READS IS OF BULK AT MOST 1048576: true; the input reads as it did. -/
def nodeOnlyUptoRow : OpenClaim := { program := "ytilhcglckgdbcaa", sum := "309a1c9fe890446a5c51e9a03371e534372311abc93989ffe9f3fe7d39f04316", func := "cordwood/cordwoodlaw09.NodeOnly", spec := "nodeOnly", unfollowed := true, recurses := true, apart := false, narrowed := true }
def NodeOnlyUptoSaid : Prop := nodeOnlyUptoRow.holds Try.pinned (OpenSpec.upto nodeOnlySpec)

/-- 'cordwoodlaw09.NodeApart', WHERE WHAT IT READS IS OF BULK AT MOST 1048576: true; the input reads as it did. -/
def nodeApartUptoRow : OpenClaim := { program := "ytilhcglckgdbcaa", sum := "309a1c9fe890446a5c51e9a03371e534372311abc93989ffe9f3fe7d39f04316", func := "cordwood/cordwoodlaw09.NodeApart", spec := "nodeApart", unfollowed := true, recurses := true, apart := false, narrowed := true }
def NodeApartUptoSaid : Prop := nodeApartUptoRow.holds Try.pinned (OpenSpec.upto nodeApartSpec)

/-- 'cordwoodlaw09.NodeTwo', WHERE WHAT IT READS IS OF BULK AT MOST 1048576: true; the input reads as it did. -/
def nodeTwoUptoRow : OpenClaim := { program := "ytilhcglckgdbcaa", sum := "309a1c9fe890446a5c51e9a03371e534372311abc93989ffe9f3fe7d39f04316", func := "cordwood/cordwoodlaw09.NodeTwo", spec := "nodeTwo", unfollowed := true, recurses := true, apart := false, narrowed := true }
def NodeTwoUptoSaid : Prop := nodeTwoUptoRow.holds Try.pinned (OpenSpec.upto nodeTwoSpec)

/-- 'cordwoodlaw09.NodeBlank', WHERE WHAT IT READS IS OF BULK AT MOST 1048576: true; the input reads as it did. -/
def nodeBlankUptoRow : OpenClaim := { program := "ytilhcglckgdbcaa", sum := "309a1c9fe890446a5c51e9a03371e534372311abc93989ffe9f3fe7d39f04316", func := "cordwood/cordwoodlaw09.NodeBlank", spec := "nodeBlank", unfollowed := true, recurses := true, apart := false, narrowed := true }
def NodeBlankUptoSaid : Prop := nodeBlankUptoRow.holds Try.pinned (OpenSpec.upto nodeBlankSpec)

end Rows
end Go.Proofs.Ytilhcglckgdbcaa
