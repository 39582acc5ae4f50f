/-
  DERIVED. GIVEN WITH THE SEED: THE CARDS: each row of YtlehcigcaihoaaaGreatDoorRows.lean that lists a variable, with what it lists TIED to the program's text (the seventh form; the later family's looks); each row that meets fmt, with fmt's text TOLD by the authors' own Lean function (tested against real Go, not proved from fmt's source: count such statements apart). THE CARD IS WHAT COUNTS. Prove the row's statement (the work); the ties are given (YtlehcigcaihoaaaGreatDoorTie.lean); close each card by the builder's one call (the guide's Derived/Test/ToyasCard.lean, 'card_holds'). Laid BY PROGRAM, IN A SANDBOX (cutbox-door.mjs). By AI agents, Wed Nov 11 2026. No macro, syntax, notation, axiom, sorry.
-/
import Derived.Test.YtlehcigcaihoaaaGreatDoorRows
import GoSem.ClaimSeven
namespace Go.Proofs.YtlehcigcaihoaaaGreatDoor
namespace Rows

/-- THE TIED CARD OF 'cordwoodlaw10.ShapeIs'. -/
def shapeIsCard : Claim7 := { stood := { row := shapeIsRow, standIns := [], harness := (true, "216e0294d6370714e45c7c71a043b662f3f8a2a3ebdd841ac3c71052d565e3f7"), looks := false }, kinds := [], alts := [], laidByText := true, laidKinds := [.data, .data], laidTests := true, laidLooks := .later }
def ShapeIsCardSaid : Prop := Claim7.holds Tryz.pinned (.plain (OpenSpec.ofChange shapeIsSpec)) shapeIsCard

/-- THE TIED CARD OF 'cordwoodlaw11.ResolveIs'. -/
def resolveIsCard : Claim7 := { stood := { row := resolveIsRow, standIns := [], harness := (true, "216e0294d6370714e45c7c71a043b662f3f8a2a3ebdd841ac3c71052d565e3f7"), looks := false }, kinds := [], alts := [], laidByText := true, laidKinds := [.data, .data], laidTests := true, laidLooks := .later }
def ResolveIsCardSaid : Prop := Claim7.holds Tryz.pinned (.plain (OpenSpec.ofChange resolveIsSpec)) resolveIsCard

/-- THE SECOND FORM's CARD OF 'cordwoodlaw10.ShapeIs'. -/
def shapeIsUptoCard : Claim7 := { stood := { row := shapeIsUptoRow, standIns := [], harness := (true, "216e0294d6370714e45c7c71a043b662f3f8a2a3ebdd841ac3c71052d565e3f7"), looks := false }, kinds := [], alts := [], laidByText := true, laidKinds := [.data, .data], laidTests := true, laidLooks := .later }
def ShapeIsUptoCardSaid : Prop := Claim7.holds Tryz.pinned (.plain (OpenSpec.upto shapeIsSpec)) shapeIsUptoCard

/-- THE SECOND FORM's CARD OF 'cordwoodlaw11.ResolveIs'. -/
def resolveIsUptoCard : Claim7 := { stood := { row := resolveIsUptoRow, standIns := [], harness := (true, "216e0294d6370714e45c7c71a043b662f3f8a2a3ebdd841ac3c71052d565e3f7"), looks := false }, kinds := [], alts := [], laidByText := true, laidKinds := [.data, .data], laidTests := true, laidLooks := .later }
def ResolveIsUptoCardSaid : Prop := Claim7.holds Tryz.pinned (.plain (OpenSpec.upto resolveIsSpec)) resolveIsUptoCard
end Rows
end Go.Proofs.YtlehcigcaihoaaaGreatDoor
