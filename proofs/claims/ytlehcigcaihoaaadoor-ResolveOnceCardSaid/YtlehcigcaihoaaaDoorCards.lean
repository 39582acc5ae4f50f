/-
  DERIVED. GIVEN WITH THE SEED: THE CARDS: each row of YtlehcigcaihoaaaDoorRows.lean that lists a variable, with what it lists TIED to the program's text (the seventh form; the later family's looks); each row that meets fmt, with fmt's text TOLD by the authors' own Lean function (tested against real Go, not proved from fmt's source: count such statements apart). THE CARD IS WHAT COUNTS. Prove the row's statement (the work); the ties are given (YtlehcigcaihoaaaDoorTie.lean); close each card by the builder's one call (the guide's Derived/Test/ToyasCard.lean, 'card_holds'). Laid BY PROGRAM, IN A SANDBOX (cutbox-door.mjs). By AI agents, Wed Nov 11 2026. No macro, syntax, notation, axiom, sorry.
-/
import Derived.Test.YtlehcigcaihoaaaDoorRows
import GoSem.ClaimSeven
namespace Go.Proofs.YtlehcigcaihoaaaDoor
namespace Rows

/-- THE TIED CARD OF 'cordwoodlaw10.ShapeKeeps'. -/
def shapeKeepsCard : Claim7 := { stood := { row := shapeKeepsRow, standIns := [], harness := (true, "c8df7007a4dbf8c989e21fdb6def0babe4f9f73e3f2ae201ebbc95f33d0435b5"), looks := false }, kinds := [], alts := [], laidByText := true, laidKinds := [.data, .data], laidTests := true, laidLooks := .later }
def ShapeKeepsCardSaid : Prop := Claim7.holds Tryd.pinned (.plain (OpenSpec.ofChange shapeKeepsSpec)) shapeKeepsCard

/-- THE TIED CARD OF 'cordwoodlaw10.ShapeClears'. -/
def shapeClearsCard : Claim7 := { stood := { row := shapeClearsRow, standIns := [], harness := (true, "c8df7007a4dbf8c989e21fdb6def0babe4f9f73e3f2ae201ebbc95f33d0435b5"), looks := false }, kinds := [], alts := [], laidByText := true, laidKinds := [.data, .data], laidTests := true, laidLooks := .later }
def ShapeClearsCardSaid : Prop := Claim7.holds Tryd.pinned (.plain (OpenSpec.ofChange shapeClearsSpec)) shapeClearsCard

/-- THE TIED CARD OF 'cordwoodlaw11.ResolveBoth'. -/
def resolveBothCard : Claim7 := { stood := { row := resolveBothRow, standIns := [], harness := (true, "c8df7007a4dbf8c989e21fdb6def0babe4f9f73e3f2ae201ebbc95f33d0435b5"), looks := false }, kinds := [], alts := [], laidByText := true, laidKinds := [.data, .data], laidTests := true, laidLooks := .later }
def ResolveBothCardSaid : Prop := Claim7.holds Tryd.pinned (.plain (OpenSpec.ofChange resolveBothSpec)) resolveBothCard

/-- THE TIED CARD OF 'cordwoodlaw11.ResolveCovers'. -/
def resolveCoversCard : Claim7 := { stood := { row := resolveCoversRow, standIns := [], harness := (true, "c8df7007a4dbf8c989e21fdb6def0babe4f9f73e3f2ae201ebbc95f33d0435b5"), looks := false }, kinds := [], alts := [], laidByText := true, laidKinds := [.data, .data], laidTests := true, laidLooks := .later }
def ResolveCoversCardSaid : Prop := Claim7.holds Tryd.pinned (.plain (OpenSpec.ofChange resolveCoversSpec)) resolveCoversCard

/-- THE TIED CARD OF 'cordwoodlaw11.ResolveOnce'. -/
def resolveOnceCard : Claim7 := { stood := { row := resolveOnceRow, standIns := [], harness := (true, "c8df7007a4dbf8c989e21fdb6def0babe4f9f73e3f2ae201ebbc95f33d0435b5"), looks := false }, kinds := [], alts := [], laidByText := true, laidKinds := [.data, .data], laidTests := true, laidLooks := .later }
def ResolveOnceCardSaid : Prop := Claim7.holds Tryd.pinned (.plain (OpenSpec.ofChange resolveOnceSpec)) resolveOnceCard

/-- THE TIED CARD OF 'cordwoodlaw11.ResolveFilter'. -/
def resolveFilterCard : Claim7 := { stood := { row := resolveFilterRow, standIns := [], harness := (true, "c8df7007a4dbf8c989e21fdb6def0babe4f9f73e3f2ae201ebbc95f33d0435b5"), looks := false }, kinds := [], alts := [], laidByText := true, laidKinds := [.data, .data], laidTests := true, laidLooks := .later }
def ResolveFilterCardSaid : Prop := Claim7.holds Tryd.pinned (.plain (OpenSpec.ofChange resolveFilterSpec)) resolveFilterCard

/-- THE TIED CARD OF 'cordwoodlaw11.ResolveGrows'. -/
def resolveGrowsCard : Claim7 := { stood := { row := resolveGrowsRow, standIns := [], harness := (true, "c8df7007a4dbf8c989e21fdb6def0babe4f9f73e3f2ae201ebbc95f33d0435b5"), looks := false }, kinds := [], alts := [], laidByText := true, laidKinds := [.data, .data], laidTests := true, laidLooks := .later }
def ResolveGrowsCardSaid : Prop := Claim7.holds Tryd.pinned (.plain (OpenSpec.ofChange resolveGrowsSpec)) resolveGrowsCard

/-- THE SECOND FORM's CARD OF 'cordwoodlaw10.ShapeKeeps'. -/
def shapeKeepsUptoCard : Claim7 := { stood := { row := shapeKeepsUptoRow, standIns := [], harness := (true, "c8df7007a4dbf8c989e21fdb6def0babe4f9f73e3f2ae201ebbc95f33d0435b5"), looks := false }, kinds := [], alts := [], laidByText := true, laidKinds := [.data, .data], laidTests := true, laidLooks := .later }
def ShapeKeepsUptoCardSaid : Prop := Claim7.holds Tryd.pinned (.plain (OpenSpec.upto shapeKeepsSpec)) shapeKeepsUptoCard

/-- THE SECOND FORM's CARD OF 'cordwoodlaw10.ShapeClears'. -/
def shapeClearsUptoCard : Claim7 := { stood := { row := shapeClearsUptoRow, standIns := [], harness := (true, "c8df7007a4dbf8c989e21fdb6def0babe4f9f73e3f2ae201ebbc95f33d0435b5"), looks := false }, kinds := [], alts := [], laidByText := true, laidKinds := [.data, .data], laidTests := true, laidLooks := .later }
def ShapeClearsUptoCardSaid : Prop := Claim7.holds Tryd.pinned (.plain (OpenSpec.upto shapeClearsSpec)) shapeClearsUptoCard

/-- THE SECOND FORM's CARD OF 'cordwoodlaw11.ResolveBoth'. -/
def resolveBothUptoCard : Claim7 := { stood := { row := resolveBothUptoRow, standIns := [], harness := (true, "c8df7007a4dbf8c989e21fdb6def0babe4f9f73e3f2ae201ebbc95f33d0435b5"), looks := false }, kinds := [], alts := [], laidByText := true, laidKinds := [.data, .data], laidTests := true, laidLooks := .later }
def ResolveBothUptoCardSaid : Prop := Claim7.holds Tryd.pinned (.plain (OpenSpec.upto resolveBothSpec)) resolveBothUptoCard

/-- THE SECOND FORM's CARD OF 'cordwoodlaw11.ResolveCovers'. -/
def resolveCoversUptoCard : Claim7 := { stood := { row := resolveCoversUptoRow, standIns := [], harness := (true, "c8df7007a4dbf8c989e21fdb6def0babe4f9f73e3f2ae201ebbc95f33d0435b5"), looks := false }, kinds := [], alts := [], laidByText := true, laidKinds := [.data, .data], laidTests := true, laidLooks := .later }
def ResolveCoversUptoCardSaid : Prop := Claim7.holds Tryd.pinned (.plain (OpenSpec.upto resolveCoversSpec)) resolveCoversUptoCard

/-- THE SECOND FORM's CARD OF 'cordwoodlaw11.ResolveOnce'. -/
def resolveOnceUptoCard : Claim7 := { stood := { row := resolveOnceUptoRow, standIns := [], harness := (true, "c8df7007a4dbf8c989e21fdb6def0babe4f9f73e3f2ae201ebbc95f33d0435b5"), looks := false }, kinds := [], alts := [], laidByText := true, laidKinds := [.data, .data], laidTests := true, laidLooks := .later }
def ResolveOnceUptoCardSaid : Prop := Claim7.holds Tryd.pinned (.plain (OpenSpec.upto resolveOnceSpec)) resolveOnceUptoCard

/-- THE SECOND FORM's CARD OF 'cordwoodlaw11.ResolveFilter'. -/
def resolveFilterUptoCard : Claim7 := { stood := { row := resolveFilterUptoRow, standIns := [], harness := (true, "c8df7007a4dbf8c989e21fdb6def0babe4f9f73e3f2ae201ebbc95f33d0435b5"), looks := false }, kinds := [], alts := [], laidByText := true, laidKinds := [.data, .data], laidTests := true, laidLooks := .later }
def ResolveFilterUptoCardSaid : Prop := Claim7.holds Tryd.pinned (.plain (OpenSpec.upto resolveFilterSpec)) resolveFilterUptoCard

/-- THE SECOND FORM's CARD OF 'cordwoodlaw11.ResolveGrows'. -/
def resolveGrowsUptoCard : Claim7 := { stood := { row := resolveGrowsUptoRow, standIns := [], harness := (true, "c8df7007a4dbf8c989e21fdb6def0babe4f9f73e3f2ae201ebbc95f33d0435b5"), looks := false }, kinds := [], alts := [], laidByText := true, laidKinds := [.data, .data], laidTests := true, laidLooks := .later }
def ResolveGrowsUptoCardSaid : Prop := Claim7.holds Tryd.pinned (.plain (OpenSpec.upto resolveGrowsSpec)) resolveGrowsUptoCard
end Rows
end Go.Proofs.YtlehcigcaihoaaaDoor
