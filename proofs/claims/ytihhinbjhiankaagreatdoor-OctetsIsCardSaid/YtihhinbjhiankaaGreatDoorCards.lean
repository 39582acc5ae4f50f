/-
  DERIVED. GIVEN WITH THE SEED: THE CARDS: each row of YtihhinbjhiankaaGreatDoorRows.lean that lists a variable, with what it lists TIED to the program's text (the seventh form; the later family's looks); each row that meets fmt, with fmt's text TOLD by the authors' own Lean function (tested against real Go, not proved from fmt's source: count such statements apart). THE CARD IS WHAT COUNTS. Prove the row's statement (the work); the ties are given (YtihhinbjhiankaaGreatDoorTie.lean); close each card by the builder's one call (the guide's Derived/Test/ToyasCard.lean, 'card_holds'). Laid BY PROGRAM, IN A SANDBOX (cutbox-door.mjs). By AI agents, Wed Nov 11 2026. No macro, syntax, notation, axiom, sorry.
-/
import Derived.Test.YtihhinbjhiankaaGreatDoorRows
import GoSem.ClaimSeven
namespace Go.Proofs.YtihhinbjhiankaaGreatDoor
namespace Rows

/-- THE TIED CARD OF 'cordwoodlaw20.DiffSmall'. -/
def diffSmallCard : Claim7 := { stood := { row := diffSmallRow, standIns := [], harness := (true, "894e7a30f364d97339c661a4aeb89071667b83b64035afa7da817c4a061c5926"), looks := false }, kinds := [], alts := [], laidByText := true, laidKinds := [.data, .data], laidTests := true, laidLooks := .later }
def DiffSmallCardSaid : Prop := Claim7.holds Tryz.pinned (.plain (OpenSpec.ofChange diffSmallSpec)) diffSmallCard

/-- THE TIED CARD OF 'cordwoodlaw15.OctetsIs'. -/
def octetsIsCard : Claim7 := { stood := { row := octetsIsRow, standIns := [], harness := (true, "894e7a30f364d97339c661a4aeb89071667b83b64035afa7da817c4a061c5926"), looks := false }, kinds := [], alts := [], laidByText := true, laidKinds := [.data, .data], laidTests := true, laidLooks := .later }
def OctetsIsCardSaid : Prop := Claim7.holds Tryz.pinned (.plain (OpenSpec.ofChange octetsIsSpec)) octetsIsCard

/-- THE TIED CARD OF 'cordwoodlaw15.OctetsOnly'. -/
def octetsOnlyCard : Claim7 := { stood := { row := octetsOnlyRow, standIns := [], harness := (true, "894e7a30f364d97339c661a4aeb89071667b83b64035afa7da817c4a061c5926"), looks := false }, kinds := [], alts := [], laidByText := true, laidKinds := [.data, .data], laidTests := true, laidLooks := .later }
def OctetsOnlyCardSaid : Prop := Claim7.holds Tryz.pinned (.plain (OpenSpec.ofChange octetsOnlySpec)) octetsOnlyCard

/-- THE TIED CARD OF 'cordwoodlaw15.OctetsTrail'. -/
def octetsTrailCard : Claim7 := { stood := { row := octetsTrailRow, standIns := [], harness := (true, "894e7a30f364d97339c661a4aeb89071667b83b64035afa7da817c4a061c5926"), looks := false }, kinds := [], alts := [], laidByText := true, laidKinds := [.data, .data], laidTests := true, laidLooks := .later }
def OctetsTrailCardSaid : Prop := Claim7.holds Tryz.pinned (.plain (OpenSpec.ofChange octetsTrailSpec)) octetsTrailCard

/-- THE TIED CARD OF 'cordwoodlaw15.OctetsNamed'. -/
def octetsNamedCard : Claim7 := { stood := { row := octetsNamedRow, standIns := [], harness := (true, "894e7a30f364d97339c661a4aeb89071667b83b64035afa7da817c4a061c5926"), looks := false }, kinds := [], alts := [], laidByText := true, laidKinds := [.data, .data], laidTests := true, laidLooks := .later }
def OctetsNamedCardSaid : Prop := Claim7.holds Tryz.pinned (.plain (OpenSpec.ofChange octetsNamedSpec)) octetsNamedCard

/-- THE TIED CARD OF 'cordwoodlaw14.EditBack'. -/
def editBackCard : Claim7 := { stood := { row := editBackRow, standIns := [], harness := (true, "894e7a30f364d97339c661a4aeb89071667b83b64035afa7da817c4a061c5926"), looks := false }, kinds := [], alts := [], laidByText := true, laidKinds := [.data, .data, .data], laidTests := true, laidLooks := .later }
def EditBackCardSaid : Prop := Claim7.holds Tryz.pinned (.plain (OpenSpec.ofChange editBackSpec)) editBackCard

/-- THE TIED CARD OF 'cordwoodlaw14.EditFull'. -/
def editFullCard : Claim7 := { stood := { row := editFullRow, standIns := [], harness := (true, "894e7a30f364d97339c661a4aeb89071667b83b64035afa7da817c4a061c5926"), looks := false }, kinds := [], alts := [], laidByText := true, laidKinds := [.data, .data, .data], laidTests := true, laidLooks := .later }
def EditFullCardSaid : Prop := Claim7.holds Tryz.pinned (.plain (OpenSpec.ofChange editFullSpec)) editFullCard

/-- THE TIED CARD OF 'cordwoodlaw14.EditOrder'. -/
def editOrderCard : Claim7 := { stood := { row := editOrderRow, standIns := [], harness := (true, "894e7a30f364d97339c661a4aeb89071667b83b64035afa7da817c4a061c5926"), looks := false }, kinds := [], alts := [], laidByText := true, laidKinds := [.data, .data, .data], laidTests := true, laidLooks := .later }
def EditOrderCardSaid : Prop := Claim7.holds Tryz.pinned (.plain (OpenSpec.ofChange editOrderSpec)) editOrderCard

/-- THE TIED CARD OF 'cordwoodlaw14.EditGone'. -/
def editGoneCard : Claim7 := { stood := { row := editGoneRow, standIns := [], harness := (true, "894e7a30f364d97339c661a4aeb89071667b83b64035afa7da817c4a061c5926"), looks := false }, kinds := [], alts := [], laidByText := true, laidKinds := [.data, .data, .data], laidTests := true, laidLooks := .later }
def EditGoneCardSaid : Prop := Claim7.holds Tryz.pinned (.plain (OpenSpec.ofChange editGoneSpec)) editGoneCard

/-- THE SECOND FORM's CARD OF 'cordwoodlaw20.DiffSmall'. -/
def diffSmallUptoCard : Claim7 := { stood := { row := diffSmallUptoRow, standIns := [], harness := (true, "894e7a30f364d97339c661a4aeb89071667b83b64035afa7da817c4a061c5926"), looks := false }, kinds := [], alts := [], laidByText := true, laidKinds := [.data, .data], laidTests := true, laidLooks := .later }
def DiffSmallUptoCardSaid : Prop := Claim7.holds Tryz.pinned (.plain (OpenSpec.upto diffSmallSpec)) diffSmallUptoCard

/-- THE SECOND FORM's CARD OF 'cordwoodlaw15.OctetsIs'. -/
def octetsIsUptoCard : Claim7 := { stood := { row := octetsIsUptoRow, standIns := [], harness := (true, "894e7a30f364d97339c661a4aeb89071667b83b64035afa7da817c4a061c5926"), looks := false }, kinds := [], alts := [], laidByText := true, laidKinds := [.data, .data], laidTests := true, laidLooks := .later }
def OctetsIsUptoCardSaid : Prop := Claim7.holds Tryz.pinned (.plain (OpenSpec.upto octetsIsSpec)) octetsIsUptoCard

/-- THE SECOND FORM's CARD OF 'cordwoodlaw15.OctetsOnly'. -/
def octetsOnlyUptoCard : Claim7 := { stood := { row := octetsOnlyUptoRow, standIns := [], harness := (true, "894e7a30f364d97339c661a4aeb89071667b83b64035afa7da817c4a061c5926"), looks := false }, kinds := [], alts := [], laidByText := true, laidKinds := [.data, .data], laidTests := true, laidLooks := .later }
def OctetsOnlyUptoCardSaid : Prop := Claim7.holds Tryz.pinned (.plain (OpenSpec.upto octetsOnlySpec)) octetsOnlyUptoCard

/-- THE SECOND FORM's CARD OF 'cordwoodlaw15.OctetsTrail'. -/
def octetsTrailUptoCard : Claim7 := { stood := { row := octetsTrailUptoRow, standIns := [], harness := (true, "894e7a30f364d97339c661a4aeb89071667b83b64035afa7da817c4a061c5926"), looks := false }, kinds := [], alts := [], laidByText := true, laidKinds := [.data, .data], laidTests := true, laidLooks := .later }
def OctetsTrailUptoCardSaid : Prop := Claim7.holds Tryz.pinned (.plain (OpenSpec.upto octetsTrailSpec)) octetsTrailUptoCard

/-- THE SECOND FORM's CARD OF 'cordwoodlaw15.OctetsNamed'. -/
def octetsNamedUptoCard : Claim7 := { stood := { row := octetsNamedUptoRow, standIns := [], harness := (true, "894e7a30f364d97339c661a4aeb89071667b83b64035afa7da817c4a061c5926"), looks := false }, kinds := [], alts := [], laidByText := true, laidKinds := [.data, .data], laidTests := true, laidLooks := .later }
def OctetsNamedUptoCardSaid : Prop := Claim7.holds Tryz.pinned (.plain (OpenSpec.upto octetsNamedSpec)) octetsNamedUptoCard

/-- THE SECOND FORM's CARD OF 'cordwoodlaw14.EditBack'. -/
def editBackUptoCard : Claim7 := { stood := { row := editBackUptoRow, standIns := [], harness := (true, "894e7a30f364d97339c661a4aeb89071667b83b64035afa7da817c4a061c5926"), looks := false }, kinds := [], alts := [], laidByText := true, laidKinds := [.data, .data, .data], laidTests := true, laidLooks := .later }
def EditBackUptoCardSaid : Prop := Claim7.holds Tryz.pinned (.plain (OpenSpec.upto editBackSpec)) editBackUptoCard

/-- THE SECOND FORM's CARD OF 'cordwoodlaw14.EditFull'. -/
def editFullUptoCard : Claim7 := { stood := { row := editFullUptoRow, standIns := [], harness := (true, "894e7a30f364d97339c661a4aeb89071667b83b64035afa7da817c4a061c5926"), looks := false }, kinds := [], alts := [], laidByText := true, laidKinds := [.data, .data, .data], laidTests := true, laidLooks := .later }
def EditFullUptoCardSaid : Prop := Claim7.holds Tryz.pinned (.plain (OpenSpec.upto editFullSpec)) editFullUptoCard

/-- THE SECOND FORM's CARD OF 'cordwoodlaw14.EditOrder'. -/
def editOrderUptoCard : Claim7 := { stood := { row := editOrderUptoRow, standIns := [], harness := (true, "894e7a30f364d97339c661a4aeb89071667b83b64035afa7da817c4a061c5926"), looks := false }, kinds := [], alts := [], laidByText := true, laidKinds := [.data, .data, .data], laidTests := true, laidLooks := .later }
def EditOrderUptoCardSaid : Prop := Claim7.holds Tryz.pinned (.plain (OpenSpec.upto editOrderSpec)) editOrderUptoCard

/-- THE SECOND FORM's CARD OF 'cordwoodlaw14.EditGone'. -/
def editGoneUptoCard : Claim7 := { stood := { row := editGoneUptoRow, standIns := [], harness := (true, "894e7a30f364d97339c661a4aeb89071667b83b64035afa7da817c4a061c5926"), looks := false }, kinds := [], alts := [], laidByText := true, laidKinds := [.data, .data, .data], laidTests := true, laidLooks := .later }
def EditGoneUptoCardSaid : Prop := Claim7.holds Tryz.pinned (.plain (OpenSpec.upto editGoneSpec)) editGoneUptoCard
end Rows
end Go.Proofs.YtihhinbjhiankaaGreatDoor
