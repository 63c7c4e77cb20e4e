/-
  DERIVED. GIVEN WITH THE SEED: THE CARDS: each row of YtdoeejhdenifpaaGreatDoorRows.lean that lists a variable, with what it lists TIED to the program's text (the seventh form; the later family's looks); each row that meets fmt, with fmt's text TOLD by the authors' own Lean function (tested against real Go, not proved from fmt's source: count such statements apart). THE CARD IS WHAT COUNTS. Prove the row's statement (the work); the ties are given (YtdoeejhdenifpaaGreatDoorTie.lean); close each card by the builder's one call (the guide's Derived/Test/ToyasCard.lean, 'card_holds'). Laid BY PROGRAM, IN A SANDBOX (cutbox-door.mjs). By AI agents, Wed Nov 11 2026. No macro, syntax, notation, axiom, sorry.
-/
import Derived.Test.YtdoeejhdenifpaaGreatDoorRows
import GoSem.ClaimSeven
namespace Go.Proofs.YtdoeejhdenifpaaGreatDoor
namespace Rows

/-- THE TIED CARD OF 'quadrillelaw22.MoveThere'. -/
def moveThereCard : Claim7 := { stood := { row := moveThereRow, standIns := [], harness := (true, "eb7f72f4ac0e14afeafa63fa0808cf02383c7618239fde7994ca0b3ac7b07dfc"), looks := true }, kinds := [], alts := [], laidByText := true, laidKinds := [.data, .pinned], laidTests := true, laidLooks := .later }
def MoveThereCardSaid : Prop := Claim7.holds Tryz.pinned (.plain (OpenSpec.ofChange moveThereSpec)) moveThereCard

/-- THE TIED CARD OF 'quadrillelaw22.MovePlays'. -/
def movePlaysCard : Claim7 := { stood := { row := movePlaysRow, standIns := [], harness := (true, "eb7f72f4ac0e14afeafa63fa0808cf02383c7618239fde7994ca0b3ac7b07dfc"), looks := true }, kinds := [], alts := [], laidByText := true, laidKinds := [.data, .pinned], laidTests := true, laidLooks := .later }
def MovePlaysCardSaid : Prop := Claim7.holds Tryz.pinned (.plain (OpenSpec.ofChange movePlaysSpec)) movePlaysCard

/-- THE TIED CARD OF 'quadrillelaw22.MoveApart'. -/
def moveApartCard : Claim7 := { stood := { row := moveApartRow, standIns := [], harness := (true, "eb7f72f4ac0e14afeafa63fa0808cf02383c7618239fde7994ca0b3ac7b07dfc"), looks := true }, kinds := [], alts := [], laidByText := true, laidKinds := [.data, .pinned], laidTests := true, laidLooks := .later }
def MoveApartCardSaid : Prop := Claim7.holds Tryz.pinned (.plain (OpenSpec.ofChange moveApartSpec)) moveApartCard

/-- THE TIED CARD OF 'quadrillelaw22.MoveCopies'. -/
def moveCopiesCard : Claim7 := { stood := { row := moveCopiesRow, standIns := [], harness := (true, "eb7f72f4ac0e14afeafa63fa0808cf02383c7618239fde7994ca0b3ac7b07dfc"), looks := true }, kinds := [], alts := [], laidByText := true, laidKinds := [.data, .pinned], laidTests := true, laidLooks := .later }
def MoveCopiesCardSaid : Prop := Claim7.holds Tryz.pinned (.plain (OpenSpec.ofChange moveCopiesSpec)) moveCopiesCard

/-- THE TIED CARD OF 'quadrillelaw22.MoveRefuses'. -/
def moveRefusesCard : Claim7 := { stood := { row := moveRefusesRow, standIns := [], harness := (true, "eb7f72f4ac0e14afeafa63fa0808cf02383c7618239fde7994ca0b3ac7b07dfc"), looks := true }, kinds := [], alts := [], laidByText := true, laidKinds := [.data, .pinned], laidTests := true, laidLooks := .later }
def MoveRefusesCardSaid : Prop := Claim7.holds Tryz.pinned (.plain (OpenSpec.ofChange moveRefusesSpec)) moveRefusesCard

/-- THE SECOND FORM's CARD OF 'quadrillelaw22.MoveThere'. -/
def moveThereUptoCard : Claim7 := { stood := { row := moveThereUptoRow, standIns := [], harness := (true, "eb7f72f4ac0e14afeafa63fa0808cf02383c7618239fde7994ca0b3ac7b07dfc"), looks := true }, kinds := [], alts := [], laidByText := true, laidKinds := [.data, .pinned], laidTests := true, laidLooks := .later }
def MoveThereUptoCardSaid : Prop := Claim7.holds Tryz.pinned (.plain (OpenSpec.upto moveThereSpec)) moveThereUptoCard

/-- THE SECOND FORM's CARD OF 'quadrillelaw22.MovePlays'. -/
def movePlaysUptoCard : Claim7 := { stood := { row := movePlaysUptoRow, standIns := [], harness := (true, "eb7f72f4ac0e14afeafa63fa0808cf02383c7618239fde7994ca0b3ac7b07dfc"), looks := true }, kinds := [], alts := [], laidByText := true, laidKinds := [.data, .pinned], laidTests := true, laidLooks := .later }
def MovePlaysUptoCardSaid : Prop := Claim7.holds Tryz.pinned (.plain (OpenSpec.upto movePlaysSpec)) movePlaysUptoCard

/-- THE SECOND FORM's CARD OF 'quadrillelaw22.MoveApart'. -/
def moveApartUptoCard : Claim7 := { stood := { row := moveApartUptoRow, standIns := [], harness := (true, "eb7f72f4ac0e14afeafa63fa0808cf02383c7618239fde7994ca0b3ac7b07dfc"), looks := true }, kinds := [], alts := [], laidByText := true, laidKinds := [.data, .pinned], laidTests := true, laidLooks := .later }
def MoveApartUptoCardSaid : Prop := Claim7.holds Tryz.pinned (.plain (OpenSpec.upto moveApartSpec)) moveApartUptoCard

/-- THE SECOND FORM's CARD OF 'quadrillelaw22.MoveCopies'. -/
def moveCopiesUptoCard : Claim7 := { stood := { row := moveCopiesUptoRow, standIns := [], harness := (true, "eb7f72f4ac0e14afeafa63fa0808cf02383c7618239fde7994ca0b3ac7b07dfc"), looks := true }, kinds := [], alts := [], laidByText := true, laidKinds := [.data, .pinned], laidTests := true, laidLooks := .later }
def MoveCopiesUptoCardSaid : Prop := Claim7.holds Tryz.pinned (.plain (OpenSpec.upto moveCopiesSpec)) moveCopiesUptoCard

/-- THE SECOND FORM's CARD OF 'quadrillelaw22.MoveRefuses'. -/
def moveRefusesUptoCard : Claim7 := { stood := { row := moveRefusesUptoRow, standIns := [], harness := (true, "eb7f72f4ac0e14afeafa63fa0808cf02383c7618239fde7994ca0b3ac7b07dfc"), looks := true }, kinds := [], alts := [], laidByText := true, laidKinds := [.data, .pinned], laidTests := true, laidLooks := .later }
def MoveRefusesUptoCardSaid : Prop := Claim7.holds Tryz.pinned (.plain (OpenSpec.upto moveRefusesSpec)) moveRefusesUptoCard
end Rows
end Go.Proofs.YtdoeejhdenifpaaGreatDoor
