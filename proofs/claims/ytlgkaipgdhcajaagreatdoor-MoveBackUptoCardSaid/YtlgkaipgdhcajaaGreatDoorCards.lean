/-
  DERIVED. GIVEN WITH THE SEED: THE CARDS: each row of YtlgkaipgdhcajaaGreatDoorRows.lean that lists a variable, with what it lists TIED to the program's text (the seventh form; the later family's looks); each row that meets fmt, with fmt's text TOLD by the authors' own Lean function (tested against real Go, not proved from fmt's source: count such statements apart). THE CARD IS WHAT COUNTS. Prove the row's statement (the work); the ties are given (YtlgkaipgdhcajaaGreatDoorTie.lean); close each card by the builder's one call (the guide's Derived/Test/ToyasCard.lean, 'card_holds'). Laid BY PROGRAM, IN A SANDBOX (cutbox-door.mjs). By AI agents, Wed Nov 11 2026. No macro, syntax, notation, axiom, sorry.
-/
import Derived.Test.YtlgkaipgdhcajaaGreatDoorRows
import GoSem.ClaimSeven
namespace Go.Proofs.YtlgkaipgdhcajaaGreatDoor
namespace Rows

/-- THE TIED CARD OF 'quadrillelaw22.MoveFormula'. -/
def moveFormulaCard : Claim7 := { stood := { row := moveFormulaRow, standIns := [], harness := (true, "eb818387c6ec8c193b1fae5fa25b9a0a951c29fdf3bd7a8b1589c42d80c910da"), looks := true }, kinds := [], alts := [], laidByText := true, laidKinds := [.data, .pinned], laidTests := true, laidLooks := .later }
def MoveFormulaCardSaid : Prop := Claim7.holds Tryz.pinned (.plain (OpenSpec.ofChange moveFormulaSpec)) moveFormulaCard

/-- THE TIED CARD OF 'quadrillelaw22.MoveLines'. -/
def moveLinesCard : Claim7 := { stood := { row := moveLinesRow, standIns := [], harness := (true, "eb818387c6ec8c193b1fae5fa25b9a0a951c29fdf3bd7a8b1589c42d80c910da"), looks := true }, kinds := [], alts := [], laidByText := true, laidKinds := [.data, .pinned], laidTests := true, laidLooks := .later }
def MoveLinesCardSaid : Prop := Claim7.holds Tryz.pinned (.plain (OpenSpec.ofChange moveLinesSpec)) moveLinesCard

/-- THE TIED CARD OF 'quadrillelaw22.MoveBack'. -/
def moveBackCard : Claim7 := { stood := { row := moveBackRow, standIns := [], harness := (true, "eb818387c6ec8c193b1fae5fa25b9a0a951c29fdf3bd7a8b1589c42d80c910da"), looks := true }, kinds := [], alts := [], laidByText := true, laidKinds := [.data, .pinned], laidTests := true, laidLooks := .later }
def MoveBackCardSaid : Prop := Claim7.holds Tryz.pinned (.plain (OpenSpec.ofChange moveBackSpec)) moveBackCard

/-- THE TIED CARD OF 'quadrillelaw22.MoveThere'. -/
def moveThereCard : Claim7 := { stood := { row := moveThereRow, standIns := [], harness := (true, "eb818387c6ec8c193b1fae5fa25b9a0a951c29fdf3bd7a8b1589c42d80c910da"), looks := true }, kinds := [], alts := [], laidByText := true, laidKinds := [.data, .pinned], laidTests := true, laidLooks := .later }
def MoveThereCardSaid : Prop := Claim7.holds Tryz.pinned (.plain (OpenSpec.ofChange moveThereSpec)) moveThereCard

/-- THE SECOND FORM's CARD OF 'quadrillelaw22.MoveFormula'. -/
def moveFormulaUptoCard : Claim7 := { stood := { row := moveFormulaUptoRow, standIns := [], harness := (true, "eb818387c6ec8c193b1fae5fa25b9a0a951c29fdf3bd7a8b1589c42d80c910da"), looks := true }, kinds := [], alts := [], laidByText := true, laidKinds := [.data, .pinned], laidTests := true, laidLooks := .later }
def MoveFormulaUptoCardSaid : Prop := Claim7.holds Tryz.pinned (.plain (OpenSpec.upto moveFormulaSpec)) moveFormulaUptoCard

/-- THE SECOND FORM's CARD OF 'quadrillelaw22.MoveLines'. -/
def moveLinesUptoCard : Claim7 := { stood := { row := moveLinesUptoRow, standIns := [], harness := (true, "eb818387c6ec8c193b1fae5fa25b9a0a951c29fdf3bd7a8b1589c42d80c910da"), looks := true }, kinds := [], alts := [], laidByText := true, laidKinds := [.data, .pinned], laidTests := true, laidLooks := .later }
def MoveLinesUptoCardSaid : Prop := Claim7.holds Tryz.pinned (.plain (OpenSpec.upto moveLinesSpec)) moveLinesUptoCard

/-- THE SECOND FORM's CARD OF 'quadrillelaw22.MoveBack'. -/
def moveBackUptoCard : Claim7 := { stood := { row := moveBackUptoRow, standIns := [], harness := (true, "eb818387c6ec8c193b1fae5fa25b9a0a951c29fdf3bd7a8b1589c42d80c910da"), looks := true }, kinds := [], alts := [], laidByText := true, laidKinds := [.data, .pinned], laidTests := true, laidLooks := .later }
def MoveBackUptoCardSaid : Prop := Claim7.holds Tryz.pinned (.plain (OpenSpec.upto moveBackSpec)) moveBackUptoCard

/-- THE SECOND FORM's CARD OF 'quadrillelaw22.MoveThere'. -/
def moveThereUptoCard : Claim7 := { stood := { row := moveThereUptoRow, standIns := [], harness := (true, "eb818387c6ec8c193b1fae5fa25b9a0a951c29fdf3bd7a8b1589c42d80c910da"), looks := true }, kinds := [], alts := [], laidByText := true, laidKinds := [.data, .pinned], laidTests := true, laidLooks := .later }
def MoveThereUptoCardSaid : Prop := Claim7.holds Tryz.pinned (.plain (OpenSpec.upto moveThereSpec)) moveThereUptoCard
end Rows
end Go.Proofs.YtlgkaipgdhcajaaGreatDoor
