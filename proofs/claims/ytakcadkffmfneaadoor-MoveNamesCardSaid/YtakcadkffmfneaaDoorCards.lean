/-
  DERIVED. GIVEN WITH THE SEED: THE CARDS: each row of YtakcadkffmfneaaDoorRows.lean that lists a variable, with what it lists TIED to the program's text (the seventh form; the later family's looks); each row that meets fmt, with fmt's text TOLD by the authors' own Lean function (tested against real Go, not proved from fmt's source: count such statements apart). THE CARD IS WHAT COUNTS. Prove the row's statement (the work); the ties are given (YtakcadkffmfneaaDoorTie.lean); close each card by the builder's one call (the guide's Derived/Test/ToyasCard.lean, 'card_holds'). Laid BY PROGRAM, IN A SANDBOX (cutbox-door.mjs). By AI agents, Wed Nov 11 2026. No macro, syntax, notation, axiom, sorry.
-/
import Derived.Test.YtakcadkffmfneaaDoorRows
import GoSem.ClaimSeven
namespace Go.Proofs.YtakcadkffmfneaaDoor
namespace Rows

/-- THE TIED CARD OF 'quadrillelaw22.MoveNames'. -/
def moveNamesCard : Claim7 := { stood := { row := moveNamesRow, standIns := [], harness := (true, "89bad2fcbc1adf9617bc6084073b2c30ddca06fff4eedca294ae6143d5854e12"), looks := true }, kinds := [], alts := [], laidByText := true, laidKinds := [.data, .pinned], laidTests := true, laidLooks := .later }
def MoveNamesCardSaid : Prop := Claim7.holds Tryd.pinned (.plain (OpenSpec.ofChange moveNamesSpec)) moveNamesCard

/-- THE SECOND FORM's CARD OF 'quadrillelaw22.MoveNames'. -/
def moveNamesUptoCard : Claim7 := { stood := { row := moveNamesUptoRow, standIns := [], harness := (true, "89bad2fcbc1adf9617bc6084073b2c30ddca06fff4eedca294ae6143d5854e12"), looks := true }, kinds := [], alts := [], laidByText := true, laidKinds := [.data, .pinned], laidTests := true, laidLooks := .later }
def MoveNamesUptoCardSaid : Prop := Claim7.holds Tryd.pinned (.plain (OpenSpec.upto moveNamesSpec)) moveNamesUptoCard
end Rows
end Go.Proofs.YtakcadkffmfneaaDoor
