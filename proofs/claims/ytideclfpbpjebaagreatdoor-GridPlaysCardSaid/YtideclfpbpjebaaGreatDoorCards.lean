/-
  DERIVED. GIVEN WITH THE SEED: THE CARDS: each row of YtideclfpbpjebaaGreatDoorRows.lean that lists a variable, with what it lists TIED to the program's text (the seventh form; the later family's looks); each row that meets fmt, with fmt's text TOLD by the authors' own Lean function (tested against real Go, not proved from fmt's source: count such statements apart). THE CARD IS WHAT COUNTS. Prove the row's statement (the work); the ties are given (YtideclfpbpjebaaGreatDoorTie.lean); close each card by the builder's one call (the guide's Derived/Test/ToyasCard.lean, 'card_holds'). Laid BY PROGRAM, IN A SANDBOX (cutbox-door.mjs). By AI agents, Wed Nov 11 2026. No macro, syntax, notation, axiom, sorry.
-/
import Derived.Test.YtideclfpbpjebaaGreatDoorRows
import GoSem.ClaimSeven
namespace Go.Proofs.YtideclfpbpjebaaGreatDoor
namespace Rows

/-- THE TIED CARD OF 'quadrillelaw17.GridPlays'. -/
def gridPlaysCard : Claim7 := { stood := { row := gridPlaysRow, standIns := [], harness := (true, "1536d1d6dc1c7d51b45ec1ec2659b5d1ab60b574e782115ea5c64a2f68ee2e10"), looks := true }, kinds := [], alts := [], laidByText := true, laidKinds := [.data, .pinned], laidTests := true, laidLooks := .later }
def GridPlaysCardSaid : Prop := Claim7.holds Tryz.pinned (.plain (OpenSpec.ofChange gridPlaysSpec)) gridPlaysCard

/-- THE SECOND FORM's CARD OF 'quadrillelaw17.GridPlays'. -/
def gridPlaysUptoCard : Claim7 := { stood := { row := gridPlaysUptoRow, standIns := [], harness := (true, "1536d1d6dc1c7d51b45ec1ec2659b5d1ab60b574e782115ea5c64a2f68ee2e10"), looks := true }, kinds := [], alts := [], laidByText := true, laidKinds := [.data, .pinned], laidTests := true, laidLooks := .later }
def GridPlaysUptoCardSaid : Prop := Claim7.holds Tryz.pinned (.plain (OpenSpec.upto gridPlaysSpec)) gridPlaysUptoCard
end Rows
end Go.Proofs.YtideclfpbpjebaaGreatDoor
