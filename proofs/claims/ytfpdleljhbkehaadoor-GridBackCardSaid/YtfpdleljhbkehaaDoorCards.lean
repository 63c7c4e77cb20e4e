/-
  DERIVED. GIVEN WITH THE SEED: THE CARDS: each row of YtfpdleljhbkehaaDoorRows.lean that lists a variable, with what it lists TIED to the program's text (the seventh form; the later family's looks); each row that meets fmt, with fmt's text TOLD by the authors' own Lean function (tested against real Go, not proved from fmt's source: count such statements apart). THE CARD IS WHAT COUNTS. Prove the row's statement (the work); the ties are given (YtfpdleljhbkehaaDoorTie.lean); close each card by the builder's one call (the guide's Derived/Test/ToyasCard.lean, 'card_holds'). Laid BY PROGRAM, IN A SANDBOX (cutbox-door.mjs). By AI agents, Wed Nov 11 2026. No macro, syntax, notation, axiom, sorry.
-/
import Derived.Test.YtfpdleljhbkehaaDoorRows
import GoSem.ClaimSeven
namespace Go.Proofs.YtfpdleljhbkehaaDoor
namespace Rows

/-- THE TIED CARD OF 'quadrillelaw17.GridFull'. -/
def gridFullCard : Claim7 := { stood := { row := gridFullRow, standIns := [], harness := (true, "80109e8d749c07375a416e27fa35df9ec4473a27c6034f4607526e330503c2b2"), looks := true }, kinds := [], alts := [], laidByText := true, laidKinds := [.data, .pinned], laidTests := true, laidLooks := .later }
def GridFullCardSaid : Prop := Claim7.holds Tryd.pinned (.plain (OpenSpec.ofChange gridFullSpec)) gridFullCard

/-- THE TIED CARD OF 'quadrillelaw17.GridBack'. -/
def gridBackCard : Claim7 := { stood := { row := gridBackRow, standIns := [], harness := (true, "80109e8d749c07375a416e27fa35df9ec4473a27c6034f4607526e330503c2b2"), looks := true }, kinds := [], alts := [], laidByText := true, laidKinds := [.data, .pinned], laidTests := true, laidLooks := .later }
def GridBackCardSaid : Prop := Claim7.holds Tryd.pinned (.plain (OpenSpec.ofChange gridBackSpec)) gridBackCard

/-- THE TIED CARD OF 'quadrillelaw17.GridNil'. -/
def gridNilCard : Claim7 := { stood := { row := gridNilRow, standIns := [], harness := (true, "80109e8d749c07375a416e27fa35df9ec4473a27c6034f4607526e330503c2b2"), looks := true }, kinds := [], alts := [], laidByText := true, laidKinds := [.data, .pinned], laidTests := true, laidLooks := .later }
def GridNilCardSaid : Prop := Claim7.holds Tryd.pinned (.plain (OpenSpec.ofChange gridNilSpec)) gridNilCard

/-- THE SECOND FORM's CARD OF 'quadrillelaw17.GridFull'. -/
def gridFullUptoCard : Claim7 := { stood := { row := gridFullUptoRow, standIns := [], harness := (true, "80109e8d749c07375a416e27fa35df9ec4473a27c6034f4607526e330503c2b2"), looks := true }, kinds := [], alts := [], laidByText := true, laidKinds := [.data, .pinned], laidTests := true, laidLooks := .later }
def GridFullUptoCardSaid : Prop := Claim7.holds Tryd.pinned (.plain (OpenSpec.upto gridFullSpec)) gridFullUptoCard

/-- THE SECOND FORM's CARD OF 'quadrillelaw17.GridBack'. -/
def gridBackUptoCard : Claim7 := { stood := { row := gridBackUptoRow, standIns := [], harness := (true, "80109e8d749c07375a416e27fa35df9ec4473a27c6034f4607526e330503c2b2"), looks := true }, kinds := [], alts := [], laidByText := true, laidKinds := [.data, .pinned], laidTests := true, laidLooks := .later }
def GridBackUptoCardSaid : Prop := Claim7.holds Tryd.pinned (.plain (OpenSpec.upto gridBackSpec)) gridBackUptoCard

/-- THE SECOND FORM's CARD OF 'quadrillelaw17.GridNil'. -/
def gridNilUptoCard : Claim7 := { stood := { row := gridNilUptoRow, standIns := [], harness := (true, "80109e8d749c07375a416e27fa35df9ec4473a27c6034f4607526e330503c2b2"), looks := true }, kinds := [], alts := [], laidByText := true, laidKinds := [.data, .pinned], laidTests := true, laidLooks := .later }
def GridNilUptoCardSaid : Prop := Claim7.holds Tryd.pinned (.plain (OpenSpec.upto gridNilSpec)) gridNilUptoCard
end Rows
end Go.Proofs.YtfpdleljhbkehaaDoor
