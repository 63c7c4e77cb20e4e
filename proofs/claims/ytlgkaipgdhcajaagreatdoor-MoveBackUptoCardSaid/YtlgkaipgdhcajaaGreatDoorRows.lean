/-
  NARROWER THAN 'FOR EVERY INPUT', by the rows' own cells (each row's printed sentence says how): MoveFormula: loops, laid · MoveLines: loops, laid · MoveBack: loops, laid · MoveThere: loops, laid.
  DERIVED. THE GIVEN ROWS OF THIS SEAT. 4 by the template 'for every input the law returns true; each argument reads behind the call as it read before'; 0 by the template 'total and deterministic' (their statements: YtlgkaipgdhcajaaGreatDoorTotals.lean).
  GIVEN WITH THE SEED: the statements are not yours to turn. If you find one false, say at which input.
  Laid BY PROGRAM, IN A SANDBOX (cutbox-rows.mjs): the forced cells as the released guide's own fill.sh prints them over the translation 7b9eb7103a0e1ede… (all of the seat's roots in one cut). By AI agents, Wed Nov 11 2026. No macro, syntax, notation, axiom, sorry.
-/
import Derived.Test.YtlgkaipgdhcajaaGreatDoorChecked
import GoSem.PinnedTables
import GoSem.Claim
import GoSem.ClaimJoined
import GoSem.ClaimMapViews
import Derived.JoinedTies
import Derived.KernelRfl
namespace Go.Proofs.YtlgkaipgdhcajaaGreatDoor
/- THE CELL 'sum', in the pinned program and in every row, IS THE sha256 OF THE DUMP (.gsa) THAT YtlgkaipgdhcajaaGreatDoorProg.lean LOADS. Nothing in Lean hashes anything: it is a label: what it is worth is what the hold of that sum in a sandbox is worth. -/
noncomputable def Tryz.pinned : Pinned := { name := "ytlgkaipgdhcajaagreatdoor", sum := "7b9eb7103a0e1eded1311b6c67363575676de9249a014303502461ebcf70da53", checked := Tryz.checked }
namespace Rows
def none {H : Type} : Left H := { results := [], args := [] }

/- WHAT THE LISTED PACKAGE-LEVEL VARIABLES READ AS WHEN THE CALL BEGINS. Each datum BY PROGRAM (the guide's laid-datum.mjs) off the statement by which the dump's own 'gosem.cut.vars' lays the variable. In a bare row this is a premise. The card (YtlgkaipgdhcajaaGreatDoorCards.lean) ties it to the program's text. -/
def laid_unicode_utf8_acceptRanges {H : Type} : DataW H := .agg [.agg [.lit (.int .u8 128), .lit (.int .u8 191)], .agg [.lit (.int .u8 160), .lit (.int .u8 191)], .agg [.lit (.int .u8 128), .lit (.int .u8 159)], .agg [.lit (.int .u8 144), .lit (.int .u8 191)], .agg [.lit (.int .u8 128), .lit (.int .u8 143)], .agg [.lit (.int .u8 0), .lit (.int .u8 0)], .agg [.lit (.int .u8 0), .lit (.int .u8 0)], .agg [.lit (.int .u8 0), .lit (.int .u8 0)], .agg [.lit (.int .u8 0), .lit (.int .u8 0)], .agg [.lit (.int .u8 0), .lit (.int .u8 0)], .agg [.lit (.int .u8 0), .lit (.int .u8 0)], .agg [.lit (.int .u8 0), .lit (.int .u8 0)], .agg [.lit (.int .u8 0), .lit (.int .u8 0)], .agg [.lit (.int .u8 0), .lit (.int .u8 0)], .agg [.lit (.int .u8 0), .lit (.int .u8 0)], .agg [.lit (.int .u8 0), .lit (.int .u8 0)]]
/-- One of Go's own tables, pinned by name: the form's constant. -/
def laid_unicode_utf8_first : DataW Unit := Go.Pinned.utf8First

/-- 'quadrillelaw22.MoveFormula': WHATEVER THE INPUT: true; the input reads as it did. -/
def moveFormulaSpec : ChangeSpec := { name := "moveFormula", fn := fun _ => fun
  | [d1, d2, d3, d4] => { results := [.lit (.bool true)], args := [d1, d2, d3, d4] }
  | _ => none }
def moveFormulaRow : OpenClaim := { program := "ytlgkaipgdhcajaagreatdoor", sum := "7b9eb7103a0e1eded1311b6c67363575676de9249a014303502461ebcf70da53", func := "quadrille/quadrillelaw22.MoveFormula", spec := "moveFormula", inPlace := ["math.Float64frombits", "math.Float64bits", "maps.clone"], unfollowed := true, recurses := true, named := ["unicode/utf8.first", "unicode/utf8.acceptRanges"], loops := true, plainKeys := false, apart := false, laid := [("unicode/utf8.acceptRanges", laid_unicode_utf8_acceptRanges), ("unicode/utf8.first", laid_unicode_utf8_first)] }
def MoveFormulaSaid : Prop := moveFormulaRow.holds Tryz.pinned (OpenSpec.ofChange moveFormulaSpec)

/-- ITS FALSE NEIGHBOUR: 'it returns false'. Refute it at one input. -/
def moveFormulaWrong : ChangeSpec := { name := "moveFormula", fn := fun _ => fun
  | [d1, d2, d3, d4] => { results := [.lit (.bool false)], args := [d1, d2, d3, d4] }
  | _ => none }
def MoveFormulaWrongFalsely : Prop := moveFormulaRow.holds Tryz.pinned (OpenSpec.ofChange moveFormulaWrong)

/-- 'quadrillelaw22.MoveLines': WHATEVER THE INPUT: true; the input reads as it did. -/
def moveLinesSpec : ChangeSpec := { name := "moveLines", fn := fun _ => fun
  | [d1, d2, d3, d4] => { results := [.lit (.bool true)], args := [d1, d2, d3, d4] }
  | _ => none }
def moveLinesRow : OpenClaim := { program := "ytlgkaipgdhcajaagreatdoor", sum := "7b9eb7103a0e1eded1311b6c67363575676de9249a014303502461ebcf70da53", func := "quadrille/quadrillelaw22.MoveLines", spec := "moveLines", inPlace := ["math.Float64bits", "math.Float64frombits", "maps.clone", "internal/bytealg.abigen_runtime_cmpstring"], unfollowed := true, recurses := true, named := ["unicode/utf8.first", "unicode/utf8.acceptRanges"], loops := true, plainKeys := false, apart := false, laid := [("unicode/utf8.acceptRanges", laid_unicode_utf8_acceptRanges), ("unicode/utf8.first", laid_unicode_utf8_first)] }
def MoveLinesSaid : Prop := moveLinesRow.holds Tryz.pinned (OpenSpec.ofChange moveLinesSpec)

/-- ITS FALSE NEIGHBOUR: 'it returns false'. Refute it at one input. -/
def moveLinesWrong : ChangeSpec := { name := "moveLines", fn := fun _ => fun
  | [d1, d2, d3, d4] => { results := [.lit (.bool false)], args := [d1, d2, d3, d4] }
  | _ => none }
def MoveLinesWrongFalsely : Prop := moveLinesRow.holds Tryz.pinned (OpenSpec.ofChange moveLinesWrong)

/-- 'quadrillelaw22.MoveBack': WHATEVER THE INPUT: true; the input reads as it did. -/
def moveBackSpec : ChangeSpec := { name := "moveBack", fn := fun _ => fun
  | [d1, d2, d3, d4, d5] => { results := [.lit (.bool true)], args := [d1, d2, d3, d4, d5] }
  | _ => none }
def moveBackRow : OpenClaim := { program := "ytlgkaipgdhcajaagreatdoor", sum := "7b9eb7103a0e1eded1311b6c67363575676de9249a014303502461ebcf70da53", func := "quadrille/quadrillelaw22.MoveBack", spec := "moveBack", inPlace := ["math.Float64bits", "math.Float64frombits", "maps.clone", "internal/bytealg.abigen_runtime_cmpstring"], unfollowed := true, recurses := true, named := ["unicode/utf8.first", "unicode/utf8.acceptRanges"], loops := true, plainKeys := false, apart := false, laid := [("unicode/utf8.acceptRanges", laid_unicode_utf8_acceptRanges), ("unicode/utf8.first", laid_unicode_utf8_first)] }
def MoveBackSaid : Prop := moveBackRow.holds Tryz.pinned (OpenSpec.ofChange moveBackSpec)

/-- ITS FALSE NEIGHBOUR: 'it returns false'. Refute it at one input. -/
def moveBackWrong : ChangeSpec := { name := "moveBack", fn := fun _ => fun
  | [d1, d2, d3, d4, d5] => { results := [.lit (.bool false)], args := [d1, d2, d3, d4, d5] }
  | _ => none }
def MoveBackWrongFalsely : Prop := moveBackRow.holds Tryz.pinned (OpenSpec.ofChange moveBackWrong)

/-- 'quadrillelaw22.MoveThere': WHATEVER THE INPUT: true; the input reads as it did. -/
def moveThereSpec : ChangeSpec := { name := "moveThere", fn := fun _ => fun
  | [d1, d2] => { results := [.lit (.bool true)], args := [d1, d2] }
  | _ => none }
def moveThereRow : OpenClaim := { program := "ytlgkaipgdhcajaagreatdoor", sum := "7b9eb7103a0e1eded1311b6c67363575676de9249a014303502461ebcf70da53", func := "quadrille/quadrillelaw22.MoveThere", spec := "moveThere", inPlace := ["math.Float64bits", "math.Float64frombits", "maps.clone", "internal/bytealg.abigen_runtime_cmpstring"], unfollowed := true, recurses := true, named := ["unicode/utf8.first", "unicode/utf8.acceptRanges"], loops := true, plainKeys := false, apart := false, laid := [("unicode/utf8.acceptRanges", laid_unicode_utf8_acceptRanges), ("unicode/utf8.first", laid_unicode_utf8_first)] }
def MoveThereSaid : Prop := moveThereRow.holds Tryz.pinned (OpenSpec.ofChange moveThereSpec)

/-- ITS FALSE NEIGHBOUR: 'it returns false'. Refute it at one input. -/
def moveThereWrong : ChangeSpec := { name := "moveThere", fn := fun _ => fun
  | [d1, d2] => { results := [.lit (.bool false)], args := [d1, d2] }
  | _ => none }
def MoveThereWrongFalsely : Prop := moveThereRow.holds Tryz.pinned (OpenSpec.ofChange moveThereWrong)

/- THE SECOND FORM. 'bulk': how many values and letters a reading holds, each counted each time it is reached (what is shared counts as often as it is met; a slice's spare places count too). A statement '..UptoSaid' is the law's where the arguments, and the package variables that the reading takes, are together of bulk at most 1048576: NARROWER than '..Said'. Prove '..Said' where nothing that the law and all that it calls make is longer than what came in: it says more and counts as full. Else prove '..UptoSaid'. A law counts once. -/
mutual
def uptoBulk {H : Type} : DataW H → Nat
  | .lit (.string bytes) => bytes.length + 1
  | .lit _ => 1
  | .nil => 1
  | .ptr d => uptoBulk d + 1
  | .slice elems spare => uptoBulkAll elems + uptoBulkAll spare + 1
  | .agg parts => uptoBulkAll parts + 1
  | .iface _ d => uptoBulk d + 1
  | .map entries => uptoBulkEntries entries + 1
  | .held _ => 1
def uptoBulkAll {H : Type} : List (DataW H) → Nat
  | [] => 0
  | d :: r => uptoBulk d + uptoBulkAll r
def uptoBulkEntries {H : Type} : List (Lit × DataW H) → Nat
  | [] => 0
  | x :: r => uptoBulkEntry x + uptoBulkEntries r
def uptoBulkEntry {H : Type} : Lit × DataW H → Nat
  | (.string bytes, d) => bytes.length + uptoBulk d + 1
  | (_, d) => uptoBulk d + 1
 end
def uptoSmall : (H : Type) → List (DataW H) → Bool := fun _ ds => decide (uptoBulkAll ds ≤ 1048576)
def OpenSpec.upto (s : _root_.Go.ChangeSpec) : _root_.Go.OpenSpec := { _root_.Go.OpenSpec.ofChange s with cond := some uptoSmall }

/-- 'quadrillelaw22.MoveFormula', WHERE WHAT IT READS IS OF BULK AT MOST 1048576: true; the input reads as it did. -/
def moveFormulaUptoRow : OpenClaim := { program := "ytlgkaipgdhcajaagreatdoor", sum := "7b9eb7103a0e1eded1311b6c67363575676de9249a014303502461ebcf70da53", func := "quadrille/quadrillelaw22.MoveFormula", spec := "moveFormula", inPlace := ["math.Float64frombits", "math.Float64bits", "maps.clone"], unfollowed := true, recurses := true, named := ["unicode/utf8.first", "unicode/utf8.acceptRanges"], loops := true, plainKeys := false, apart := false, laid := [("unicode/utf8.acceptRanges", laid_unicode_utf8_acceptRanges), ("unicode/utf8.first", laid_unicode_utf8_first)], narrowed := true }
def MoveFormulaUptoSaid : Prop := moveFormulaUptoRow.holds Tryz.pinned (OpenSpec.upto moveFormulaSpec)

/-- 'quadrillelaw22.MoveLines', WHERE WHAT IT READS IS OF BULK AT MOST 1048576: true; the input reads as it did. -/
def moveLinesUptoRow : OpenClaim := { program := "ytlgkaipgdhcajaagreatdoor", sum := "7b9eb7103a0e1eded1311b6c67363575676de9249a014303502461ebcf70da53", func := "quadrille/quadrillelaw22.MoveLines", spec := "moveLines", inPlace := ["math.Float64bits", "math.Float64frombits", "maps.clone", "internal/bytealg.abigen_runtime_cmpstring"], unfollowed := true, recurses := true, named := ["unicode/utf8.first", "unicode/utf8.acceptRanges"], loops := true, plainKeys := false, apart := false, laid := [("unicode/utf8.acceptRanges", laid_unicode_utf8_acceptRanges), ("unicode/utf8.first", laid_unicode_utf8_first)], narrowed := true }
def MoveLinesUptoSaid : Prop := moveLinesUptoRow.holds Tryz.pinned (OpenSpec.upto moveLinesSpec)

/-- 'quadrillelaw22.MoveBack', WHERE WHAT IT READS IS OF BULK AT MOST 1048576: true; the input reads as it did. -/
def moveBackUptoRow : OpenClaim := { program := "ytlgkaipgdhcajaagreatdoor", sum := "7b9eb7103a0e1eded1311b6c67363575676de9249a014303502461ebcf70da53", func := "quadrille/quadrillelaw22.MoveBack", spec := "moveBack", inPlace := ["math.Float64bits", "math.Float64frombits", "maps.clone", "internal/bytealg.abigen_runtime_cmpstring"], unfollowed := true, recurses := true, named := ["unicode/utf8.first", "unicode/utf8.acceptRanges"], loops := true, plainKeys := false, apart := false, laid := [("unicode/utf8.acceptRanges", laid_unicode_utf8_acceptRanges), ("unicode/utf8.first", laid_unicode_utf8_first)], narrowed := true }
def MoveBackUptoSaid : Prop := moveBackUptoRow.holds Tryz.pinned (OpenSpec.upto moveBackSpec)

/-- 'quadrillelaw22.MoveThere', WHERE WHAT IT READS IS OF BULK AT MOST 1048576: true; the input reads as it did. -/
def moveThereUptoRow : OpenClaim := { program := "ytlgkaipgdhcajaagreatdoor", sum := "7b9eb7103a0e1eded1311b6c67363575676de9249a014303502461ebcf70da53", func := "quadrille/quadrillelaw22.MoveThere", spec := "moveThere", inPlace := ["math.Float64bits", "math.Float64frombits", "maps.clone", "internal/bytealg.abigen_runtime_cmpstring"], unfollowed := true, recurses := true, named := ["unicode/utf8.first", "unicode/utf8.acceptRanges"], loops := true, plainKeys := false, apart := false, laid := [("unicode/utf8.acceptRanges", laid_unicode_utf8_acceptRanges), ("unicode/utf8.first", laid_unicode_utf8_first)], narrowed := true }
def MoveThereUptoSaid : Prop := moveThereUptoRow.holds Tryz.pinned (OpenSpec.upto moveThereSpec)

end Rows
end Go.Proofs.YtlgkaipgdhcajaaGreatDoor
