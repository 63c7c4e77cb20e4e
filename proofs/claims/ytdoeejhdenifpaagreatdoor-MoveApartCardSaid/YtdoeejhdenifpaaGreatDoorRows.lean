/-
  NARROWER THAN 'FOR EVERY INPUT', by the rows' own cells (each row's printed sentence says how): MoveThere: loops, laid · MovePlays: loops, laid · MoveApart: loops, laid · MoveCopies: loops, laid · MoveRefuses: loops, laid.
  DERIVED. THE GIVEN ROWS OF THIS SEAT. 5 by the template 'for every input the law returns true; each argument reads behind the call as it read before'; 0 by the template 'total and deterministic' (their statements: YtdoeejhdenifpaaGreatDoorTotals.lean).
  GIVEN WITH THE SEED: the statements are not yours to turn. If you find one false, say at which input.
  Laid BY PROGRAM, IN A SANDBOX (cutbox-rows.mjs): the forced cells as the released guide's own fill.sh prints them over the translation 0f7502a32a4ae056… (all of the seat's roots in one cut). By AI agents, Wed Nov 11 2026. No macro, syntax, notation, axiom, sorry.
-/
import Derived.Test.YtdoeejhdenifpaaGreatDoorChecked
import GoSem.PinnedTables
import GoSem.Claim
import GoSem.ClaimJoined
import GoSem.ClaimMapViews
import Derived.JoinedTies
import Derived.KernelRfl
namespace Go.Proofs.YtdoeejhdenifpaaGreatDoor
/- THE CELL 'sum', in the pinned program and in every row, IS THE sha256 OF THE DUMP (.gsa) THAT YtdoeejhdenifpaaGreatDoorProg.lean LOADS. Nothing in Lean hashes anything: it is a label: what it is worth is what the hold of that sum in a sandbox is worth. -/
noncomputable def Tryz.pinned : Pinned := { name := "ytdoeejhdenifpaagreatdoor", sum := "0f7502a32a4ae056ac1e0aa216a42b3ad5a27711099d3de1a17f9aa7d0d2dfdc", checked := Tryz.checked }
namespace Rows
def none {H : Type} : Left H := { results := [], args := [] }

/- WHAT THE LISTED PACKAGE-LEVEL VARIABLES READ AS WHEN THE CALL BEGINS. Each datum BY PROGRAM (the guide's laid-datum.mjs) off the statement by which the dump's own 'gosem.cut.vars' lays the variable. In a bare row this is a premise. The card (YtdoeejhdenifpaaGreatDoorCards.lean) ties it to the program's text. -/
def laid_unicode_utf8_acceptRanges {H : Type} : DataW H := .agg [.agg [.lit (.int .u8 128), .lit (.int .u8 191)], .agg [.lit (.int .u8 160), .lit (.int .u8 191)], .agg [.lit (.int .u8 128), .lit (.int .u8 159)], .agg [.lit (.int .u8 144), .lit (.int .u8 191)], .agg [.lit (.int .u8 128), .lit (.int .u8 143)], .agg [.lit (.int .u8 0), .lit (.int .u8 0)], .agg [.lit (.int .u8 0), .lit (.int .u8 0)], .agg [.lit (.int .u8 0), .lit (.int .u8 0)], .agg [.lit (.int .u8 0), .lit (.int .u8 0)], .agg [.lit (.int .u8 0), .lit (.int .u8 0)], .agg [.lit (.int .u8 0), .lit (.int .u8 0)], .agg [.lit (.int .u8 0), .lit (.int .u8 0)], .agg [.lit (.int .u8 0), .lit (.int .u8 0)], .agg [.lit (.int .u8 0), .lit (.int .u8 0)], .agg [.lit (.int .u8 0), .lit (.int .u8 0)], .agg [.lit (.int .u8 0), .lit (.int .u8 0)]]
/-- One of Go's own tables, pinned by name: the form's constant. -/
def laid_unicode_utf8_first : DataW Unit := Go.Pinned.utf8First

/-- 'quadrillelaw22.MoveThere': WHATEVER THE INPUT: true; the input reads as it did. -/
def moveThereSpec : ChangeSpec := { name := "moveThere", fn := fun _ => fun
  | [d1, d2] => { results := [.lit (.bool true)], args := [d1, d2] }
  | _ => none }
def moveThereRow : OpenClaim := { program := "ytdoeejhdenifpaagreatdoor", sum := "0f7502a32a4ae056ac1e0aa216a42b3ad5a27711099d3de1a17f9aa7d0d2dfdc", func := "quadrille/quadrillelaw22.MoveThere", spec := "moveThere", inPlace := ["math.Float64bits", "math.Float64frombits", "maps.clone", "internal/bytealg.abigen_runtime_cmpstring"], unfollowed := true, recurses := true, named := ["unicode/utf8.first", "unicode/utf8.acceptRanges"], loops := true, plainKeys := false, apart := false, laid := [("unicode/utf8.acceptRanges", laid_unicode_utf8_acceptRanges), ("unicode/utf8.first", laid_unicode_utf8_first)] }
def MoveThereSaid : Prop := moveThereRow.holds Tryz.pinned (OpenSpec.ofChange moveThereSpec)

/-- ITS FALSE NEIGHBOUR: 'it returns false'. Refute it at one input. -/
def moveThereWrong : ChangeSpec := { name := "moveThere", fn := fun _ => fun
  | [d1, d2] => { results := [.lit (.bool false)], args := [d1, d2] }
  | _ => none }
def MoveThereWrongFalsely : Prop := moveThereRow.holds Tryz.pinned (OpenSpec.ofChange moveThereWrong)

/-- 'quadrillelaw22.MovePlays': WHATEVER THE INPUT: true; the input reads as it did. -/
def movePlaysSpec : ChangeSpec := { name := "movePlays", fn := fun _ => fun
  | [d1, d2] => { results := [.lit (.bool true)], args := [d1, d2] }
  | _ => none }
def movePlaysRow : OpenClaim := { program := "ytdoeejhdenifpaagreatdoor", sum := "0f7502a32a4ae056ac1e0aa216a42b3ad5a27711099d3de1a17f9aa7d0d2dfdc", func := "quadrille/quadrillelaw22.MovePlays", spec := "movePlays", inPlace := ["math.Float64bits", "math.Float64frombits", "maps.clone"], unfollowed := true, recurses := true, named := ["unicode/utf8.first", "unicode/utf8.acceptRanges"], loops := true, plainKeys := false, apart := false, laid := [("unicode/utf8.acceptRanges", laid_unicode_utf8_acceptRanges), ("unicode/utf8.first", laid_unicode_utf8_first)] }
def MovePlaysSaid : Prop := movePlaysRow.holds Tryz.pinned (OpenSpec.ofChange movePlaysSpec)

/-- ITS FALSE NEIGHBOUR: 'it returns false'. Refute it at one input. -/
def movePlaysWrong : ChangeSpec := { name := "movePlays", fn := fun _ => fun
  | [d1, d2] => { results := [.lit (.bool false)], args := [d1, d2] }
  | _ => none }
def MovePlaysWrongFalsely : Prop := movePlaysRow.holds Tryz.pinned (OpenSpec.ofChange movePlaysWrong)

/-- 'quadrillelaw22.MoveApart': WHATEVER THE INPUT: true; the input reads as it did. -/
def moveApartSpec : ChangeSpec := { name := "moveApart", fn := fun _ => fun
  | [d1, d2, d3] => { results := [.lit (.bool true)], args := [d1, d2, d3] }
  | _ => none }
def moveApartRow : OpenClaim := { program := "ytdoeejhdenifpaagreatdoor", sum := "0f7502a32a4ae056ac1e0aa216a42b3ad5a27711099d3de1a17f9aa7d0d2dfdc", func := "quadrille/quadrillelaw22.MoveApart", spec := "moveApart", inPlace := ["math.Float64bits", "math.Float64frombits", "maps.clone"], unfollowed := true, recurses := true, named := ["unicode/utf8.first", "unicode/utf8.acceptRanges"], loops := true, plainKeys := false, apart := false, laid := [("unicode/utf8.acceptRanges", laid_unicode_utf8_acceptRanges), ("unicode/utf8.first", laid_unicode_utf8_first)] }
def MoveApartSaid : Prop := moveApartRow.holds Tryz.pinned (OpenSpec.ofChange moveApartSpec)

/-- ITS FALSE NEIGHBOUR: 'it returns false'. Refute it at one input. -/
def moveApartWrong : ChangeSpec := { name := "moveApart", fn := fun _ => fun
  | [d1, d2, d3] => { results := [.lit (.bool false)], args := [d1, d2, d3] }
  | _ => none }
def MoveApartWrongFalsely : Prop := moveApartRow.holds Tryz.pinned (OpenSpec.ofChange moveApartWrong)

/-- 'quadrillelaw22.MoveCopies': WHATEVER THE INPUT: true; the input reads as it did. -/
def moveCopiesSpec : ChangeSpec := { name := "moveCopies", fn := fun _ => fun
  | [d1, d2] => { results := [.lit (.bool true)], args := [d1, d2] }
  | _ => none }
def moveCopiesRow : OpenClaim := { program := "ytdoeejhdenifpaagreatdoor", sum := "0f7502a32a4ae056ac1e0aa216a42b3ad5a27711099d3de1a17f9aa7d0d2dfdc", func := "quadrille/quadrillelaw22.MoveCopies", spec := "moveCopies", inPlace := ["math.Float64bits", "math.Float64frombits", "maps.clone", "internal/bytealg.abigen_runtime_cmpstring"], unfollowed := true, recurses := true, named := ["unicode/utf8.first", "unicode/utf8.acceptRanges"], loops := true, plainKeys := false, apart := false, laid := [("unicode/utf8.acceptRanges", laid_unicode_utf8_acceptRanges), ("unicode/utf8.first", laid_unicode_utf8_first)] }
def MoveCopiesSaid : Prop := moveCopiesRow.holds Tryz.pinned (OpenSpec.ofChange moveCopiesSpec)

/-- ITS FALSE NEIGHBOUR: 'it returns false'. Refute it at one input. -/
def moveCopiesWrong : ChangeSpec := { name := "moveCopies", fn := fun _ => fun
  | [d1, d2] => { results := [.lit (.bool false)], args := [d1, d2] }
  | _ => none }
def MoveCopiesWrongFalsely : Prop := moveCopiesRow.holds Tryz.pinned (OpenSpec.ofChange moveCopiesWrong)

/-- 'quadrillelaw22.MoveRefuses': WHATEVER THE INPUT: true; the input reads as it did. -/
def moveRefusesSpec : ChangeSpec := { name := "moveRefuses", fn := fun _ => fun
  | [d1, d2] => { results := [.lit (.bool true)], args := [d1, d2] }
  | _ => none }
def moveRefusesRow : OpenClaim := { program := "ytdoeejhdenifpaagreatdoor", sum := "0f7502a32a4ae056ac1e0aa216a42b3ad5a27711099d3de1a17f9aa7d0d2dfdc", func := "quadrille/quadrillelaw22.MoveRefuses", spec := "moveRefuses", inPlace := ["math.Float64bits", "math.Float64frombits", "maps.clone", "internal/bytealg.abigen_runtime_cmpstring"], unfollowed := true, recurses := true, named := ["unicode/utf8.first", "unicode/utf8.acceptRanges"], loops := true, plainKeys := false, apart := false, laid := [("unicode/utf8.acceptRanges", laid_unicode_utf8_acceptRanges), ("unicode/utf8.first", laid_unicode_utf8_first)] }
def MoveRefusesSaid : Prop := moveRefusesRow.holds Tryz.pinned (OpenSpec.ofChange moveRefusesSpec)

/-- ITS FALSE NEIGHBOUR: 'it returns false'. Refute it at one input. -/
def moveRefusesWrong : ChangeSpec := { name := "moveRefuses", fn := fun _ => fun
  | [d1, d2] => { results := [.lit (.bool false)], args := [d1, d2] }
  | _ => none }
def MoveRefusesWrongFalsely : Prop := moveRefusesRow.holds Tryz.pinned (OpenSpec.ofChange moveRefusesWrong)

/- THE SECOND FORM. 'bulk': how many values and letters a reading holds, each counted each time it is reached (what is shared counts as often as it is met; a slice's spare places count too). A statement '..UptoSaid' is the law's where the arguments, and the package variables that the reading takes, are together of bulk at most 1048576: NARROWER than '..Said'. Prove '..Said' where nothing that the law and all that it calls make is longer than what came in: it says more and counts as full. Else prove '..UptoSaid'. A law counts once. -/
mutual
def uptoBulk {H : Type} : DataW H → Nat
  | .lit (.string bytes) => bytes.length + 1
  | .lit _ => 1
  | .nil => 1
  | .ptr d => uptoBulk d + 1
  | .slice elems spare => uptoBulkAll elems + uptoBulkAll spare + 1
  | .agg parts => uptoBulkAll parts + 1
  | .iface _ d => uptoBulk d + 1
  | .map entries => uptoBulkEntries entries + 1
  | .held _ => 1
def uptoBulkAll {H : Type} : List (DataW H) → Nat
  | [] => 0
  | d :: r => uptoBulk d + uptoBulkAll r
def uptoBulkEntries {H : Type} : List (Lit × DataW H) → Nat
  | [] => 0
  | x :: r => uptoBulkEntry x + uptoBulkEntries r
def uptoBulkEntry {H : Type} : Lit × DataW H → Nat
  | (.string bytes, d) => bytes.length + uptoBulk d + 1
  | (_, d) => uptoBulk d + 1
 end
def uptoSmall : (H : Type) → List (DataW H) → Bool := fun _ ds => decide (uptoBulkAll ds ≤ 1048576)
def OpenSpec.upto (s : _root_.Go.ChangeSpec) : _root_.Go.OpenSpec := { _root_.Go.OpenSpec.ofChange s with cond := some uptoSmall }

/-- 'quadrillelaw22.MoveThere', WHERE WHAT IT READS IS OF BULK AT MOST 1048576: true; the input reads as it did. -/
def moveThereUptoRow : OpenClaim := { program := "ytdoeejhdenifpaagreatdoor", sum := "0f7502a32a4ae056ac1e0aa216a42b3ad5a27711099d3de1a17f9aa7d0d2dfdc", func := "quadrille/quadrillelaw22.MoveThere", spec := "moveThere", inPlace := ["math.Float64bits", "math.Float64frombits", "maps.clone", "internal/bytealg.abigen_runtime_cmpstring"], unfollowed := true, recurses := true, named := ["unicode/utf8.first", "unicode/utf8.acceptRanges"], loops := true, plainKeys := false, apart := false, laid := [("unicode/utf8.acceptRanges", laid_unicode_utf8_acceptRanges), ("unicode/utf8.first", laid_unicode_utf8_first)], narrowed := true }
def MoveThereUptoSaid : Prop := moveThereUptoRow.holds Tryz.pinned (OpenSpec.upto moveThereSpec)

/-- 'quadrillelaw22.MovePlays', WHERE WHAT IT READS IS OF BULK AT MOST 1048576: true; the input reads as it did. -/
def movePlaysUptoRow : OpenClaim := { program := "ytdoeejhdenifpaagreatdoor", sum := "0f7502a32a4ae056ac1e0aa216a42b3ad5a27711099d3de1a17f9aa7d0d2dfdc", func := "quadrille/quadrillelaw22.MovePlays", spec := "movePlays", inPlace := ["math.Float64bits", "math.Float64frombits", "maps.clone"], unfollowed := true, recurses := true, named := ["unicode/utf8.first", "unicode/utf8.acceptRanges"], loops := true, plainKeys := false, apart := false, laid := [("unicode/utf8.acceptRanges", laid_unicode_utf8_acceptRanges), ("unicode/utf8.first", laid_unicode_utf8_first)], narrowed := true }
def MovePlaysUptoSaid : Prop := movePlaysUptoRow.holds Tryz.pinned (OpenSpec.upto movePlaysSpec)

/-- 'quadrillelaw22.MoveApart', WHERE WHAT IT READS IS OF BULK AT MOST 1048576: true; the input reads as it did. -/
def moveApartUptoRow : OpenClaim := { program := "ytdoeejhdenifpaagreatdoor", sum := "0f7502a32a4ae056ac1e0aa216a42b3ad5a27711099d3de1a17f9aa7d0d2dfdc", func := "quadrille/quadrillelaw22.MoveApart", spec := "moveApart", inPlace := ["math.Float64bits", "math.Float64frombits", "maps.clone"], unfollowed := true, recurses := true, named := ["unicode/utf8.first", "unicode/utf8.acceptRanges"], loops := true, plainKeys := false, apart := false, laid := [("unicode/utf8.acceptRanges", laid_unicode_utf8_acceptRanges), ("unicode/utf8.first", laid_unicode_utf8_first)], narrowed := true }
def MoveApartUptoSaid : Prop := moveApartUptoRow.holds Tryz.pinned (OpenSpec.upto moveApartSpec)

/-- 'quadrillelaw22.MoveCopies', WHERE WHAT IT READS IS OF BULK AT MOST 1048576: true; the input reads as it did. -/
def moveCopiesUptoRow : OpenClaim := { program := "ytdoeejhdenifpaagreatdoor", sum := "0f7502a32a4ae056ac1e0aa216a42b3ad5a27711099d3de1a17f9aa7d0d2dfdc", func := "quadrille/quadrillelaw22.MoveCopies", spec := "moveCopies", inPlace := ["math.Float64bits", "math.Float64frombits", "maps.clone", "internal/bytealg.abigen_runtime_cmpstring"], unfollowed := true, recurses := true, named := ["unicode/utf8.first", "unicode/utf8.acceptRanges"], loops := true, plainKeys := false, apart := false, laid := [("unicode/utf8.acceptRanges", laid_unicode_utf8_acceptRanges), ("unicode/utf8.first", laid_unicode_utf8_first)], narrowed := true }
def MoveCopiesUptoSaid : Prop := moveCopiesUptoRow.holds Tryz.pinned (OpenSpec.upto moveCopiesSpec)

/-- 'quadrillelaw22.MoveRefuses', WHERE WHAT IT READS IS OF BULK AT MOST 1048576: true; the input reads as it did. -/
def moveRefusesUptoRow : OpenClaim := { program := "ytdoeejhdenifpaagreatdoor", sum := "0f7502a32a4ae056ac1e0aa216a42b3ad5a27711099d3de1a17f9aa7d0d2dfdc", func := "quadrille/quadrillelaw22.MoveRefuses", spec := "moveRefuses", inPlace := ["math.Float64bits", "math.Float64frombits", "maps.clone", "internal/bytealg.abigen_runtime_cmpstring"], unfollowed := true, recurses := true, named := ["unicode/utf8.first", "unicode/utf8.acceptRanges"], loops := true, plainKeys := false, apart := false, laid := [("unicode/utf8.acceptRanges", laid_unicode_utf8_acceptRanges), ("unicode/utf8.first", laid_unicode_utf8_first)], narrowed := true }
def MoveRefusesUptoSaid : Prop := moveRefusesUptoRow.holds Tryz.pinned (OpenSpec.upto moveRefusesSpec)

end Rows
end Go.Proofs.YtdoeejhdenifpaaGreatDoor
