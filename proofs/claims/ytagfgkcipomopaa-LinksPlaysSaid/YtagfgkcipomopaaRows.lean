/-
  No cell of these rows narrows 'for every input' (looked for: loops, veiled, ifaces, maps, wideKeys, modest, calm, conditions, laid).
  DERIVED. THE GIVEN ROWS OF THIS SEAT. 6 by the template 'for every input the law returns true; each argument reads behind the call as it read before'; 0 by the template 'total and deterministic' (their statements: YtagfgkcipomopaaTotals.lean).
  GIVEN WITH THE SEED: the statements are not yours to turn. If you find one false, say at which input.
  Laid BY PROGRAM, IN A SANDBOX (cutbox-rows.mjs): the forced cells as the released guide's own fill.sh prints them over the translation 438eb3dc5588ac3f… (all of the seat's roots in one cut). By AI agents, Wed Nov 11 2026. No macro, syntax, notation, axiom, sorry.
-/
import Derived.Test.YtagfgkcipomopaaChecked
import GoSem.Claim
import GoSem.ClaimJoined
import GoSem.ClaimMapViews
import Derived.JoinedTies
import Derived.KernelRfl
namespace Go.Proofs.Ytagfgkcipomopaa
/- THE CELL 'sum', in the pinned program and in every row, IS THE sha256 OF THE DUMP (.gsa) THAT YtagfgkcipomopaaProg.lean LOADS. Nothing in Lean hashes anything: it is a label: what it is worth is what the hold of that sum in a sandbox is worth. -/
noncomputable def Try.pinned : Pinned := { name := "ytagfgkcipomopaa", sum := "438eb3dc5588ac3fdea43bd300cedb29c8895fffe7deae1e892b5e40dacb136f", checked := Try.checked }
namespace Rows
def none {H : Type} : Left H := { results := [], args := [] }

/-- 'quadrillelaw18.LinksOrders': WHATEVER THE INPUT: true; the input reads as it did. -/
def linksOrdersSpec : ChangeSpec := { name := "linksOrders", fn := fun _ => fun
  | [d1, d2, d3] => { results := [.lit (.bool true)], args := [d1, d2, d3] }
  | _ => none }
def linksOrdersRow : OpenClaim := { program := "ytagfgkcipomopaa", sum := "438eb3dc5588ac3fdea43bd300cedb29c8895fffe7deae1e892b5e40dacb136f", func := "quadrille/quadrillelaw18.LinksOrders", spec := "linksOrders", unfollowed := true, recurses := true, plainKeys := false, apart := false }
def LinksOrdersSaid : Prop := linksOrdersRow.holds Try.pinned (OpenSpec.ofChange linksOrdersSpec)

/-- ITS FALSE NEIGHBOUR: 'it returns false'. Refute it at one input. -/
def linksOrdersWrong : ChangeSpec := { name := "linksOrders", fn := fun _ => fun
  | [d1, d2, d3] => { results := [.lit (.bool false)], args := [d1, d2, d3] }
  | _ => none }
def LinksOrdersWrongFalsely : Prop := linksOrdersRow.holds Try.pinned (OpenSpec.ofChange linksOrdersWrong)

/-- 'quadrillelaw18.LinksFull': WHATEVER THE INPUT: true; the input reads as it did. -/
def linksFullSpec : ChangeSpec := { name := "linksFull", fn := fun _ => fun
  | [d1, d2] => { results := [.lit (.bool true)], args := [d1, d2] }
  | _ => none }
def linksFullRow : OpenClaim := { program := "ytagfgkcipomopaa", sum := "438eb3dc5588ac3fdea43bd300cedb29c8895fffe7deae1e892b5e40dacb136f", func := "quadrille/quadrillelaw18.LinksFull", spec := "linksFull", unfollowed := true, recurses := true, plainKeys := false, apart := false }
def LinksFullSaid : Prop := linksFullRow.holds Try.pinned (OpenSpec.ofChange linksFullSpec)

/-- ITS FALSE NEIGHBOUR: 'it returns false'. Refute it at one input. -/
def linksFullWrong : ChangeSpec := { name := "linksFull", fn := fun _ => fun
  | [d1, d2] => { results := [.lit (.bool false)], args := [d1, d2] }
  | _ => none }
def LinksFullWrongFalsely : Prop := linksFullRow.holds Try.pinned (OpenSpec.ofChange linksFullWrong)

/-- 'quadrillelaw18.LinksCircles': WHATEVER THE INPUT: true; the input reads as it did. -/
def linksCirclesSpec : ChangeSpec := { name := "linksCircles", fn := fun _ => fun
  | [d] => { results := [.lit (.bool true)], args := [d] }
  | _ => none }
def linksCirclesRow : OpenClaim := { program := "ytagfgkcipomopaa", sum := "438eb3dc5588ac3fdea43bd300cedb29c8895fffe7deae1e892b5e40dacb136f", func := "quadrille/quadrillelaw18.LinksCircles", spec := "linksCircles", unfollowed := true, recurses := true, plainKeys := false, apart := false }
def LinksCirclesSaid : Prop := linksCirclesRow.holds Try.pinned (OpenSpec.ofChange linksCirclesSpec)

/-- ITS FALSE NEIGHBOUR: 'it returns false'. Refute it at one input. -/
def linksCirclesWrong : ChangeSpec := { name := "linksCircles", fn := fun _ => fun
  | [d] => { results := [.lit (.bool false)], args := [d] }
  | _ => none }
def LinksCirclesWrongFalsely : Prop := linksCirclesRow.holds Try.pinned (OpenSpec.ofChange linksCirclesWrong)

/-- 'quadrillelaw18.LinksHang': WHATEVER THE INPUT: true; the input reads as it did. -/
def linksHangSpec : ChangeSpec := { name := "linksHang", fn := fun _ => fun
  | [d1, d2] => { results := [.lit (.bool true)], args := [d1, d2] }
  | _ => none }
def linksHangRow : OpenClaim := { program := "ytagfgkcipomopaa", sum := "438eb3dc5588ac3fdea43bd300cedb29c8895fffe7deae1e892b5e40dacb136f", func := "quadrille/quadrillelaw18.LinksHang", spec := "linksHang", unfollowed := true, recurses := true, plainKeys := false, apart := false }
def LinksHangSaid : Prop := linksHangRow.holds Try.pinned (OpenSpec.ofChange linksHangSpec)

/-- ITS FALSE NEIGHBOUR: 'it returns false'. Refute it at one input. -/
def linksHangWrong : ChangeSpec := { name := "linksHang", fn := fun _ => fun
  | [d1, d2] => { results := [.lit (.bool false)], args := [d1, d2] }
  | _ => none }
def LinksHangWrongFalsely : Prop := linksHangRow.holds Try.pinned (OpenSpec.ofChange linksHangWrong)

/-- 'quadrillelaw18.LinksPlays': WHATEVER THE INPUT: true; the input reads as it did. -/
def linksPlaysSpec : ChangeSpec := { name := "linksPlays", fn := fun _ => fun
  | [d] => { results := [.lit (.bool true)], args := [d] }
  | _ => none }
def linksPlaysRow : OpenClaim := { program := "ytagfgkcipomopaa", sum := "438eb3dc5588ac3fdea43bd300cedb29c8895fffe7deae1e892b5e40dacb136f", func := "quadrille/quadrillelaw18.LinksPlays", spec := "linksPlays", unfollowed := true, recurses := true, plainKeys := false, apart := false }
def LinksPlaysSaid : Prop := linksPlaysRow.holds Try.pinned (OpenSpec.ofChange linksPlaysSpec)

/-- ITS FALSE NEIGHBOUR: 'it returns false'. Refute it at one input. -/
def linksPlaysWrong : ChangeSpec := { name := "linksPlays", fn := fun _ => fun
  | [d] => { results := [.lit (.bool false)], args := [d] }
  | _ => none }
def LinksPlaysWrongFalsely : Prop := linksPlaysRow.holds Try.pinned (OpenSpec.ofChange linksPlaysWrong)

/-- 'quadrillelaw18.LinksNil': WHATEVER THE INPUT: true; the input reads as it did. -/
def linksNilSpec : ChangeSpec := { name := "linksNil", fn := fun _ => fun
  | [d1, d2] => { results := [.lit (.bool true)], args := [d1, d2] }
  | _ => none }
def linksNilRow : OpenClaim := { program := "ytagfgkcipomopaa", sum := "438eb3dc5588ac3fdea43bd300cedb29c8895fffe7deae1e892b5e40dacb136f", func := "quadrille/quadrillelaw18.LinksNil", spec := "linksNil", unfollowed := true, recurses := true, plainKeys := false, apart := false }
def LinksNilSaid : Prop := linksNilRow.holds Try.pinned (OpenSpec.ofChange linksNilSpec)

/-- ITS FALSE NEIGHBOUR: 'it returns false'. Refute it at one input. -/
def linksNilWrong : ChangeSpec := { name := "linksNil", fn := fun _ => fun
  | [d1, d2] => { results := [.lit (.bool false)], args := [d1, d2] }
  | _ => none }
def LinksNilWrongFalsely : Prop := linksNilRow.holds Try.pinned (OpenSpec.ofChange linksNilWrong)

/- THE SECOND FORM. 'bulk': how many values and letters a reading holds, each counted each time it is reached (what is shared counts as often as it is met; a slice's spare places count too). A statement '..UptoSaid' is the law's where the arguments, and the package variables that the reading takes, are together of bulk at most 1048576: NARROWER than '..Said'. Prove '..Said' where nothing that the law and all that it calls make is longer than what came in: it says more and counts as full. Else prove '..UptoSaid'. A law counts once. -/
mutual
def uptoBulk {H : Type} : DataW H → Nat
  | .lit (.string bytes) => bytes.length + 1
  | .lit _ => 1
  | .nil => 1
  | .ptr d => uptoBulk d + 1
  | .slice elems spare => uptoBulkAll elems + uptoBulkAll spare + 1
  | .agg parts => uptoBulkAll parts + 1
  | .iface _ d => uptoBulk d + 1
  | .map entries => uptoBulkEntries entries + 1
  | .held _ => 1
def uptoBulkAll {H : Type} : List (DataW H) → Nat
  | [] => 0
  | d :: r => uptoBulk d + uptoBulkAll r
def uptoBulkEntries {H : Type} : List (Lit × DataW H) → Nat
  | [] => 0
  | x :: r => uptoBulkEntry x + uptoBulkEntries r
def uptoBulkEntry {H : Type} : Lit × DataW H → Nat
  | (.string bytes, d) => bytes.length + uptoBulk d + 1
  | (_, d) => uptoBulk d + 1
 end
def uptoSmall : (H : Type) → List (DataW H) → Bool := fun _ ds => decide (uptoBulkAll ds ≤ 1048576)
def OpenSpec.upto (s : _root_.Go.ChangeSpec) : _root_.Go.OpenSpec := { _root_.Go.OpenSpec.ofChange s with cond := some uptoSmall }

/-- 'quadrillelaw18.LinksOrders', WHERE WHAT IT READS IS OF BULK AT MOST 1048576: true; the input reads as it did. -/
def linksOrdersUptoRow : OpenClaim := { program := "ytagfgkcipomopaa", sum := "438eb3dc5588ac3fdea43bd300cedb29c8895fffe7deae1e892b5e40dacb136f", func := "quadrille/quadrillelaw18.LinksOrders", spec := "linksOrders", unfollowed := true, recurses := true, plainKeys := false, apart := false, narrowed := true }
def LinksOrdersUptoSaid : Prop := linksOrdersUptoRow.holds Try.pinned (OpenSpec.upto linksOrdersSpec)

/-- 'quadrillelaw18.LinksFull', WHERE WHAT IT READS IS OF BULK AT MOST 1048576: true; the input reads as it did. -/
def linksFullUptoRow : OpenClaim := { program := "ytagfgkcipomopaa", sum := "438eb3dc5588ac3fdea43bd300cedb29c8895fffe7deae1e892b5e40dacb136f", func := "quadrille/quadrillelaw18.LinksFull", spec := "linksFull", unfollowed := true, recurses := true, plainKeys := false, apart := false, narrowed := true }
def LinksFullUptoSaid : Prop := linksFullUptoRow.holds Try.pinned (OpenSpec.upto linksFullSpec)

/-- 'quadrillelaw18.LinksCircles', WHERE WHAT IT READS IS OF BULK AT MOST 1048576: true; the input reads as it did. -/
def linksCirclesUptoRow : OpenClaim := { program := "ytagfgkcipomopaa", sum := "438eb3dc5588ac3fdea43bd300cedb29c8895fffe7deae1e892b5e40dacb136f", func := "quadrille/quadrillelaw18.LinksCircles", spec := "linksCircles", unfollowed := true, recurses := true, plainKeys := false, apart := false, narrowed := true }
def LinksCirclesUptoSaid : Prop := linksCirclesUptoRow.holds Try.pinned (OpenSpec.upto linksCirclesSpec)

/-- 'quadrillelaw18.LinksHang', WHERE WHAT IT READS IS OF BULK AT MOST 1048576: true; the input reads as it did. -/
def linksHangUptoRow : OpenClaim := { program := "ytagfgkcipomopaa", sum := "438eb3dc5588ac3fdea43bd300cedb29c8895fffe7deae1e892b5e40dacb136f", func := "quadrille/quadrillelaw18.LinksHang", spec := "linksHang", unfollowed := true, recurses := true, plainKeys := false, apart := false, narrowed := true }
def LinksHangUptoSaid : Prop := linksHangUptoRow.holds Try.pinned (OpenSpec.upto linksHangSpec)

/-- 'quadrillelaw18.LinksPlays', WHERE WHAT IT READS IS OF BULK AT MOST 1048576: true; the input reads as it did. -/
def linksPlaysUptoRow : OpenClaim := { program := "ytagfgkcipomopaa", sum := "438eb3dc5588ac3fdea43bd300cedb29c8895fffe7deae1e892b5e40dacb136f", func := "quadrille/quadrillelaw18.LinksPlays", spec := "linksPlays", unfollowed := true, recurses := true, plainKeys := false, apart := false, narrowed := true }
def LinksPlaysUptoSaid : Prop := linksPlaysUptoRow.holds Try.pinned (OpenSpec.upto linksPlaysSpec)

/-- 'quadrillelaw18.LinksNil', WHERE WHAT IT READS IS OF BULK AT MOST 1048576: true; the input reads as it did. -/
def linksNilUptoRow : OpenClaim := { program := "ytagfgkcipomopaa", sum := "438eb3dc5588ac3fdea43bd300cedb29c8895fffe7deae1e892b5e40dacb136f", func := "quadrille/quadrillelaw18.LinksNil", spec := "linksNil", unfollowed := true, recurses := true, plainKeys := false, apart := false, narrowed := true }
def LinksNilUptoSaid : Prop := linksNilUptoRow.holds Try.pinned (OpenSpec.upto linksNilSpec)

end Rows
end Go.Proofs.Ytagfgkcipomopaa
