/- move.Move's walk (made by mkr6.py). -/
import Derived.Test.YtdoeejhdenifpaaGreatDoorR5
import Derived.Test.YtdoeejhdenifpaaGreatDoorM9
namespace Go.Proofs.YtdoeejhdenifpaaGreatDoor
open Go.RowKit Go.Sort Go.Maps Go.Shelf Go.MapKept
attribute [local go_sem] Oper.semAt_some
structure MI (W0 : World) (go mo : Nat) (cG : Ad → Ad × Bool) (aG : ArT → ArT × Bool) (pre : List TE) (W : World) : Prop where
 grown : W0.grownBy W (some mo)
 out : ∃ Mo, GridIs W go mo Mo ∧ er Mo = goAll cG aG (pre.map tpT)
theorem MI.own {W0 : World} {go mo : Nat} {cG : Ad → Ad × Bool} {aG : ArT → ArT × Bool} (hm : mo < W0.heap.size) : OwnFrom W0.heap.size (fun pre W => MI W0 go mo cG aG pre W) := fun s X Y row hs hg hr => by
 obtain ⟨h1, ⟨Mo, h2, h3⟩⟩ := hs
 exact ⟨grownBy_far h1 hg (fun r e => (hr r e).1), ⟨Mo, h2.kept (cellsIn_walk hg (fun r e => (hr r e).2)) (hg.block mo (by have := h1.size; omega) (fun e => by have := (hr mo e.symm).1; omega)), h3⟩⟩
theorem MI.start {W0 : World} {go mo : Nat} {cG : Ad → Ad × Bool} {aG : ArT → ArT × Bool} (h : GridIs W0 go mo []) : MI W0 go mo cG aG [] W0 := ⟨⟨rfl, rfl, rfl, Nat.le_refl _, fun _ _ _ => rfl⟩, ⟨[], h, rfl⟩⟩
theorem MI.xt {W0 W W' : World} {go mo : Nat} {cG : Ad → Ad × Bool} {aG : ArT → ArT × Bool} {pre : List TE} (h : MI W0 go mo cG aG pre W) (hx : Xt W W') : MI W0 go mo cG aG pre W' :=
 ⟨grownBy_far h.grown hx.grownN (fun r e => by cases e), let ⟨Mo, h2, h3⟩ := h.out; ⟨Mo, h2.xt hx, h3⟩⟩
def farC (f : ArT) (g : Ad) : Int := wrap64 (g.1 - f.a)
def farR (f : ArT) (g : Ad) : Int := wrap64 (g.2 - f.b)
end Go.Proofs.YtdoeejhdenifpaaGreatDoor
