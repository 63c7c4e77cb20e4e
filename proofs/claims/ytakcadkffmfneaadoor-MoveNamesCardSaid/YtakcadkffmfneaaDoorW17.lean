import Derived.Test.YtakcadkffmfneaaDoorW16
namespace Go.Proofs.YtakcadkffmfneaaDoor
open Go.RowKit Go.Sort

/-! ### fault -/
mutual
def faultT : NodeT → Bool → Int
  | .mk k op x s b f r q args, ins =>
    if madeB (.mk k op x s b f r q args) then
      if k == 5 then (if validB r.a.1 r.a.2 then faultL args (k == 9) else 20)
      else if k == 6 then (if (validB r.a.1 r.a.2 && validB q.a.1 q.a.2 && decide (r.a.1 ≤ q.a.1) && decide (r.a.2 ≤ q.a.2)) then (if ins then faultL args (k == 9) else 31) else 20)
      else if k == 9 then (if (knownF s.toList).2.2 then (if (args.length : Int) < (knownF s.toList).1 then 22 else if (knownF s.toList).2.1 < (args.length : Int) then 22 else faultL args (k == 9)) else 21)
      else faultL args (k == 9)
    else 1
def faultL : List NodeT → Bool → Int
  | [], _ => 0
  | t :: r, c => if faultT t c = 0 then faultL r c else faultT t c
end
theorem faultT_eq (t : NodeT) (ins : Bool) : faultT t ins =
    if madeB t then
      if t.kind == 5 then (if validB t.ref.a.1 t.ref.a.2 then faultL t.args (t.kind == 9) else 20)
      else if t.kind == 6 then (if (validB t.ref.a.1 t.ref.a.2 && validB t.to.a.1 t.to.a.2 && decide (t.ref.a.1 ≤ t.to.a.1) && decide (t.ref.a.2 ≤ t.to.a.2)) then (if ins then faultL t.args (t.kind == 9) else 31) else 20)
      else if t.kind == 9 then (if (knownF t.s.toList).2.2 then (if (t.args.length : Int) < (knownF t.s.toList).1 then 22 else if (knownF t.s.toList).2.1 < (t.args.length : Int) then 22 else faultL t.args (t.kind == 9)) else 21)
      else faultL t.args (t.kind == 9)
    else 1 := by cases t; rw [faultT]; rfl
def FaultIs (n : Nat) : Prop := ∀ (t : NodeT) (a : Option Addr) (cap : Nat) (ins : Bool) (w : World), t.ok → Tabs w → ArgsIn w n (.slice a t.args.length cap) t.args →
    Calls Tryd.prog 44 #[nodeV t a t.args.length cap, .bool ins] w fun e w' => e = .returned (.int .i64 (faultT t ins)) ∧ Xt w w'
end Go.Proofs.YtakcadkffmfneaaDoor
