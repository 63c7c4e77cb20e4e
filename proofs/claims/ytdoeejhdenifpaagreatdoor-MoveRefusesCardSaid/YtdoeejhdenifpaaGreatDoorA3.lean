import Derived.Test.YtdoeejhdenifpaaGreatDoorW13
import Derived.Test.YtdoeejhdenifpaaGreatDoorW14
import Derived.Test.YtdoeejhdenifpaaGreatDoorW15
namespace Go.Proofs.YtdoeejhdenifpaaGreatDoor
open Go.RowKit Go.Sort
def madeB : NodeT → Bool
 | .mk k op x s b f r q args =>
  if k = 1 then ((decide (2 < classX x) && !negX x) && (0 == (args.length : Int)) && alikeB (.mk k op x s b f r q args) (.mk 1 0 x ⟨#[]⟩ false 0 zR zR []))
  else if k = 2 then ((Lib.validD s.data.toList && decide ((s.size : Int) ≤ 1024)) && (0 == (args.length : Int)) && alikeB (.mk k op x s b f r q args) (.mk 2 0 0 s false 0 zR zR []))
  else if k = 3 then (true && (0 == (args.length : Int)) && alikeB (.mk k op x s b f r q args) (.mk 3 0 0 ⟨#[]⟩ b 0 zR zR []))
  else if k = 4 then ((decide (1 ≤ f) && decide (f ≤ 5)) && (0 == (args.length : Int)) && alikeB (.mk k op x s b f r q args) (.mk 4 0 0 ⟨#[]⟩ false f zR zR []))
  else if k = 5 then (true && (0 == (args.length : Int)) && alikeB (.mk k op x s b f r q args) (.mk 5 0 0 ⟨#[]⟩ false 0 r zR []))
  else if k = 6 then (true && (0 == (args.length : Int)) && alikeB (.mk k op x s b f r q args) (.mk 6 0 0 ⟨#[]⟩ false 0 r q []))
  else if k = 7 then ((decide (1 ≤ op) && decide (op ≤ 3)) && (1 == (args.length : Int)) && alikeB (.mk k op x s b f r q args) (.mk 7 op 0 ⟨#[]⟩ false 0 zR zR []))
  else if k = 8 then ((decide (4 ≤ op) && decide (op ≤ 15)) && (2 == (args.length : Int)) && alikeB (.mk k op x s b f r q args) (.mk 8 op 0 ⟨#[]⟩ false 0 zR zR []))
  else if k = 9 then (true && ((args.length : Int) == (args.length : Int)) && alikeB (.mk k op x s b f r q args) (.mk 9 0 0 s false 0 zR zR []))
  else false
mutual
def NodeT.ok : NodeT → Prop
 | .mk _ _ x s _ _ _ _ args => s.size < 4611686018427387904 ∧ x < 18446744073709551616 ∧ okL args
def okL : List NodeT → Prop
 | [] => True
 | t :: r => t.ok ∧ okL r
end
theorem okL_at : ∀ {l : List NodeT} {k : Nat} {t : NodeT}, okL l → l[k]? = some t → t.ok
 | _ :: _, 0, _, h, e => by simp only [okL] at h; cases e; exact h.1
 | _ :: _, k + 1, _, h, e => by simp only [okL] at h; exact okL_at (k := k) h.2 e
theorem NodeT.ok_sz {t : NodeT} (h : t.ok) : t.s.size < 4611686018427387904 := by cases t; simp only [NodeT.ok] at h; exact h.1
theorem NodeT.ok_s {t : NodeT} (h : t.ok) : t.s.size ≤ 9223372036854775807 := by have := NodeT.ok_sz h; omega
theorem NodeT.ok_args {t : NodeT} (h : t.ok) : okL t.args := by cases t; simp only [NodeT.ok] at h; exact h.2.2
set_option maxRecDepth 100000 in
set_option maxHeartbeats 4000000 in
theorem made_none (k op : Int) (x : Nat) (s : ByteArray) (b : Bool) (f : Int) (r q : RefT) (args : List NodeT) (a : Option Addr) (cap : Nat) (w : World) (h : ¬ (1 ≤ k ∧ k ≤ 9)) :
    Calls Tryz.prog 160 #[nodeW k op x s b f r q a args.length cap] w fun e w' => e = .returned (.bool false) ∧ Xt w w' := by
 obtain ⟨w0, hw0, hg0, hs0, hN⟩ := boxN w (.mk k op x s b f r q args) a args.length cap 49
 simp only [NodeT.kind, NodeT.op, NodeT.x, NodeT.s, NodeT.b, NodeT.f, NodeT.ref, NodeT.to] at hw0
 have c0 := hN.c0
 simp only [NodeT.kind] at c0
 have HG := Lib.hid hg0
 clear hg0 hN
 have e1 : (k == 1) = false := by simp; omega
 have e2 : (k == 2) = false := by simp; omega
 have e3 : (k == 3) = false := by simp; omega
 have e4 : (k == 4) = false := by simp; omega
 have e5 : (k == 5) = false := by simp; omega
 have e6 : (k == 6) = false := by simp; omega
 have e7 : (k == 7) = false := by simp; omega
 have e8 : (k == 8) = false := by simp; omega
 have e9 : (k == 9) = false := by simp; omega
 clear h
 go_enter Tryz.func160, Tryz.ntmps160
 go_wp2_with fail
 go_ret
 exact ⟨rfl, (HG.out.alloc _).xt⟩
theorem made_any (t : NodeT) (a : Option Addr) (cap : Nat) (w : World) (hk : t.ok) (hT : Tabs w) :
    Calls Tryz.prog 160 #[nodeV t a t.args.length cap] w fun e w' => e = .returned (.bool (madeB t)) ∧ Xt w w' := by
 have hs := NodeT.ok_s hk
 clear hk
 obtain ⟨k, op, x, s, b, f, r, q, args⟩ := t
 simp only [NodeT.s] at hs
 show Calls Tryz.prog 160 #[nodeW k op x s b f r q a args.length cap] w _
 unfold madeB
 by_cases h1 : k = 1
 · subst h1
   simp only [reduceIte, Int.reduceEq]
   exact made_1 op x s b f r q args a cap w
 by_cases h2 : k = 2
 · subst h2
   simp only [reduceIte, Int.reduceEq]
   exact made_2 op x s b f r q args a cap w hs hT
 by_cases h3 : k = 3
 · subst h3
   simp only [reduceIte, Int.reduceEq]
   exact made_3 op x s b f r q args a cap w
 by_cases h4 : k = 4
 · subst h4
   simp only [reduceIte, Int.reduceEq]
   exact made_4 op x s b f r q args a cap w
 by_cases h5 : k = 5
 · subst h5
   simp only [reduceIte, Int.reduceEq]
   exact made_5 op x s b f r q args a cap w
 by_cases h6 : k = 6
 · subst h6
   simp only [reduceIte, Int.reduceEq]
   exact made_6 op x s b f r q args a cap w
 by_cases h7 : k = 7
 · subst h7
   simp only [reduceIte, Int.reduceEq]
   exact made_7 op x s b f r q args a cap w
 by_cases h8 : k = 8
 · subst h8
   simp only [reduceIte, Int.reduceEq]
   exact made_8 op x s b f r q args a cap w
 by_cases h9 : k = 9
 · subst h9
   simp only [reduceIte, Int.reduceEq]
   exact made_9 op x s b f r q args a cap w
 simp only [h1, h2, h3, h4, h5, h6, h7, h8, h9, if_false]
 exact made_none k op x s b f r q args a cap w (by omega)
end Go.Proofs.YtdoeejhdenifpaaGreatDoor
namespace Go.Proofs.YtdoeejhdenifpaaGreatDoor
open Go.RowKit Go.Sort
mutual
def faultT : NodeT → Bool → Int
 | .mk k op x s b f r q args, ins =>
  if madeB (.mk k op x s b f r q args) then
   if k == 5 then (if validB r.a.1 r.a.2 then faultL args (k == 9) else 20)
   else if k == 6 then (if (validB r.a.1 r.a.2 && validB q.a.1 q.a.2 && decide (r.a.1 ≤ q.a.1) && decide (r.a.2 ≤ q.a.2)) then (if ins then faultL args (k == 9) else 31) else 20)
   else if k == 9 then (if (knownF s.toList).2.2 then (if (args.length : Int) < (knownF s.toList).1 then 22 else if (knownF s.toList).2.1 < (args.length : Int) then 22 else faultL args (k == 9)) else 21)
   else faultL args (k == 9)
  else 1
def faultL : List NodeT → Bool → Int
 | [], _ => 0
 | t :: r, c => if faultT t c = 0 then faultL r c else faultT t c
end
theorem faultT_eq (t : NodeT) (ins : Bool) : faultT t ins =
    if madeB t then
     if t.kind == 5 then (if validB t.ref.a.1 t.ref.a.2 then faultL t.args (t.kind == 9) else 20)
     else if t.kind == 6 then (if (validB t.ref.a.1 t.ref.a.2 && validB t.to.a.1 t.to.a.2 && decide (t.ref.a.1 ≤ t.to.a.1) && decide (t.ref.a.2 ≤ t.to.a.2)) then (if ins then faultL t.args (t.kind == 9) else 31) else 20)
     else if t.kind == 9 then (if (knownF t.s.toList).2.2 then (if (t.args.length : Int) < (knownF t.s.toList).1 then 22 else if (knownF t.s.toList).2.1 < (t.args.length : Int) then 22 else faultL t.args (t.kind == 9)) else 21)
     else faultL t.args (t.kind == 9)
    else 1 := by cases t; rw [faultT]; rfl
def FaultIs (n : Nat) : Prop := ∀ (t : NodeT) (a : Option Addr) (cap : Nat) (ins : Bool) (w : World), t.ok → Tabs w → ArgsIn w n (.slice a t.args.length cap) t.args →
    Calls Tryz.prog 135 #[nodeV t a t.args.length cap, .bool ins] w fun e w' => e = .returned (.int .i64 (faultT t ins)) ∧ Xt w w'
end Go.Proofs.YtdoeejhdenifpaaGreatDoor
