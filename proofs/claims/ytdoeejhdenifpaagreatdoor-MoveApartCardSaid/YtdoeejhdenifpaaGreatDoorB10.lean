import Derived.Test.YtdoeejhdenifpaaGreatDoorB8
import Derived.Test.YtdoeejhdenifpaaGreatDoorB9
set_option maxRecDepth 100000
set_option maxHeartbeats 16000000
namespace Go.Proofs.YtdoeejhdenifpaaGreatDoor
section
open Go.RowKit Go.Sort
theorem made_7 (op : Int) (x : Nat) (s : ByteArray) (b : Bool) (f : Int) (r q : RefT) (args : List NodeT) (a : Option Addr) (cap : Nat) (w : World) :
    Calls Tryz.prog 160 #[ygO 7 op x s b f r q a args.length cap] w fun e w' => e = .returned (.bool ((decide (1 <= op) && decide (op <= 3)) && (1 == (args.length : Int)) && zmd (.mk 7 op x s b f r q args) (.mk 7 op 0 ⟨#[]⟩ false 0 zR zR []))) /\ Xt w w' := by
 obtain ⟨w0, hw0, hg0, hs0, hN⟩ := boxN w (.mk 7 op x s b f r q args) a args.length cap 49;obtain ⟨w1, hw1, hg1, hs1, hM⟩ := boxN w0 (.mk 7 op 0 ⟨#[]⟩ false 0 zR zR []) none 0 0 49;simp only [NodeT.kind, NodeT.op, NodeT.x, NodeT.s, NodeT.b, NodeT.f, NodeT.ref, NodeT.to] at hw0 hw1;rw [hs0] at hs1 hM;obtain ⟨k0, k1, k2, k3, k4, k5, k6, k7, k8, k9, k10, k11, k12, k13, k14⟩ := hN;simp only [Nat.zero_add, NodeT.kind, NodeT.op, NodeT.x, NodeT.s, NodeT.b, NodeT.f, NodeT.ref, NodeT.to] at k0 k1 k2 k3 k4 k5 k6 k7 k8 k9 k10 k11 k12 k13 k14
 have hN : NodeAt w1 w.heap.size 0 (.mk 7 op x s b f r q args) a args.length cap := NodeAt.xt ⟨k0, k1, k2, k3, k4, k5, k6, k7, k8, k9, k10, k11, k12, k13, k14⟩ hg1.xt;have HG := h_ (hg0.trans hg1);have HAL := h_ (ybN (.mk 7 op x s b f r q args) (.mk 7 op 0 ⟨#[]⟩ false 0 zR zR []) a none cap 0);generalize hn : zmd (.mk 7 op x s b f r q args) (.mk 7 op 0 ⟨#[]⟩ false 0 zR zR []) = al at HAL ⊢;clear hn hg0 hg1;have HNM := h_ (And.intro hN hM);obtain ⟨c0, c1, c2, c3, c4, c5, c6, c7, c8, c9, c10, c11, c12, c13, c14⟩ := hN;obtain ⟨d0, d1, d2, d3, d4, d5, d6, d7, d8, d9, d10, d11, d12, d13, d14⟩ := hM
 simp only [Nat.zero_add, NodeT.kind, NodeT.op, NodeT.x, NodeT.s, NodeT.b, NodeT.f, NodeT.ref, NodeT.to] at c0 c1 c2 c3 c4 c5 c6 c7 c8 c9 c10 c11 c12 c13 c14 d0 d1 d2 d3 d4 d5 d6 d7 d8 d9 d10 d11 d12 d13 d14;generalize hl : (1 == (args.length : Int)) = lb;cases lb
 all_goals
  go_enter Tryz.func160, Tryz.ntmps160;go_wp2_with (first | (go_at_call 83; refine (HAL.out _).mono ?_; rintro e w2 ⟨rfl, hg2⟩; have HG2 := h_ hg2; clear hg2))
  all_goals (go_ret; refine ⟨?_, by first | exact (HG.out.xt) | exact Xt.trans (HG.out.xt) HG2.out.xt | exact Xt.trans (Xt.drew HG.out.xt) HG2.out.xt⟩; first | (simp [*]; done) | (simp [*]; omega) | (simp [*]; intros; exfalso; omega))
theorem made_8 (op : Int) (x : Nat) (s : ByteArray) (b : Bool) (f : Int) (r q : RefT) (args : List NodeT) (a : Option Addr) (cap : Nat) (w : World) :
    Calls Tryz.prog 160 #[ygO 8 op x s b f r q a args.length cap] w fun e w' => e = .returned (.bool ((decide (4 <= op) && decide (op <= 15)) && (2 == (args.length : Int)) && zmd (.mk 8 op x s b f r q args) (.mk 8 op 0 ⟨#[]⟩ false 0 zR zR []))) /\ Xt w w' := by
 obtain ⟨w0, hw0, hg0, hs0, hN⟩ := boxN w (.mk 8 op x s b f r q args) a args.length cap 49;obtain ⟨w1, hw1, hg1, hs1, hM⟩ := boxN w0 (.mk 8 op 0 ⟨#[]⟩ false 0 zR zR []) none 0 0 49;simp only [NodeT.kind, NodeT.op, NodeT.x, NodeT.s, NodeT.b, NodeT.f, NodeT.ref, NodeT.to] at hw0 hw1;rw [hs0] at hs1 hM;obtain ⟨k0, k1, k2, k3, k4, k5, k6, k7, k8, k9, k10, k11, k12, k13, k14⟩ := hN;simp only [Nat.zero_add, NodeT.kind, NodeT.op, NodeT.x, NodeT.s, NodeT.b, NodeT.f, NodeT.ref, NodeT.to] at k0 k1 k2 k3 k4 k5 k6 k7 k8 k9 k10 k11 k12 k13 k14
 have hN : NodeAt w1 w.heap.size 0 (.mk 8 op x s b f r q args) a args.length cap := NodeAt.xt ⟨k0, k1, k2, k3, k4, k5, k6, k7, k8, k9, k10, k11, k12, k13, k14⟩ hg1.xt;have HG := h_ (hg0.trans hg1);have HAL := h_ (ybN (.mk 8 op x s b f r q args) (.mk 8 op 0 ⟨#[]⟩ false 0 zR zR []) a none cap 0);generalize hn : zmd (.mk 8 op x s b f r q args) (.mk 8 op 0 ⟨#[]⟩ false 0 zR zR []) = al at HAL ⊢;clear hn hg0 hg1;have HNM := h_ (And.intro hN hM);obtain ⟨c0, c1, c2, c3, c4, c5, c6, c7, c8, c9, c10, c11, c12, c13, c14⟩ := hN;obtain ⟨d0, d1, d2, d3, d4, d5, d6, d7, d8, d9, d10, d11, d12, d13, d14⟩ := hM
 simp only [Nat.zero_add, NodeT.kind, NodeT.op, NodeT.x, NodeT.s, NodeT.b, NodeT.f, NodeT.ref, NodeT.to] at c0 c1 c2 c3 c4 c5 c6 c7 c8 c9 c10 c11 c12 c13 c14 d0 d1 d2 d3 d4 d5 d6 d7 d8 d9 d10 d11 d12 d13 d14;generalize hl : (2 == (args.length : Int)) = lb;cases lb
 all_goals
  go_enter Tryz.func160, Tryz.ntmps160;go_wp2_with (first | (go_at_call 83; refine (HAL.out _).mono ?_; rintro e w2 ⟨rfl, hg2⟩; have HG2 := h_ hg2; clear hg2))
  all_goals (go_ret; refine ⟨?_, by first | exact (HG.out.xt) | exact Xt.trans (HG.out.xt) HG2.out.xt | exact Xt.trans (Xt.drew HG.out.xt) HG2.out.xt⟩; first | (simp [*]; done) | (simp [*]; omega) | (simp [*]; intros; exfalso; omega))
theorem made_9 (op : Int) (x : Nat) (s : ByteArray) (b : Bool) (f : Int) (r q : RefT) (args : List NodeT) (a : Option Addr) (cap : Nat) (w : World) :
    Calls Tryz.prog 160 #[ygO 9 op x s b f r q a args.length cap] w fun e w' => e = .returned (.bool (true && ((args.length : Int) == (args.length : Int)) && zmd (.mk 9 op x s b f r q args) (.mk 9 0 0 s false 0 zR zR []))) /\ Xt w w' := by
 obtain ⟨w0, hw0, hg0, hs0, hN⟩ := boxN w (.mk 9 op x s b f r q args) a args.length cap 49;obtain ⟨w1, hw1, hg1, hs1, hM⟩ := boxN w0 (.mk 9 0 0 s false 0 zR zR []) none 0 0 49;simp only [NodeT.kind, NodeT.op, NodeT.x, NodeT.s, NodeT.b, NodeT.f, NodeT.ref, NodeT.to] at hw0 hw1;rw [hs0] at hs1 hM;obtain ⟨k0, k1, k2, k3, k4, k5, k6, k7, k8, k9, k10, k11, k12, k13, k14⟩ := hN;simp only [Nat.zero_add, NodeT.kind, NodeT.op, NodeT.x, NodeT.s, NodeT.b, NodeT.f, NodeT.ref, NodeT.to] at k0 k1 k2 k3 k4 k5 k6 k7 k8 k9 k10 k11 k12 k13 k14;have hN : NodeAt w1 w.heap.size 0 (.mk 9 op x s b f r q args) a args.length cap := NodeAt.xt ⟨k0, k1, k2, k3, k4, k5, k6, k7, k8, k9, k10, k11, k12, k13, k14⟩ hg1.xt
 have HG := h_ (hg0.trans hg1);have HAL := h_ (ybN (.mk 9 op x s b f r q args) (.mk 9 0 0 s false 0 zR zR []) a none cap 0);generalize hn : zmd (.mk 9 op x s b f r q args) (.mk 9 0 0 s false 0 zR zR []) = al at HAL ⊢;clear hn hg0 hg1;have HNM := h_ (And.intro hN hM);obtain ⟨c0, c1, c2, c3, c4, c5, c6, c7, c8, c9, c10, c11, c12, c13, c14⟩ := hN;obtain ⟨d0, d1, d2, d3, d4, d5, d6, d7, d8, d9, d10, d11, d12, d13, d14⟩ := hM;simp only [Nat.zero_add, NodeT.kind, NodeT.op, NodeT.x, NodeT.s, NodeT.b, NodeT.f, NodeT.ref, NodeT.to] at c0 c1 c2 c3 c4 c5 c6 c7 c8 c9 c10 c11 c12 c13 c14 d0 d1 d2 d3 d4 d5 d6 d7 d8 d9 d10 d11 d12 d13 d14
 have hl : ((args.length : Int) == (args.length : Int)) = true := (by simp);rw [hl]
 all_goals
  go_enter Tryz.func160, Tryz.ntmps160;go_wp2_with fail
  go_region
  all_goals
   go_wp2_with (first | (go_at_call 83; refine (HAL.out _).mono ?_; rintro e w2 ⟨rfl, hg2⟩; have HG2 := h_ hg2; clear hg2))
   all_goals (go_ret; refine ⟨?_, by first | exact (HG.out.xt) | exact Xt.trans (HG.out.xt) HG2.out.xt | exact Xt.trans (Xt.drew HG.out.xt) HG2.out.xt⟩; first | (simp [*]; done) | (simp [*]; omega) | (simp [*]; intros; exfalso; omega))
def zGb : NodeT -> Bool
 | .mk k op x s b f r q args =>
  if k = 1 then ((decide (2 < j2G x) && !negX x) && (0 == (args.length : Int)) && zmd (.mk k op x s b f r q args) (.mk 1 0 x ⟨#[]⟩ false 0 zR zR []))
  else if k = 2 then ((Lib.validD s.data.toList && decide ((s.size : Int) <= 1024)) && (0 == (args.length : Int)) && zmd (.mk k op x s b f r q args) (.mk 2 0 0 s false 0 zR zR []))
  else if k = 3 then (true && (0 == (args.length : Int)) && zmd (.mk k op x s b f r q args) (.mk 3 0 0 ⟨#[]⟩ b 0 zR zR []))
  else if k = 4 then ((decide (1 <= f) && decide (f <= 5)) && (0 == (args.length : Int)) && zmd (.mk k op x s b f r q args) (.mk 4 0 0 ⟨#[]⟩ false f zR zR []))
  else if k = 5 then (true && (0 == (args.length : Int)) && zmd (.mk k op x s b f r q args) (.mk 5 0 0 ⟨#[]⟩ false 0 r zR []))
  else if k = 6 then (true && (0 == (args.length : Int)) && zmd (.mk k op x s b f r q args) (.mk 6 0 0 ⟨#[]⟩ false 0 r q []))
  else if k = 7 then ((decide (1 <= op) && decide (op <= 3)) && (1 == (args.length : Int)) && zmd (.mk k op x s b f r q args) (.mk 7 op 0 ⟨#[]⟩ false 0 zR zR []))
  else if k = 8 then ((decide (4 <= op) && decide (op <= 15)) && (2 == (args.length : Int)) && zmd (.mk k op x s b f r q args) (.mk 8 op 0 ⟨#[]⟩ false 0 zR zR []))
  else if k = 9 then (true && ((args.length : Int) == (args.length : Int)) && zmd (.mk k op x s b f r q args) (.mk 9 0 0 s false 0 zR zR []))
  else false
mutual
def NodeT.ok : NodeT -> Prop
 | .mk _ _ x s _ _ _ _ args => s.size < 4611686018427387904 /\ x < 18446744073709551616 /\ okL args
def okL : List NodeT -> Prop
 | [] => True
 | t :: r => t.ok /\ okL r
end
theorem yQB : ∀ {l : List NodeT} {k : Nat} {t : NodeT}, okL l -> l[k]? = some t -> t.ok
 | _ :: _, 0, _, h, e => by simp only [okL] at h; cases e; exact h.1
 | _ :: _, k + 1, _, h, e => by simp only [okL] at h; exact yQB (k := k) h.2 e
theorem NodeT.ok_sz {t : NodeT} (h : t.ok) : t.s.size < 4611686018427387904 := by cases t; simp only [NodeT.ok] at h; exact h.1
theorem NodeT.ok_s {t : NodeT} (h : t.ok) : t.s.size <= 9223372036854775807 := by have := NodeT.ok_sz h; omega
theorem NodeT.ok_x {t : NodeT} (h : t.ok) : t.x < 18446744073709551616 := by cases t; simp only [NodeT.ok] at h; exact h.2.1
theorem NodeT.ok_args {t : NodeT} (h : t.ok) : okL t.args := by cases t; simp only [NodeT.ok] at h; exact h.2.2
theorem y0u (k op : Int) (x : Nat) (s : ByteArray) (b : Bool) (f : Int) (r q : RefT) (args : List NodeT) (a : Option Addr) (cap : Nat) (w : World) (h : ¬ (1 <= k /\ k <= 9)) :
    Calls Tryz.prog 160 #[ygO k op x s b f r q a args.length cap] w fun e w' => e = .returned (.bool false) /\ Xt w w' := by
 obtain ⟨w0, hw0, hg0, hs0, hN⟩ := boxN w (.mk k op x s b f r q args) a args.length cap 49;simp only [NodeT.kind, NodeT.op, NodeT.x, NodeT.s, NodeT.b, NodeT.f, NodeT.ref, NodeT.to] at hw0;have c0 := hN.c0;simp only [NodeT.kind] at c0;have HG := h_ hg0;clear hg0 hN;have e1 : (k == 1) = false := (by simp; omega);have e2 : (k == 2) = false := (by simp; omega);have e3 : (k == 3) = false := (by simp; omega);have e4 : (k == 4) = false := (by simp; omega);have e5 : (k == 5) = false := (by simp; omega);have e6 : (k == 6) = false := (by simp; omega);have e7 : (k == 7) = false := (by simp; omega);have e8 : (k == 8) = false := (by simp; omega);have e9 : (k == 9) = false := (by simp; omega);clear h
 go_enter Tryz.func160, Tryz.ntmps160;go_wp2_with fail;go_ret;exact ⟨rfl, (HG.out.alloc _).xt⟩
theorem z8M (t : NodeT) (a : Option Addr) (cap : Nat) (w : World) (hk : t.ok) (hT : Tabs w) :
    Calls Tryz.prog 160 #[jSk t a t.args.length cap] w fun e w' => e = .returned (.bool (zGb t)) /\ Xt w w' := by
 have hs := NodeT.ok_s hk;clear hk;obtain ⟨k, op, x, s, b, f, r, q, args⟩ := t;simp only [NodeT.s] at hs
 show Calls Tryz.prog 160 #[ygO k op x s b f r q a args.length cap] w _
 unfold zGb;by_cases h1 : k = 1
 . subst h1;simp only [reduceIte, Int.reduceEq];exact made_1 op x s b f r q args a cap w
 by_cases h2 : k = 2
 . subst h2;simp only [reduceIte, Int.reduceEq];exact made_2 op x s b f r q args a cap w hs hT
 by_cases h3 : k = 3
 . subst h3;simp only [reduceIte, Int.reduceEq];exact made_3 op x s b f r q args a cap w
 by_cases h4 : k = 4
 . subst h4;simp only [reduceIte, Int.reduceEq];exact made_4 op x s b f r q args a cap w
 by_cases h5 : k = 5
 . subst h5;simp only [reduceIte, Int.reduceEq];exact made_5 op x s b f r q args a cap w
 by_cases h6 : k = 6
 . subst h6;simp only [reduceIte, Int.reduceEq];exact made_6 op x s b f r q args a cap w
 by_cases h7 : k = 7
 . subst h7;simp only [reduceIte, Int.reduceEq];exact made_7 op x s b f r q args a cap w
 by_cases h8 : k = 8
 . subst h8;simp only [reduceIte, Int.reduceEq];exact made_8 op x s b f r q args a cap w
 by_cases h9 : k = 9
 . subst h9;simp only [reduceIte, Int.reduceEq];exact made_9 op x s b f r q args a cap w
 simp only [h1, h2, h3, h4, h5, h6, h7, h8, h9, if_false];exact y0u k op x s b f r q args a cap w (by omega)
mutual
def yG3 : NodeT -> Bool -> Int
 | .mk k op x s b f r q args, ins =>
  if zGb (.mk k op x s b f r q args) then
   if k == 5 then (if y8L r.a.1 r.a.2 then ziB args (k == 9) else 20)
   else if k == 6 then (if (y8L r.a.1 r.a.2 && y8L q.a.1 q.a.2 && decide (r.a.1 <= q.a.1) && decide (r.a.2 <= q.a.2)) then (if ins then ziB args (k == 9) else 31) else 20)
   else if k == 9 then (if (jrj s.toList).2.2 then (if (args.length : Int) < (jrj s.toList).1 then 22 else if (jrj s.toList).2.1 < (args.length : Int) then 22 else ziB args (k == 9)) else 21)
   else ziB args (k == 9)
  else 1
def ziB : List NodeT -> Bool -> Int
 | [], _ => 0
 | t :: r, c => if yG3 t c = 0 then ziB r c else yG3 t c
end
theorem jR2 (t : NodeT) (ins : Bool) : yG3 t ins =
    if zGb t then
     if t.kind == 5 then (if y8L t.ref.a.1 t.ref.a.2 then ziB t.args (t.kind == 9) else 20)
     else if t.kind == 6 then (if (y8L t.ref.a.1 t.ref.a.2 && y8L t.to.a.1 t.to.a.2 && decide (t.ref.a.1 <= t.to.a.1) && decide (t.ref.a.2 <= t.to.a.2)) then (if ins then ziB t.args (t.kind == 9) else 31) else 20)
     else if t.kind == 9 then (if (jrj t.s.toList).2.2 then (if (t.args.length : Int) < (jrj t.s.toList).1 then 22 else if (jrj t.s.toList).2.1 < (t.args.length : Int) then 22 else ziB t.args (t.kind == 9)) else 21)
     else ziB t.args (t.kind == 9)
    else 1 := by cases t; rw [yG3]; rfl
def jLY (n : Nat) : Prop := ∀ (t : NodeT) (a : Option Addr) (cap : Nat) (ins : Bool) (w : World), t.ok -> Tabs w -> ArgsIn w n (.slice a t.args.length cap) t.args ->
    Calls Tryz.prog 135 #[jSk t a t.args.length cap, .bool ins] w fun e w' => e = .returned (.int .i64 (yG3 t ins)) /\ Xt w w'
end
end Go.Proofs.YtdoeejhdenifpaaGreatDoor
