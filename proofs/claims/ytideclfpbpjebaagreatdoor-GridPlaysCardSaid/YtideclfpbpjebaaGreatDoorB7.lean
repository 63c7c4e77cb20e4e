import Derived.Test.YtideclfpbpjebaaGreatDoorB5
namespace Go.Proofs.YtideclfpbpjebaaGreatDoor
section
open Go.RowKit Go.Sort

set_option maxRecDepth 100000 in
set_option maxHeartbeats 4000000 in
theorem made_4 (op : Int) (x : Nat) (s : ByteArray) (b : Bool) (f : Int) (r q : RefT) (args : List NodeT) (a : Option Addr) (cap : Nat) (w : World) :
    Calls Tryz.prog 108 #[nodeW 4 op x s b f r q a args.length cap] w fun e w' => e = .returned (.bool ((decide (1 ≤ f) && decide (f ≤ 5)) && (0 == (args.length : Int)) && alikeB (.mk 4 op x s b f r q args) (.mk 4 0 0 ⟨#[]⟩ false f zR zR []))) ∧ Xt w w' := by
  obtain ⟨w0, hw0, hg0, hs0, hN⟩ := boxN w (.mk 4 op x s b f r q args) a args.length cap 44
  obtain ⟨w1, hw1, hg1, hs1, hM⟩ := boxN w0 (.mk 4 0 0 ⟨#[]⟩ false f zR zR []) none 0 0 44
  simp only [NodeT.kind, NodeT.op, NodeT.x, NodeT.s, NodeT.b, NodeT.f, NodeT.ref, NodeT.to] at hw0 hw1
  rw [hs0] at hs1 hM
  obtain ⟨k0, k1, k2, k3, k4, k5, k6, k7, k8, k9, k10, k11, k12, k13, k14⟩ := hN
  simp only [Nat.zero_add, NodeT.kind, NodeT.op, NodeT.x, NodeT.s, NodeT.b, NodeT.f, NodeT.ref, NodeT.to] at k0 k1 k2 k3 k4 k5 k6 k7 k8 k9 k10 k11 k12 k13 k14
  have hN : NodeAt w1 w.heap.size 0 (.mk 4 op x s b f r q args) a args.length cap := NodeAt.xt ⟨k0, k1, k2, k3, k4, k5, k6, k7, k8, k9, k10, k11, k12, k13, k14⟩ hg1.xt
  have HG := Lib.hid (hg0.trans hg1)
  have HAL := Lib.hid (alike_any (.mk 4 op x s b f r q args) (.mk 4 0 0 ⟨#[]⟩ false f zR zR []) a none cap 0)
  generalize hn : alikeB (.mk 4 op x s b f r q args) (.mk 4 0 0 ⟨#[]⟩ false f zR zR []) = al at HAL ⊢
  clear hn hg0 hg1
  have HNM := Lib.hid (And.intro hN hM)
  obtain ⟨c0, c1, c2, c3, c4, c5, c6, c7, c8, c9, c10, c11, c12, c13, c14⟩ := hN
  obtain ⟨d0, d1, d2, d3, d4, d5, d6, d7, d8, d9, d10, d11, d12, d13, d14⟩ := hM
  simp only [Nat.zero_add, NodeT.kind, NodeT.op, NodeT.x, NodeT.s, NodeT.b, NodeT.f, NodeT.ref, NodeT.to] at c0 c1 c2 c3 c4 c5 c6 c7 c8 c9 c10 c11 c12 c13 c14 d0 d1 d2 d3 d4 d5 d6 d7 d8 d9 d10 d11 d12 d13 d14
  generalize hl : (0 == (args.length : Int)) = lb
  cases lb
  all_goals
    go_enter Tryz.func108, Tryz.ntmps108
    go_wp2_with (first | (go_at_call 100; refine (HAL.out _).mono ?_; rintro e w2 ⟨rfl, hg2⟩; have HG2 := Lib.hid hg2; clear hg2))
    all_goals (go_ret; refine ⟨?_, by first | exact (HG.out.xt) | exact Xt.trans (HG.out.xt) HG2.out.xt | exact Xt.trans (Xt.drew HG.out.xt) HG2.out.xt⟩; first | (simp [*]; done) | (simp [*]; omega) | (simp [*]; intros; exfalso; omega))
set_option maxRecDepth 100000 in
set_option maxHeartbeats 4000000 in
theorem made_5 (op : Int) (x : Nat) (s : ByteArray) (b : Bool) (f : Int) (r q : RefT) (args : List NodeT) (a : Option Addr) (cap : Nat) (w : World) :
    Calls Tryz.prog 108 #[nodeW 5 op x s b f r q a args.length cap] w fun e w' => e = .returned (.bool (true && (0 == (args.length : Int)) && alikeB (.mk 5 op x s b f r q args) (.mk 5 0 0 ⟨#[]⟩ false 0 r zR []))) ∧ Xt w w' := by
  obtain ⟨w0, hw0, hg0, hs0, hN⟩ := boxN w (.mk 5 op x s b f r q args) a args.length cap 44
  obtain ⟨w1, hw1, hg1, hs1, hM⟩ := boxN w0 (.mk 5 0 0 ⟨#[]⟩ false 0 r zR []) none 0 0 44
  simp only [NodeT.kind, NodeT.op, NodeT.x, NodeT.s, NodeT.b, NodeT.f, NodeT.ref, NodeT.to] at hw0 hw1
  rw [hs0] at hs1 hM
  obtain ⟨k0, k1, k2, k3, k4, k5, k6, k7, k8, k9, k10, k11, k12, k13, k14⟩ := hN
  simp only [Nat.zero_add, NodeT.kind, NodeT.op, NodeT.x, NodeT.s, NodeT.b, NodeT.f, NodeT.ref, NodeT.to] at k0 k1 k2 k3 k4 k5 k6 k7 k8 k9 k10 k11 k12 k13 k14
  have hN : NodeAt w1 w.heap.size 0 (.mk 5 op x s b f r q args) a args.length cap := NodeAt.xt ⟨k0, k1, k2, k3, k4, k5, k6, k7, k8, k9, k10, k11, k12, k13, k14⟩ hg1.xt
  have HG := Lib.hid (hg0.trans hg1)
  have HAL := Lib.hid (alike_any (.mk 5 op x s b f r q args) (.mk 5 0 0 ⟨#[]⟩ false 0 r zR []) a none cap 0)
  generalize hn : alikeB (.mk 5 op x s b f r q args) (.mk 5 0 0 ⟨#[]⟩ false 0 r zR []) = al at HAL ⊢
  clear hn hg0 hg1
  have HNM := Lib.hid (And.intro hN hM)
  obtain ⟨c0, c1, c2, c3, c4, c5, c6, c7, c8, c9, c10, c11, c12, c13, c14⟩ := hN
  obtain ⟨d0, d1, d2, d3, d4, d5, d6, d7, d8, d9, d10, d11, d12, d13, d14⟩ := hM
  simp only [Nat.zero_add, NodeT.kind, NodeT.op, NodeT.x, NodeT.s, NodeT.b, NodeT.f, NodeT.ref, NodeT.to] at c0 c1 c2 c3 c4 c5 c6 c7 c8 c9 c10 c11 c12 c13 c14 d0 d1 d2 d3 d4 d5 d6 d7 d8 d9 d10 d11 d12 d13 d14
  generalize hl : (0 == (args.length : Int)) = lb
  cases lb
  all_goals
    go_enter Tryz.func108, Tryz.ntmps108
    go_wp2_with (first | (go_at_call 100; refine (HAL.out _).mono ?_; rintro e w2 ⟨rfl, hg2⟩; have HG2 := Lib.hid hg2; clear hg2))
    all_goals (go_ret; refine ⟨?_, by first | exact (HG.out.xt) | exact Xt.trans (HG.out.xt) HG2.out.xt | exact Xt.trans (Xt.drew HG.out.xt) HG2.out.xt⟩; first | (simp [*]; done) | (simp [*]; omega) | (simp [*]; intros; exfalso; omega))
set_option maxRecDepth 100000 in
set_option maxHeartbeats 4000000 in
theorem made_6 (op : Int) (x : Nat) (s : ByteArray) (b : Bool) (f : Int) (r q : RefT) (args : List NodeT) (a : Option Addr) (cap : Nat) (w : World) :
    Calls Tryz.prog 108 #[nodeW 6 op x s b f r q a args.length cap] w fun e w' => e = .returned (.bool (true && (0 == (args.length : Int)) && alikeB (.mk 6 op x s b f r q args) (.mk 6 0 0 ⟨#[]⟩ false 0 r q []))) ∧ Xt w w' := by
  obtain ⟨w0, hw0, hg0, hs0, hN⟩ := boxN w (.mk 6 op x s b f r q args) a args.length cap 44
  obtain ⟨w1, hw1, hg1, hs1, hM⟩ := boxN w0 (.mk 6 0 0 ⟨#[]⟩ false 0 r q []) none 0 0 44
  simp only [NodeT.kind, NodeT.op, NodeT.x, NodeT.s, NodeT.b, NodeT.f, NodeT.ref, NodeT.to] at hw0 hw1
  rw [hs0] at hs1 hM
  obtain ⟨k0, k1, k2, k3, k4, k5, k6, k7, k8, k9, k10, k11, k12, k13, k14⟩ := hN
  simp only [Nat.zero_add, NodeT.kind, NodeT.op, NodeT.x, NodeT.s, NodeT.b, NodeT.f, NodeT.ref, NodeT.to] at k0 k1 k2 k3 k4 k5 k6 k7 k8 k9 k10 k11 k12 k13 k14
  have hN : NodeAt w1 w.heap.size 0 (.mk 6 op x s b f r q args) a args.length cap := NodeAt.xt ⟨k0, k1, k2, k3, k4, k5, k6, k7, k8, k9, k10, k11, k12, k13, k14⟩ hg1.xt
  have HG := Lib.hid (hg0.trans hg1)
  have HAL := Lib.hid (alike_any (.mk 6 op x s b f r q args) (.mk 6 0 0 ⟨#[]⟩ false 0 r q []) a none cap 0)
  generalize hn : alikeB (.mk 6 op x s b f r q args) (.mk 6 0 0 ⟨#[]⟩ false 0 r q []) = al at HAL ⊢
  clear hn hg0 hg1
  have HNM := Lib.hid (And.intro hN hM)
  obtain ⟨c0, c1, c2, c3, c4, c5, c6, c7, c8, c9, c10, c11, c12, c13, c14⟩ := hN
  obtain ⟨d0, d1, d2, d3, d4, d5, d6, d7, d8, d9, d10, d11, d12, d13, d14⟩ := hM
  simp only [Nat.zero_add, NodeT.kind, NodeT.op, NodeT.x, NodeT.s, NodeT.b, NodeT.f, NodeT.ref, NodeT.to] at c0 c1 c2 c3 c4 c5 c6 c7 c8 c9 c10 c11 c12 c13 c14 d0 d1 d2 d3 d4 d5 d6 d7 d8 d9 d10 d11 d12 d13 d14
  generalize hl : (0 == (args.length : Int)) = lb
  cases lb
  all_goals
    go_enter Tryz.func108, Tryz.ntmps108
    go_wp2_with (first | (go_at_call 100; refine (HAL.out _).mono ?_; rintro e w2 ⟨rfl, hg2⟩; have HG2 := Lib.hid hg2; clear hg2))
    all_goals (go_ret; refine ⟨?_, by first | exact (HG.out.xt) | exact Xt.trans (HG.out.xt) HG2.out.xt | exact Xt.trans (Xt.drew HG.out.xt) HG2.out.xt⟩; first | (simp [*]; done) | (simp [*]; omega) | (simp [*]; intros; exfalso; omega))
end
end Go.Proofs.YtideclfpbpjebaaGreatDoor
