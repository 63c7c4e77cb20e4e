import Derived.Test.YtideclfpbpjebaaGreatDoorB5
namespace Go.Proofs.YtideclfpbpjebaaGreatDoor
section
open Go.RowKit Go.Sort

set_option maxRecDepth 100000 in
set_option maxHeartbeats 4000000 in
theorem made_7 (op : Int) (x : Nat) (s : ByteArray) (b : Bool) (f : Int) (r q : RefT) (args : List NodeT) (a : Option Addr) (cap : Nat) (w : World) :
    Calls Tryz.prog 108 #[nodeW 7 op x s b f r q a args.length cap] w fun e w' => e = .returned (.bool ((decide (1 ≤ op) && decide (op ≤ 3)) && (1 == (args.length : Int)) && alikeB (.mk 7 op x s b f r q args) (.mk 7 op 0 ⟨#[]⟩ false 0 zR zR []))) ∧ Xt w w' := by
  obtain ⟨w0, hw0, hg0, hs0, hN⟩ := boxN w (.mk 7 op x s b f r q args) a args.length cap 44
  obtain ⟨w1, hw1, hg1, hs1, hM⟩ := boxN w0 (.mk 7 op 0 ⟨#[]⟩ false 0 zR zR []) none 0 0 44
  simp only [NodeT.kind, NodeT.op, NodeT.x, NodeT.s, NodeT.b, NodeT.f, NodeT.ref, NodeT.to] at hw0 hw1
  rw [hs0] at hs1 hM
  obtain ⟨k0, k1, k2, k3, k4, k5, k6, k7, k8, k9, k10, k11, k12, k13, k14⟩ := hN
  simp only [Nat.zero_add, NodeT.kind, NodeT.op, NodeT.x, NodeT.s, NodeT.b, NodeT.f, NodeT.ref, NodeT.to] at k0 k1 k2 k3 k4 k5 k6 k7 k8 k9 k10 k11 k12 k13 k14
  have hN : NodeAt w1 w.heap.size 0 (.mk 7 op x s b f r q args) a args.length cap := NodeAt.xt ⟨k0, k1, k2, k3, k4, k5, k6, k7, k8, k9, k10, k11, k12, k13, k14⟩ hg1.xt
  have HG := Lib.hid (hg0.trans hg1)
  have HAL := Lib.hid (alike_any (.mk 7 op x s b f r q args) (.mk 7 op 0 ⟨#[]⟩ false 0 zR zR []) a none cap 0)
  generalize hn : alikeB (.mk 7 op x s b f r q args) (.mk 7 op 0 ⟨#[]⟩ false 0 zR zR []) = al at HAL ⊢
  clear hn hg0 hg1
  have HNM := Lib.hid (And.intro hN hM)
  obtain ⟨c0, c1, c2, c3, c4, c5, c6, c7, c8, c9, c10, c11, c12, c13, c14⟩ := hN
  obtain ⟨d0, d1, d2, d3, d4, d5, d6, d7, d8, d9, d10, d11, d12, d13, d14⟩ := hM
  simp only [Nat.zero_add, NodeT.kind, NodeT.op, NodeT.x, NodeT.s, NodeT.b, NodeT.f, NodeT.ref, NodeT.to] at c0 c1 c2 c3 c4 c5 c6 c7 c8 c9 c10 c11 c12 c13 c14 d0 d1 d2 d3 d4 d5 d6 d7 d8 d9 d10 d11 d12 d13 d14
  generalize hl : (1 == (args.length : Int)) = lb
  cases lb
  all_goals
    go_enter Tryz.func108, Tryz.ntmps108
    go_wp2_with (first | (go_at_call 100; refine (HAL.out _).mono ?_; rintro e w2 ⟨rfl, hg2⟩; have HG2 := Lib.hid hg2; clear hg2))
    all_goals (go_ret; refine ⟨?_, by first | exact (HG.out.xt) | exact Xt.trans (HG.out.xt) HG2.out.xt | exact Xt.trans (Xt.drew HG.out.xt) HG2.out.xt⟩; first | (simp [*]; done) | (simp [*]; omega) | (simp [*]; intros; exfalso; omega))
set_option maxRecDepth 100000 in
set_option maxHeartbeats 4000000 in
theorem made_8 (op : Int) (x : Nat) (s : ByteArray) (b : Bool) (f : Int) (r q : RefT) (args : List NodeT) (a : Option Addr) (cap : Nat) (w : World) :
    Calls Tryz.prog 108 #[nodeW 8 op x s b f r q a args.length cap] w fun e w' => e = .returned (.bool ((decide (4 ≤ op) && decide (op ≤ 15)) && (2 == (args.length : Int)) && alikeB (.mk 8 op x s b f r q args) (.mk 8 op 0 ⟨#[]⟩ false 0 zR zR []))) ∧ Xt w w' := by
  obtain ⟨w0, hw0, hg0, hs0, hN⟩ := boxN w (.mk 8 op x s b f r q args) a args.length cap 44
  obtain ⟨w1, hw1, hg1, hs1, hM⟩ := boxN w0 (.mk 8 op 0 ⟨#[]⟩ false 0 zR zR []) none 0 0 44
  simp only [NodeT.kind, NodeT.op, NodeT.x, NodeT.s, NodeT.b, NodeT.f, NodeT.ref, NodeT.to] at hw0 hw1
  rw [hs0] at hs1 hM
  obtain ⟨k0, k1, k2, k3, k4, k5, k6, k7, k8, k9, k10, k11, k12, k13, k14⟩ := hN
  simp only [Nat.zero_add, NodeT.kind, NodeT.op, NodeT.x, NodeT.s, NodeT.b, NodeT.f, NodeT.ref, NodeT.to] at k0 k1 k2 k3 k4 k5 k6 k7 k8 k9 k10 k11 k12 k13 k14
  have hN : NodeAt w1 w.heap.size 0 (.mk 8 op x s b f r q args) a args.length cap := NodeAt.xt ⟨k0, k1, k2, k3, k4, k5, k6, k7, k8, k9, k10, k11, k12, k13, k14⟩ hg1.xt
  have HG := Lib.hid (hg0.trans hg1)
  have HAL := Lib.hid (alike_any (.mk 8 op x s b f r q args) (.mk 8 op 0 ⟨#[]⟩ false 0 zR zR []) a none cap 0)
  generalize hn : alikeB (.mk 8 op x s b f r q args) (.mk 8 op 0 ⟨#[]⟩ false 0 zR zR []) = al at HAL ⊢
  clear hn hg0 hg1
  have HNM := Lib.hid (And.intro hN hM)
  obtain ⟨c0, c1, c2, c3, c4, c5, c6, c7, c8, c9, c10, c11, c12, c13, c14⟩ := hN
  obtain ⟨d0, d1, d2, d3, d4, d5, d6, d7, d8, d9, d10, d11, d12, d13, d14⟩ := hM
  simp only [Nat.zero_add, NodeT.kind, NodeT.op, NodeT.x, NodeT.s, NodeT.b, NodeT.f, NodeT.ref, NodeT.to] at c0 c1 c2 c3 c4 c5 c6 c7 c8 c9 c10 c11 c12 c13 c14 d0 d1 d2 d3 d4 d5 d6 d7 d8 d9 d10 d11 d12 d13 d14
  generalize hl : (2 == (args.length : Int)) = lb
  cases lb
  all_goals
    go_enter Tryz.func108, Tryz.ntmps108
    go_wp2_with (first | (go_at_call 100; refine (HAL.out _).mono ?_; rintro e w2 ⟨rfl, hg2⟩; have HG2 := Lib.hid hg2; clear hg2))
    all_goals (go_ret; refine ⟨?_, by first | exact (HG.out.xt) | exact Xt.trans (HG.out.xt) HG2.out.xt | exact Xt.trans (Xt.drew HG.out.xt) HG2.out.xt⟩; first | (simp [*]; done) | (simp [*]; omega) | (simp [*]; intros; exfalso; omega))
set_option maxRecDepth 100000 in
set_option maxHeartbeats 4000000 in
theorem made_9 (op : Int) (x : Nat) (s : ByteArray) (b : Bool) (f : Int) (r q : RefT) (args : List NodeT) (a : Option Addr) (cap : Nat) (w : World) :
    Calls Tryz.prog 108 #[nodeW 9 op x s b f r q a args.length cap] w fun e w' => e = .returned (.bool (true && ((args.length : Int) == (args.length : Int)) && alikeB (.mk 9 op x s b f r q args) (.mk 9 0 0 s false 0 zR zR []))) ∧ Xt w w' := by
  obtain ⟨w0, hw0, hg0, hs0, hN⟩ := boxN w (.mk 9 op x s b f r q args) a args.length cap 44
  obtain ⟨w1, hw1, hg1, hs1, hM⟩ := boxN w0 (.mk 9 0 0 s false 0 zR zR []) none 0 0 44
  simp only [NodeT.kind, NodeT.op, NodeT.x, NodeT.s, NodeT.b, NodeT.f, NodeT.ref, NodeT.to] at hw0 hw1
  rw [hs0] at hs1 hM
  obtain ⟨k0, k1, k2, k3, k4, k5, k6, k7, k8, k9, k10, k11, k12, k13, k14⟩ := hN
  simp only [Nat.zero_add, NodeT.kind, NodeT.op, NodeT.x, NodeT.s, NodeT.b, NodeT.f, NodeT.ref, NodeT.to] at k0 k1 k2 k3 k4 k5 k6 k7 k8 k9 k10 k11 k12 k13 k14
  have hN : NodeAt w1 w.heap.size 0 (.mk 9 op x s b f r q args) a args.length cap := NodeAt.xt ⟨k0, k1, k2, k3, k4, k5, k6, k7, k8, k9, k10, k11, k12, k13, k14⟩ hg1.xt
  have HG := Lib.hid (hg0.trans hg1)
  have HAL := Lib.hid (alike_any (.mk 9 op x s b f r q args) (.mk 9 0 0 s false 0 zR zR []) a none cap 0)
  generalize hn : alikeB (.mk 9 op x s b f r q args) (.mk 9 0 0 s false 0 zR zR []) = al at HAL ⊢
  clear hn hg0 hg1
  have HNM := Lib.hid (And.intro hN hM)
  obtain ⟨c0, c1, c2, c3, c4, c5, c6, c7, c8, c9, c10, c11, c12, c13, c14⟩ := hN
  obtain ⟨d0, d1, d2, d3, d4, d5, d6, d7, d8, d9, d10, d11, d12, d13, d14⟩ := hM
  simp only [Nat.zero_add, NodeT.kind, NodeT.op, NodeT.x, NodeT.s, NodeT.b, NodeT.f, NodeT.ref, NodeT.to] at c0 c1 c2 c3 c4 c5 c6 c7 c8 c9 c10 c11 c12 c13 c14 d0 d1 d2 d3 d4 d5 d6 d7 d8 d9 d10 d11 d12 d13 d14
  have hl : ((args.length : Int) == (args.length : Int)) = true := by simp
  rw [hl]
  all_goals
    go_enter Tryz.func108, Tryz.ntmps108
    go_wp2_with fail
    go_region
    all_goals
      go_wp2_with (first | (go_at_call 100; refine (HAL.out _).mono ?_; rintro e w2 ⟨rfl, hg2⟩; have HG2 := Lib.hid hg2; clear hg2))
      all_goals (go_ret; refine ⟨?_, by first | exact (HG.out.xt) | exact Xt.trans (HG.out.xt) HG2.out.xt | exact Xt.trans (Xt.drew HG.out.xt) HG2.out.xt⟩; first | (simp [*]; done) | (simp [*]; omega) | (simp [*]; intros; exfalso; omega))
end
end Go.Proofs.YtideclfpbpjebaaGreatDoor
