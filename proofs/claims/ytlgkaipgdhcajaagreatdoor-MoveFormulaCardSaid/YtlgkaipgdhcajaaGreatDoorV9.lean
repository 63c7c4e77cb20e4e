/- quadrilleref12.Made, a walk for each kind (made by mkv9.py). -/
import Derived.Test.YtlgkaipgdhcajaaGreatDoorV6
import Derived.Test.YtlgkaipgdhcajaaGreatDoorV7
import Derived.Test.YtlgkaipgdhcajaaGreatDoorA5
namespace Go.Proofs.YtlgkaipgdhcajaaGreatDoor
open Go.RowKit Go.Sort

set_option maxRecDepth 100000 in
set_option maxHeartbeats 4000000 in
theorem made12_1 (t : NodeT) (a : Option Addr) (cap : Nat) (w : World) (hk : t.kind = 1) :
    Calls Tryz.prog 111 #[nodeV t a t.args.length cap] w fun e w' => e = .returned (.bool (bareB false true false false false false false false t && decide (t.x % 9223372036854775808 < 9218868437227405312) && ((t.x : Int) / 9223372036854775808 == 0))) ∧ Gr w w' := by
  obtain ⟨w0, hw0, hg0, hs0, hN⟩ := boxN w t a t.args.length cap 29
  have HN := Lib.hid hN
  obtain ⟨c0, c1, c2, c3, c4, c5, c6, c7, c8, c9, c10, c11, c12, c13, c14⟩ := hN
  simp only [Nat.zero_add] at c0 c1 c2 c3 c4 c5 c6 c7 c8 c9 c10 c11 c12 c13 c14
  have HG0 := Lib.hid hg0
  have HB := Lib.hid (bare_2 t a cap)
  generalize bareB false true false false false false false false t = bb at HB ⊢
  have H1 := Lib.hid (finite01_any t.x)
  generalize decide (t.x % 9223372036854775808 < 9218868437227405312) = ff at H1 ⊢
  have e1 : (t.kind == 1) = true := by rw [hk]; rfl
  clear hg0 hk
  go_enter Tryz.func111, Tryz.ntmps111
  go_wp2_with (first | (go_at_call 128; refine (HB.out _).mono ?_; rintro e w2 ⟨rfl, hg2⟩; have HG2 := Lib.hid hg2; have hN2 := HN.out.xt hg2.xt; clear hg2 c0 c1 c2 c3 c4 c5 c6 c7 c8 c9 c10 c11 c12 c13 c14; obtain ⟨c0, c1, c2, c3, c4, c5, c6, c7, c8, c9, c10, c11, c12, c13, c14⟩ := hN2; simp only [Nat.zero_add] at c0 c1 c2 c3 c4 c5 c6 c7 c8 c9 c10 c11 c12 c13 c14) | (go_at_call 127; refine (H1.out _).mono ?_; rintro e w' ⟨rfl, rfl⟩))
  all_goals (go_ret; refine ⟨?_, HG0.out.trans HG2.out⟩; first | (simp [*]; done) | (simp [*]; omega) | (simp [*]; intros; exfalso; omega) | trace_state)
set_option maxRecDepth 100000 in
set_option maxHeartbeats 4000000 in
theorem made12_2 (t : NodeT) (a : Option Addr) (cap : Nat) (w : World) (hk : t.kind = 2) (hs : t.s.size < 4611686018427387904) :
    Calls Tryz.prog 111 #[nodeV t a t.args.length cap] w fun e w' => e = .returned (.bool (bareB false false true false false false false false t && Lib.validD t.s.data.toList && decide ((t.s.size : Int) ≤ 1024))) ∧ Gr w w' := by
  obtain ⟨w0, hw0, hg0, hs0, hN⟩ := boxN w t a t.args.length cap 29
  have HN := Lib.hid hN
  obtain ⟨c0, c1, c2, c3, c4, c5, c6, c7, c8, c9, c10, c11, c12, c13, c14⟩ := hN
  simp only [Nat.zero_add] at c0 c1 c2 c3 c4 c5 c6 c7 c8 c9 c10 c11 c12 c13 c14
  have HG0 := Lib.hid hg0
  have HB := Lib.hid (bare_4 t a cap)
  generalize bareB false false true false false false false false t = bb at HB ⊢
  have H1 := Lib.hid (utf12_any t.s hs)
  generalize Lib.validD t.s.data.toList = vd at H1 ⊢
  have e1 : (t.kind == 1) = false := by rw [hk]; rfl
  have e2 : (t.kind == 2) = true := by rw [hk]; rfl
  clear hg0 hk
  go_enter Tryz.func111, Tryz.ntmps111
  go_wp2_with (first | (go_at_call 128; refine (HB.out _).mono ?_; rintro e w2 ⟨rfl, hg2⟩; have HG2 := Lib.hid hg2; have hN2 := HN.out.xt hg2.xt; clear hg2 c0 c1 c2 c3 c4 c5 c6 c7 c8 c9 c10 c11 c12 c13 c14; obtain ⟨c0, c1, c2, c3, c4, c5, c6, c7, c8, c9, c10, c11, c12, c13, c14⟩ := hN2; simp only [Nat.zero_add] at c0 c1 c2 c3 c4 c5 c6 c7 c8 c9 c10 c11 c12 c13 c14) | (go_at_call 129; refine (H1.out _).mono ?_; rintro e w' ⟨rfl, rfl⟩))
  all_goals (go_ret; refine ⟨?_, HG0.out.trans HG2.out⟩; first | (simp [*]; done) | (simp [*]; omega) | (simp [*]; intros; exfalso; omega) | trace_state)
set_option maxRecDepth 100000 in
set_option maxHeartbeats 4000000 in
theorem made12_3 (t : NodeT) (a : Option Addr) (cap : Nat) (w : World) (hk : t.kind = 3) :
    Calls Tryz.prog 111 #[nodeV t a t.args.length cap] w fun e w' => e = .returned (.bool (bareB false false false true false false false false t)) ∧ Gr w w' := by
  obtain ⟨w0, hw0, hg0, hs0, hN⟩ := boxN w t a t.args.length cap 29
  have HN := Lib.hid hN
  obtain ⟨c0, c1, c2, c3, c4, c5, c6, c7, c8, c9, c10, c11, c12, c13, c14⟩ := hN
  simp only [Nat.zero_add] at c0 c1 c2 c3 c4 c5 c6 c7 c8 c9 c10 c11 c12 c13 c14
  have HG0 := Lib.hid hg0
  have HB := Lib.hid (bare_8 t a cap)
  generalize bareB false false false true false false false false t = bb at HB ⊢
  have e1 : (t.kind == 1) = false := by rw [hk]; rfl
  have e2 : (t.kind == 2) = false := by rw [hk]; rfl
  have e3 : (t.kind == 3) = true := by rw [hk]; rfl
  clear hg0 hk
  go_enter Tryz.func111, Tryz.ntmps111
  go_wp2_with (first | (go_at_call 128; refine (HB.out _).mono ?_; rintro e w2 ⟨rfl, hg2⟩; have HG2 := Lib.hid hg2; have hN2 := HN.out.xt hg2.xt; clear hg2 c0 c1 c2 c3 c4 c5 c6 c7 c8 c9 c10 c11 c12 c13 c14; obtain ⟨c0, c1, c2, c3, c4, c5, c6, c7, c8, c9, c10, c11, c12, c13, c14⟩ := hN2; simp only [Nat.zero_add] at c0 c1 c2 c3 c4 c5 c6 c7 c8 c9 c10 c11 c12 c13 c14))
  all_goals (go_ret; refine ⟨?_, HG0.out.trans HG2.out⟩; first | (simp [*]; done) | (simp [*]; omega) | (simp [*]; intros; exfalso; omega) | trace_state)
set_option maxRecDepth 100000 in
set_option maxHeartbeats 4000000 in
theorem made12_4 (t : NodeT) (a : Option Addr) (cap : Nat) (w : World) (hk : t.kind = 4) :
    Calls Tryz.prog 111 #[nodeV t a t.args.length cap] w fun e w' => e = .returned (.bool (bareB false false false false true false false false t && decide (1 ≤ t.f) && decide (t.f ≤ 5))) ∧ Gr w w' := by
  obtain ⟨w0, hw0, hg0, hs0, hN⟩ := boxN w t a t.args.length cap 29
  have HN := Lib.hid hN
  obtain ⟨c0, c1, c2, c3, c4, c5, c6, c7, c8, c9, c10, c11, c12, c13, c14⟩ := hN
  simp only [Nat.zero_add] at c0 c1 c2 c3 c4 c5 c6 c7 c8 c9 c10 c11 c12 c13 c14
  have HG0 := Lib.hid hg0
  have HB := Lib.hid (bare_16 t a cap)
  generalize bareB false false false false true false false false t = bb at HB ⊢
  have e1 : (t.kind == 1) = false := by rw [hk]; rfl
  have e2 : (t.kind == 2) = false := by rw [hk]; rfl
  have e3 : (t.kind == 3) = false := by rw [hk]; rfl
  have e4 : (t.kind == 4) = true := by rw [hk]; rfl
  clear hg0 hk
  go_enter Tryz.func111, Tryz.ntmps111
  go_wp2_with (first | (go_at_call 128; refine (HB.out _).mono ?_; rintro e w2 ⟨rfl, hg2⟩; have HG2 := Lib.hid hg2; have hN2 := HN.out.xt hg2.xt; clear hg2 c0 c1 c2 c3 c4 c5 c6 c7 c8 c9 c10 c11 c12 c13 c14; obtain ⟨c0, c1, c2, c3, c4, c5, c6, c7, c8, c9, c10, c11, c12, c13, c14⟩ := hN2; simp only [Nat.zero_add] at c0 c1 c2 c3 c4 c5 c6 c7 c8 c9 c10 c11 c12 c13 c14))
  all_goals (go_ret; refine ⟨?_, HG0.out.trans HG2.out⟩; first | (simp [*]; done) | (simp [*]; omega) | (simp [*]; intros; exfalso; omega) | trace_state)
set_option maxRecDepth 100000 in
set_option maxHeartbeats 4000000 in
theorem made12_5 (t : NodeT) (a : Option Addr) (cap : Nat) (w : World) (hk : t.kind = 5) :
    Calls Tryz.prog 111 #[nodeV t a t.args.length cap] w fun e w' => e = .returned (.bool (bareB false false false false false true false false t)) ∧ Gr w w' := by
  obtain ⟨w0, hw0, hg0, hs0, hN⟩ := boxN w t a t.args.length cap 29
  have HN := Lib.hid hN
  obtain ⟨c0, c1, c2, c3, c4, c5, c6, c7, c8, c9, c10, c11, c12, c13, c14⟩ := hN
  simp only [Nat.zero_add] at c0 c1 c2 c3 c4 c5 c6 c7 c8 c9 c10 c11 c12 c13 c14
  have HG0 := Lib.hid hg0
  have HB := Lib.hid (bare_32 t a cap)
  generalize bareB false false false false false true false false t = bb at HB ⊢
  have e1 : (t.kind == 1) = false := by rw [hk]; rfl
  have e2 : (t.kind == 2) = false := by rw [hk]; rfl
  have e3 : (t.kind == 3) = false := by rw [hk]; rfl
  have e4 : (t.kind == 4) = false := by rw [hk]; rfl
  have e5 : (t.kind == 5) = true := by rw [hk]; rfl
  clear hg0 hk
  go_enter Tryz.func111, Tryz.ntmps111
  go_wp2_with (first | (go_at_call 128; refine (HB.out _).mono ?_; rintro e w2 ⟨rfl, hg2⟩; have HG2 := Lib.hid hg2; have hN2 := HN.out.xt hg2.xt; clear hg2 c0 c1 c2 c3 c4 c5 c6 c7 c8 c9 c10 c11 c12 c13 c14; obtain ⟨c0, c1, c2, c3, c4, c5, c6, c7, c8, c9, c10, c11, c12, c13, c14⟩ := hN2; simp only [Nat.zero_add] at c0 c1 c2 c3 c4 c5 c6 c7 c8 c9 c10 c11 c12 c13 c14))
  all_goals (go_ret; refine ⟨?_, HG0.out.trans HG2.out⟩; first | (simp [*]; done) | (simp [*]; omega) | (simp [*]; intros; exfalso; omega) | trace_state)
set_option maxRecDepth 100000 in
set_option maxHeartbeats 4000000 in
theorem made12_6 (t : NodeT) (a : Option Addr) (cap : Nat) (w : World) (hk : t.kind = 6) :
    Calls Tryz.prog 111 #[nodeV t a t.args.length cap] w fun e w' => e = .returned (.bool (bareB false false false false false true true false t)) ∧ Gr w w' := by
  obtain ⟨w0, hw0, hg0, hs0, hN⟩ := boxN w t a t.args.length cap 29
  have HN := Lib.hid hN
  obtain ⟨c0, c1, c2, c3, c4, c5, c6, c7, c8, c9, c10, c11, c12, c13, c14⟩ := hN
  simp only [Nat.zero_add] at c0 c1 c2 c3 c4 c5 c6 c7 c8 c9 c10 c11 c12 c13 c14
  have HG0 := Lib.hid hg0
  have HB := Lib.hid (bare_96 t a cap)
  generalize bareB false false false false false true true false t = bb at HB ⊢
  have e1 : (t.kind == 1) = false := by rw [hk]; rfl
  have e2 : (t.kind == 2) = false := by rw [hk]; rfl
  have e3 : (t.kind == 3) = false := by rw [hk]; rfl
  have e4 : (t.kind == 4) = false := by rw [hk]; rfl
  have e5 : (t.kind == 5) = false := by rw [hk]; rfl
  have e6 : (t.kind == 6) = true := by rw [hk]; rfl
  clear hg0 hk
  go_enter Tryz.func111, Tryz.ntmps111
  go_wp2_with (first | (go_at_call 128; refine (HB.out _).mono ?_; rintro e w2 ⟨rfl, hg2⟩; have HG2 := Lib.hid hg2; have hN2 := HN.out.xt hg2.xt; clear hg2 c0 c1 c2 c3 c4 c5 c6 c7 c8 c9 c10 c11 c12 c13 c14; obtain ⟨c0, c1, c2, c3, c4, c5, c6, c7, c8, c9, c10, c11, c12, c13, c14⟩ := hN2; simp only [Nat.zero_add] at c0 c1 c2 c3 c4 c5 c6 c7 c8 c9 c10 c11 c12 c13 c14))
  all_goals (go_ret; refine ⟨?_, HG0.out.trans HG2.out⟩; first | (simp [*]; done) | (simp [*]; omega) | (simp [*]; intros; exfalso; omega) | trace_state)
set_option maxRecDepth 100000 in
set_option maxHeartbeats 4000000 in
theorem made12_7 (t : NodeT) (a : Option Addr) (cap : Nat) (w : World) (hk : t.kind = 7) :
    Calls Tryz.prog 111 #[nodeV t a t.args.length cap] w fun e w' => e = .returned (.bool (bareB true false false false false false false true t && decide (1 ≤ t.op) && decide (t.op ≤ 3) && ((t.args.length : Int) == 1))) ∧ Gr w w' := by
  obtain ⟨w0, hw0, hg0, hs0, hN⟩ := boxN w t a t.args.length cap 29
  have HN := Lib.hid hN
  obtain ⟨c0, c1, c2, c3, c4, c5, c6, c7, c8, c9, c10, c11, c12, c13, c14⟩ := hN
  simp only [Nat.zero_add] at c0 c1 c2 c3 c4 c5 c6 c7 c8 c9 c10 c11 c12 c13 c14
  have HG0 := Lib.hid hg0
  have HB := Lib.hid (bare_129 t a cap)
  generalize bareB true false false false false false false true t = bb at HB ⊢
  have e1 : (t.kind == 1) = false := by rw [hk]; rfl
  have e2 : (t.kind == 2) = false := by rw [hk]; rfl
  have e3 : (t.kind == 3) = false := by rw [hk]; rfl
  have e4 : (t.kind == 4) = false := by rw [hk]; rfl
  have e5 : (t.kind == 5) = false := by rw [hk]; rfl
  have e6 : (t.kind == 6) = false := by rw [hk]; rfl
  have e7 : (t.kind == 7) = true := by rw [hk]; rfl
  clear hg0 hk
  go_enter Tryz.func111, Tryz.ntmps111
  go_wp2_with (first | (go_at_call 128; refine (HB.out _).mono ?_; rintro e w2 ⟨rfl, hg2⟩; have HG2 := Lib.hid hg2; have hN2 := HN.out.xt hg2.xt; clear hg2 c0 c1 c2 c3 c4 c5 c6 c7 c8 c9 c10 c11 c12 c13 c14; obtain ⟨c0, c1, c2, c3, c4, c5, c6, c7, c8, c9, c10, c11, c12, c13, c14⟩ := hN2; simp only [Nat.zero_add] at c0 c1 c2 c3 c4 c5 c6 c7 c8 c9 c10 c11 c12 c13 c14))
  all_goals (go_ret; refine ⟨?_, HG0.out.trans HG2.out⟩; first | (simp [*]; done) | (simp [*]; omega) | (simp [*]; intros; exfalso; omega) | trace_state)
set_option maxRecDepth 100000 in
set_option maxHeartbeats 4000000 in
theorem made12_8 (t : NodeT) (a : Option Addr) (cap : Nat) (w : World) (hk : t.kind = 8) :
    Calls Tryz.prog 111 #[nodeV t a t.args.length cap] w fun e w' => e = .returned (.bool (bareB true false false false false false false true t && decide (4 ≤ t.op) && decide (t.op ≤ 15) && ((t.args.length : Int) == 2))) ∧ Gr w w' := by
  obtain ⟨w0, hw0, hg0, hs0, hN⟩ := boxN w t a t.args.length cap 29
  have HN := Lib.hid hN
  obtain ⟨c0, c1, c2, c3, c4, c5, c6, c7, c8, c9, c10, c11, c12, c13, c14⟩ := hN
  simp only [Nat.zero_add] at c0 c1 c2 c3 c4 c5 c6 c7 c8 c9 c10 c11 c12 c13 c14
  have HG0 := Lib.hid hg0
  have HB := Lib.hid (bare_129 t a cap)
  generalize bareB true false false false false false false true t = bb at HB ⊢
  have e1 : (t.kind == 1) = false := by rw [hk]; rfl
  have e2 : (t.kind == 2) = false := by rw [hk]; rfl
  have e3 : (t.kind == 3) = false := by rw [hk]; rfl
  have e4 : (t.kind == 4) = false := by rw [hk]; rfl
  have e5 : (t.kind == 5) = false := by rw [hk]; rfl
  have e6 : (t.kind == 6) = false := by rw [hk]; rfl
  have e7 : (t.kind == 7) = false := by rw [hk]; rfl
  have e8 : (t.kind == 8) = true := by rw [hk]; rfl
  clear hg0 hk
  go_enter Tryz.func111, Tryz.ntmps111
  go_wp2_with (first | (go_at_call 128; refine (HB.out _).mono ?_; rintro e w2 ⟨rfl, hg2⟩; have HG2 := Lib.hid hg2; have hN2 := HN.out.xt hg2.xt; clear hg2 c0 c1 c2 c3 c4 c5 c6 c7 c8 c9 c10 c11 c12 c13 c14; obtain ⟨c0, c1, c2, c3, c4, c5, c6, c7, c8, c9, c10, c11, c12, c13, c14⟩ := hN2; simp only [Nat.zero_add] at c0 c1 c2 c3 c4 c5 c6 c7 c8 c9 c10 c11 c12 c13 c14))
  all_goals (go_ret; refine ⟨?_, HG0.out.trans HG2.out⟩; first | (simp [*]; done) | (simp [*]; omega) | (simp [*]; intros; exfalso; omega) | trace_state)
set_option maxRecDepth 100000 in
set_option maxHeartbeats 4000000 in
theorem made12_9 (t : NodeT) (a : Option Addr) (cap : Nat) (w : World) (hk : t.kind = 9) :
    Calls Tryz.prog 111 #[nodeV t a t.args.length cap] w fun e w' => e = .returned (.bool (bareB false false true false false false false true t)) ∧ Gr w w' := by
  obtain ⟨w0, hw0, hg0, hs0, hN⟩ := boxN w t a t.args.length cap 29
  have HN := Lib.hid hN
  obtain ⟨c0, c1, c2, c3, c4, c5, c6, c7, c8, c9, c10, c11, c12, c13, c14⟩ := hN
  simp only [Nat.zero_add] at c0 c1 c2 c3 c4 c5 c6 c7 c8 c9 c10 c11 c12 c13 c14
  have HG0 := Lib.hid hg0
  have HB := Lib.hid (bare_132 t a cap)
  generalize bareB false false true false false false false true t = bb at HB ⊢
  have e1 : (t.kind == 1) = false := by rw [hk]; rfl
  have e2 : (t.kind == 2) = false := by rw [hk]; rfl
  have e3 : (t.kind == 3) = false := by rw [hk]; rfl
  have e4 : (t.kind == 4) = false := by rw [hk]; rfl
  have e5 : (t.kind == 5) = false := by rw [hk]; rfl
  have e6 : (t.kind == 6) = false := by rw [hk]; rfl
  have e7 : (t.kind == 7) = false := by rw [hk]; rfl
  have e8 : (t.kind == 8) = false := by rw [hk]; rfl
  have e9 : (t.kind == 9) = true := by rw [hk]; rfl
  clear hg0 hk
  go_enter Tryz.func111, Tryz.ntmps111
  go_wp2_with (first | (go_at_call 128; refine (HB.out _).mono ?_; rintro e w2 ⟨rfl, hg2⟩; have HG2 := Lib.hid hg2; have hN2 := HN.out.xt hg2.xt; clear hg2 c0 c1 c2 c3 c4 c5 c6 c7 c8 c9 c10 c11 c12 c13 c14; obtain ⟨c0, c1, c2, c3, c4, c5, c6, c7, c8, c9, c10, c11, c12, c13, c14⟩ := hN2; simp only [Nat.zero_add] at c0 c1 c2 c3 c4 c5 c6 c7 c8 c9 c10 c11 c12 c13 c14))
  all_goals (go_ret; refine ⟨?_, HG0.out.trans HG2.out⟩; first | (simp [*]; done) | (simp [*]; omega) | (simp [*]; intros; exfalso; omega) | trace_state)
end Go.Proofs.YtlgkaipgdhcajaaGreatDoor
