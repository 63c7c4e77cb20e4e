import Derived.Test.YtdoeejhdenifpaaGreatDoorB15
import Derived.Test.YtdoeejhdenifpaaGreatDoorB14
import Derived.Test.YtdoeejhdenifpaaGreatDoorB11
import Derived.Test.YtdoeejhdenifpaaGreatDoorB12
set_option maxRecDepth 100000
set_option maxHeartbeats 16000000
namespace Go.Proofs.YtdoeejhdenifpaaGreatDoor
section
open Go.RowKit Go.Sort
theorem yIr (v : ValT) (w : World) :
    Calls Tryz.prog 103 #[valV v] w fun e w' => e = .returned (.bool (yDi v)) /\ Gr w w' := by
 obtain ⟨w0, hw0, hg0, hs0, c0, c1, c2, c3, c4⟩ := boxV w v 44;have HG0 := h_ hg0;clear hg0;go_enter Tryz.func103, Tryz.ntmps103;go_wp2_with fail
 all_goals (go_ret; refine ⟨?_, HG0.out⟩; first | (simp [yDi, *]; done) | (by_cases hx : v.x = 0 <;> by_cases hf : v.f = 0 <;> simp_all [yDi]; done))
theorem zVC (t : NodeT) (a : Option Addr) (cap : Nat) (w : World) :
    Calls Tryz.prog 104 #[jSk t a t.args.length cap] w fun e w' => e = .returned (.bool (z88 t)) /\ Gr w w' := by
 obtain ⟨w0, hw0, hg0, hs0, hN⟩ := boxN w t a t.args.length cap 49;obtain ⟨c0, c1, c2, c3, c4, c5, c6, c7, c8, c9, c10, c11, c12, c13, c14⟩ := hN;simp only [Nat.zero_add] at c0 c1 c2 c3 c4 c5 c6 c7 c8 c9 c10 c11 c12 c13 c14;have HG0 := h_ hg0;clear hg0;generalize hn : z88 t = ans;have HA := h_ hn;clear hn;go_enter Tryz.func104, Tryz.ntmps104;go_wp2_with fail
 all_goals (go_ret; refine ⟨?_, HG0.out⟩; rw [<- HA.out]; simp [z88, *]; done)
theorem ygY (a b : Int) (w : World) : Calls Tryz.prog 140 #[a, b] w fun e w' => e = .returned (.int .i64 (cmpI a b)) /\ w = w' := by
 go_enter Tryz.func140, Tryz.ntmps140;go_wp2
 all_goals (go_ret; refine ⟨?_, rfl⟩; first | (simp [cmpI, *]; done) | (unfold cmpI; rw [if_neg (by omega), if_neg (by omega)]; rfl))
theorem ybR (a b x y : Int) (w : World) :
    Calls Tryz.prog 107 #[.agg #[a, b], .agg #[x, y]] w fun e w' => e = .returned (.int .i64 (orI (cmpI b y) (cmpI a x))) /\ Gr w w' := by
 have H1 := h_ (ygY b y);have H2 := h_ (ygY a x);by_cases h : cmpI b y = 0
 all_goals
  rw [show orI (cmpI b y) (cmpI a x) = _ from by first | exact if_pos h | exact if_neg h];generalize cmpI b y = p at H1 h;generalize cmpI a x = q at H2;go_enter Tryz.func107, Tryz.ntmps107;go_wp2_with (first | (refine (H1.out _).mono ?_; clear H1; rintro e w' ⟨rfl, rfl⟩) | (refine (H2.out _).mono ?_; rintro e w' ⟨rfl, rfl⟩))
  all_goals (go_ret; exact ⟨rfl, ((Gr.refl _).alloc _).alloc _⟩)
theorem j4R (t : NodeT) (a : Option Addr) (cap : Nat) (w : World) (hk : t.kind = 1) :
    Calls Tryz.prog 176 #[jSk t a t.args.length cap] w fun e w' => e = .returned (.bool (j0N false true false false false false false false t && decide (t.x % 9223372036854775808 < 9218868437227405312) && ((t.x : Int) / 9223372036854775808 == 0))) /\ Gr w w' := by
 obtain ⟨w0, hw0, hg0, hs0, hN⟩ := boxN w t a t.args.length cap 49;have HN := h_ hN;obtain ⟨c0, c1, c2, c3, c4, c5, c6, c7, c8, c9, c10, c11, c12, c13, c14⟩ := hN;simp only [Nat.zero_add] at c0 c1 c2 c3 c4 c5 c6 c7 c8 c9 c10 c11 c12 c13 c14;have HG0 := h_ hg0;have HB := h_ (bare_2 t a cap);generalize j0N false true false false false false false false t = bb at HB ⊢;have H1 := h_ (j2p t.x);generalize decide (t.x % 9223372036854775808 < 9218868437227405312) = ff at H1 ⊢;have e1 : (t.kind == 1) = true := (by rw [hk]; rfl);clear hg0 hk;go_enter Tryz.func176, Tryz.ntmps176
 go_wp2_with (first | (go_at_call 192; refine (HB.out _).mono ?_; rintro e w2 ⟨rfl, hg2⟩; have HG2 := h_ hg2; have hN2 := HN.out.xt hg2.xt; clear hg2 c0 c1 c2 c3 c4 c5 c6 c7 c8 c9 c10 c11 c12 c13 c14; obtain ⟨c0, c1, c2, c3, c4, c5, c6, c7, c8, c9, c10, c11, c12, c13, c14⟩ := hN2; simp only [Nat.zero_add] at c0 c1 c2 c3 c4 c5 c6 c7 c8 c9 c10 c11 c12 c13 c14) | (go_at_call 191; refine (H1.out _).mono ?_; rintro e w' ⟨rfl, rfl⟩))
 all_goals (go_ret; refine ⟨?_, HG0.out.trans HG2.out⟩; first | (simp [*]; done) | (simp [*]; omega) | (simp [*]; intros; exfalso; omega) | trace_state)
theorem zOR (t : NodeT) (a : Option Addr) (cap : Nat) (w : World) (hk : t.kind = 2) (hs : t.s.size < 4611686018427387904) :
    Calls Tryz.prog 176 #[jSk t a t.args.length cap] w fun e w' => e = .returned (.bool (j0N false false true false false false false false t && Lib.validD t.s.data.toList && decide ((t.s.size : Int) <= 1024))) /\ Gr w w' := by
 obtain ⟨w0, hw0, hg0, hs0, hN⟩ := boxN w t a t.args.length cap 49;have HN := h_ hN;obtain ⟨c0, c1, c2, c3, c4, c5, c6, c7, c8, c9, c10, c11, c12, c13, c14⟩ := hN;simp only [Nat.zero_add] at c0 c1 c2 c3 c4 c5 c6 c7 c8 c9 c10 c11 c12 c13 c14;have HG0 := h_ hg0;have HB := h_ (bare_4 t a cap);generalize j0N false false true false false false false false t = bb at HB ⊢;have H1 := h_ (z2A t.s hs);generalize Lib.validD t.s.data.toList = vd at H1 ⊢;have e1 : (t.kind == 1) = false := (by rw [hk]; rfl);have e2 : (t.kind == 2) = true := (by rw [hk]; rfl);clear hg0 hk;go_enter Tryz.func176, Tryz.ntmps176
 go_wp2_with (first | (go_at_call 192; refine (HB.out _).mono ?_; rintro e w2 ⟨rfl, hg2⟩; have HG2 := h_ hg2; have hN2 := HN.out.xt hg2.xt; clear hg2 c0 c1 c2 c3 c4 c5 c6 c7 c8 c9 c10 c11 c12 c13 c14; obtain ⟨c0, c1, c2, c3, c4, c5, c6, c7, c8, c9, c10, c11, c12, c13, c14⟩ := hN2; simp only [Nat.zero_add] at c0 c1 c2 c3 c4 c5 c6 c7 c8 c9 c10 c11 c12 c13 c14) | (go_at_call 136; refine (H1.out _).mono ?_; rintro e w' ⟨rfl, rfl⟩))
 all_goals (go_ret; refine ⟨?_, HG0.out.trans HG2.out⟩; first | (simp [*]; done) | (simp [*]; omega) | (simp [*]; intros; exfalso; omega) | trace_state)
theorem yQS (t : NodeT) (a : Option Addr) (cap : Nat) (w : World) (hk : t.kind = 3) :
    Calls Tryz.prog 176 #[jSk t a t.args.length cap] w fun e w' => e = .returned (.bool (j0N false false false true false false false false t)) /\ Gr w w' := by
 obtain ⟨w0, hw0, hg0, hs0, hN⟩ := boxN w t a t.args.length cap 49;have HN := h_ hN;obtain ⟨c0, c1, c2, c3, c4, c5, c6, c7, c8, c9, c10, c11, c12, c13, c14⟩ := hN;simp only [Nat.zero_add] at c0 c1 c2 c3 c4 c5 c6 c7 c8 c9 c10 c11 c12 c13 c14;have HG0 := h_ hg0;have HB := h_ (bare_8 t a cap);generalize j0N false false false true false false false false t = bb at HB ⊢;have e1 : (t.kind == 1) = false := (by rw [hk]; rfl);have e2 : (t.kind == 2) = false := (by rw [hk]; rfl);have e3 : (t.kind == 3) = true := (by rw [hk]; rfl);clear hg0 hk;go_enter Tryz.func176, Tryz.ntmps176
 go_wp2_with (first | (go_at_call 192; refine (HB.out _).mono ?_; rintro e w2 ⟨rfl, hg2⟩; have HG2 := h_ hg2; have hN2 := HN.out.xt hg2.xt; clear hg2 c0 c1 c2 c3 c4 c5 c6 c7 c8 c9 c10 c11 c12 c13 c14; obtain ⟨c0, c1, c2, c3, c4, c5, c6, c7, c8, c9, c10, c11, c12, c13, c14⟩ := hN2; simp only [Nat.zero_add] at c0 c1 c2 c3 c4 c5 c6 c7 c8 c9 c10 c11 c12 c13 c14))
 all_goals (go_ret; refine ⟨?_, HG0.out.trans HG2.out⟩; first | (simp [*]; done) | (simp [*]; omega) | (simp [*]; intros; exfalso; omega) | trace_state)
theorem z3M (t : NodeT) (a : Option Addr) (cap : Nat) (w : World) (hk : t.kind = 4) :
    Calls Tryz.prog 176 #[jSk t a t.args.length cap] w fun e w' => e = .returned (.bool (j0N false false false false true false false false t && decide (1 <= t.f) && decide (t.f <= 5))) /\ Gr w w' := by
 obtain ⟨w0, hw0, hg0, hs0, hN⟩ := boxN w t a t.args.length cap 49;have HN := h_ hN;obtain ⟨c0, c1, c2, c3, c4, c5, c6, c7, c8, c9, c10, c11, c12, c13, c14⟩ := hN;simp only [Nat.zero_add] at c0 c1 c2 c3 c4 c5 c6 c7 c8 c9 c10 c11 c12 c13 c14;have HG0 := h_ hg0;have HB := h_ (bare_16 t a cap);generalize j0N false false false false true false false false t = bb at HB ⊢;have e1 : (t.kind == 1) = false := (by rw [hk]; rfl);have e2 : (t.kind == 2) = false := (by rw [hk]; rfl);have e3 : (t.kind == 3) = false := (by rw [hk]; rfl);have e4 : (t.kind == 4) = true := (by rw [hk]; rfl);clear hg0 hk;go_enter Tryz.func176, Tryz.ntmps176
 go_wp2_with (first | (go_at_call 192; refine (HB.out _).mono ?_; rintro e w2 ⟨rfl, hg2⟩; have HG2 := h_ hg2; have hN2 := HN.out.xt hg2.xt; clear hg2 c0 c1 c2 c3 c4 c5 c6 c7 c8 c9 c10 c11 c12 c13 c14; obtain ⟨c0, c1, c2, c3, c4, c5, c6, c7, c8, c9, c10, c11, c12, c13, c14⟩ := hN2; simp only [Nat.zero_add] at c0 c1 c2 c3 c4 c5 c6 c7 c8 c9 c10 c11 c12 c13 c14))
 all_goals (go_ret; refine ⟨?_, HG0.out.trans HG2.out⟩; first | (simp [*]; done) | (simp [*]; omega) | (simp [*]; intros; exfalso; omega) | trace_state)
theorem zgp (t : NodeT) (a : Option Addr) (cap : Nat) (w : World) (hk : t.kind = 5) :
    Calls Tryz.prog 176 #[jSk t a t.args.length cap] w fun e w' => e = .returned (.bool (j0N false false false false false true false false t)) /\ Gr w w' := by
 obtain ⟨w0, hw0, hg0, hs0, hN⟩ := boxN w t a t.args.length cap 49;have HN := h_ hN;obtain ⟨c0, c1, c2, c3, c4, c5, c6, c7, c8, c9, c10, c11, c12, c13, c14⟩ := hN;simp only [Nat.zero_add] at c0 c1 c2 c3 c4 c5 c6 c7 c8 c9 c10 c11 c12 c13 c14;have HG0 := h_ hg0;have HB := h_ (bare_32 t a cap);generalize j0N false false false false false true false false t = bb at HB ⊢;have e1 : (t.kind == 1) = false := (by rw [hk]; rfl);have e2 : (t.kind == 2) = false := (by rw [hk]; rfl);have e3 : (t.kind == 3) = false := (by rw [hk]; rfl);have e4 : (t.kind == 4) = false := (by rw [hk]; rfl);have e5 : (t.kind == 5) = true := (by rw [hk]; rfl);clear hg0 hk;go_enter Tryz.func176, Tryz.ntmps176
 go_wp2_with (first | (go_at_call 192; refine (HB.out _).mono ?_; rintro e w2 ⟨rfl, hg2⟩; have HG2 := h_ hg2; have hN2 := HN.out.xt hg2.xt; clear hg2 c0 c1 c2 c3 c4 c5 c6 c7 c8 c9 c10 c11 c12 c13 c14; obtain ⟨c0, c1, c2, c3, c4, c5, c6, c7, c8, c9, c10, c11, c12, c13, c14⟩ := hN2; simp only [Nat.zero_add] at c0 c1 c2 c3 c4 c5 c6 c7 c8 c9 c10 c11 c12 c13 c14))
 all_goals (go_ret; refine ⟨?_, HG0.out.trans HG2.out⟩; first | (simp [*]; done) | (simp [*]; omega) | (simp [*]; intros; exfalso; omega) | trace_state)
theorem y15 (t : NodeT) (a : Option Addr) (cap : Nat) (w : World) (hk : t.kind = 6) :
    Calls Tryz.prog 176 #[jSk t a t.args.length cap] w fun e w' => e = .returned (.bool (j0N false false false false false true true false t)) /\ Gr w w' := by
 obtain ⟨w0, hw0, hg0, hs0, hN⟩ := boxN w t a t.args.length cap 49;have HN := h_ hN;obtain ⟨c0, c1, c2, c3, c4, c5, c6, c7, c8, c9, c10, c11, c12, c13, c14⟩ := hN;simp only [Nat.zero_add] at c0 c1 c2 c3 c4 c5 c6 c7 c8 c9 c10 c11 c12 c13 c14;have HG0 := h_ hg0;have HB := h_ (bare_96 t a cap);generalize j0N false false false false false true true false t = bb at HB ⊢;have e1 : (t.kind == 1) = false := (by rw [hk]; rfl);have e2 : (t.kind == 2) = false := (by rw [hk]; rfl);have e3 : (t.kind == 3) = false := (by rw [hk]; rfl);have e4 : (t.kind == 4) = false := (by rw [hk]; rfl);have e5 : (t.kind == 5) = false := (by rw [hk]; rfl);have e6 : (t.kind == 6) = true := by rw [hk]; rfl
 clear hg0 hk;go_enter Tryz.func176, Tryz.ntmps176;go_wp2_with (first | (go_at_call 192; refine (HB.out _).mono ?_; rintro e w2 ⟨rfl, hg2⟩; have HG2 := h_ hg2; have hN2 := HN.out.xt hg2.xt; clear hg2 c0 c1 c2 c3 c4 c5 c6 c7 c8 c9 c10 c11 c12 c13 c14; obtain ⟨c0, c1, c2, c3, c4, c5, c6, c7, c8, c9, c10, c11, c12, c13, c14⟩ := hN2; simp only [Nat.zero_add] at c0 c1 c2 c3 c4 c5 c6 c7 c8 c9 c10 c11 c12 c13 c14))
 all_goals (go_ret; refine ⟨?_, HG0.out.trans HG2.out⟩; first | (simp [*]; done) | (simp [*]; omega) | (simp [*]; intros; exfalso; omega) | trace_state)
theorem jk2 (t : NodeT) (a : Option Addr) (cap : Nat) (w : World) (hk : t.kind = 7) :
    Calls Tryz.prog 176 #[jSk t a t.args.length cap] w fun e w' => e = .returned (.bool (j0N true false false false false false false true t && decide (1 <= t.op) && decide (t.op <= 3) && ((t.args.length : Int) == 1))) /\ Gr w w' := by
 obtain ⟨w0, hw0, hg0, hs0, hN⟩ := boxN w t a t.args.length cap 49;have HN := h_ hN;obtain ⟨c0, c1, c2, c3, c4, c5, c6, c7, c8, c9, c10, c11, c12, c13, c14⟩ := hN;simp only [Nat.zero_add] at c0 c1 c2 c3 c4 c5 c6 c7 c8 c9 c10 c11 c12 c13 c14;have HG0 := h_ hg0;have HB := h_ (yB6 t a cap);generalize j0N true false false false false false false true t = bb at HB ⊢;have e1 : (t.kind == 1) = false := (by rw [hk]; rfl);have e2 : (t.kind == 2) = false := (by rw [hk]; rfl);have e3 : (t.kind == 3) = false := (by rw [hk]; rfl);have e4 : (t.kind == 4) = false := (by rw [hk]; rfl);have e5 : (t.kind == 5) = false := (by rw [hk]; rfl);have e6 : (t.kind == 6) = false := by rw [hk]; rfl
 have e7 : (t.kind == 7) = true := (by rw [hk]; rfl);clear hg0 hk;go_enter Tryz.func176, Tryz.ntmps176;go_wp2_with (first | (go_at_call 192; refine (HB.out _).mono ?_; rintro e w2 ⟨rfl, hg2⟩; have HG2 := h_ hg2; have hN2 := HN.out.xt hg2.xt; clear hg2 c0 c1 c2 c3 c4 c5 c6 c7 c8 c9 c10 c11 c12 c13 c14; obtain ⟨c0, c1, c2, c3, c4, c5, c6, c7, c8, c9, c10, c11, c12, c13, c14⟩ := hN2; simp only [Nat.zero_add] at c0 c1 c2 c3 c4 c5 c6 c7 c8 c9 c10 c11 c12 c13 c14))
 all_goals (go_ret; refine ⟨?_, HG0.out.trans HG2.out⟩; first | (simp [*]; done) | (simp [*]; omega) | (simp [*]; intros; exfalso; omega) | trace_state)
theorem jid (t : NodeT) (a : Option Addr) (cap : Nat) (w : World) (hk : t.kind = 8) :
    Calls Tryz.prog 176 #[jSk t a t.args.length cap] w fun e w' => e = .returned (.bool (j0N true false false false false false false true t && decide (4 <= t.op) && decide (t.op <= 15) && ((t.args.length : Int) == 2))) /\ Gr w w' := by
 obtain ⟨w0, hw0, hg0, hs0, hN⟩ := boxN w t a t.args.length cap 49;have HN := h_ hN;obtain ⟨c0, c1, c2, c3, c4, c5, c6, c7, c8, c9, c10, c11, c12, c13, c14⟩ := hN;simp only [Nat.zero_add] at c0 c1 c2 c3 c4 c5 c6 c7 c8 c9 c10 c11 c12 c13 c14;have HG0 := h_ hg0;have HB := h_ (yB6 t a cap);generalize j0N true false false false false false false true t = bb at HB ⊢;have e1 : (t.kind == 1) = false := (by rw [hk]; rfl);have e2 : (t.kind == 2) = false := (by rw [hk]; rfl);have e3 : (t.kind == 3) = false := (by rw [hk]; rfl);have e4 : (t.kind == 4) = false := (by rw [hk]; rfl);have e5 : (t.kind == 5) = false := (by rw [hk]; rfl);have e6 : (t.kind == 6) = false := by rw [hk]; rfl
 have e7 : (t.kind == 7) = false := (by rw [hk]; rfl);have e8 : (t.kind == 8) = true := (by rw [hk]; rfl);clear hg0 hk;go_enter Tryz.func176, Tryz.ntmps176;go_wp2_with (first | (go_at_call 192; refine (HB.out _).mono ?_; rintro e w2 ⟨rfl, hg2⟩; have HG2 := h_ hg2; have hN2 := HN.out.xt hg2.xt; clear hg2 c0 c1 c2 c3 c4 c5 c6 c7 c8 c9 c10 c11 c12 c13 c14; obtain ⟨c0, c1, c2, c3, c4, c5, c6, c7, c8, c9, c10, c11, c12, c13, c14⟩ := hN2; simp only [Nat.zero_add] at c0 c1 c2 c3 c4 c5 c6 c7 c8 c9 c10 c11 c12 c13 c14))
 all_goals (go_ret; refine ⟨?_, HG0.out.trans HG2.out⟩; first | (simp [*]; done) | (simp [*]; omega) | (simp [*]; intros; exfalso; omega) | trace_state)
theorem yxm (t : NodeT) (a : Option Addr) (cap : Nat) (w : World) (hk : t.kind = 9) :
    Calls Tryz.prog 176 #[jSk t a t.args.length cap] w fun e w' => e = .returned (.bool (j0N false false true false false false false true t)) /\ Gr w w' := by
 obtain ⟨w0, hw0, hg0, hs0, hN⟩ := boxN w t a t.args.length cap 49;have HN := h_ hN;obtain ⟨c0, c1, c2, c3, c4, c5, c6, c7, c8, c9, c10, c11, c12, c13, c14⟩ := hN;simp only [Nat.zero_add] at c0 c1 c2 c3 c4 c5 c6 c7 c8 c9 c10 c11 c12 c13 c14;have HG0 := h_ hg0;have HB := h_ (z7m t a cap);generalize j0N false false true false false false false true t = bb at HB ⊢;have e1 : (t.kind == 1) = false := (by rw [hk]; rfl);have e2 : (t.kind == 2) = false := (by rw [hk]; rfl);have e3 : (t.kind == 3) = false := (by rw [hk]; rfl);have e4 : (t.kind == 4) = false := (by rw [hk]; rfl);have e5 : (t.kind == 5) = false := (by rw [hk]; rfl);have e6 : (t.kind == 6) = false := by rw [hk]; rfl
 have e7 : (t.kind == 7) = false := (by rw [hk]; rfl);have e8 : (t.kind == 8) = false := (by rw [hk]; rfl);have e9 : (t.kind == 9) = true := (by rw [hk]; rfl);clear hg0 hk;go_enter Tryz.func176, Tryz.ntmps176;go_wp2_with (first | (go_at_call 192; refine (HB.out _).mono ?_; rintro e w2 ⟨rfl, hg2⟩; have HG2 := h_ hg2; have hN2 := HN.out.xt hg2.xt; clear hg2 c0 c1 c2 c3 c4 c5 c6 c7 c8 c9 c10 c11 c12 c13 c14; obtain ⟨c0, c1, c2, c3, c4, c5, c6, c7, c8, c9, c10, c11, c12, c13, c14⟩ := hN2; simp only [Nat.zero_add] at c0 c1 c2 c3 c4 c5 c6 c7 c8 c9 c10 c11 c12 c13 c14))
 all_goals (go_ret; refine ⟨?_, HG0.out.trans HG2.out⟩; first | (simp [*]; done) | (simp [*]; omega) | (simp [*]; intros; exfalso; omega) | trace_state)
theorem one0 (x : Nat) : (((oneX x : Nat) : Int) = ((oneX 0 : Nat) : Int)) = ((x : Int) = 0) := by
 have h0 : nanX 0 = false := (by decide);have e0 : oneX 0 = 0 := (by rw [oneX_eq, h0]; rfl);rw [e0, oneX_eq, eq_iff_iff];by_cases h : nanX x = true
 . have h2 : x ≠ 0 := (by intro e; rw [e, h0] at h; cases h);rw [if_pos h];constructor
   . intro e; exact absurd e (by decide)
   . intro e; exact absurd (by omega) h2
 . rw [if_neg h]; exact Iff.rfl
theorem ref0 (r : RefT) : refB r zR = (decide (r.a.1 = 0) && decide (r.a.2 = 0) && !r.cf && !r.rf) := by
 obtain ⟨⟨a, b⟩, c, d⟩ := r;unfold refB;cases c <;> cases d <;> simp
theorem refR (r : RefT) : refB r r = true := by unfold refB; simp
theorem len0 (l : List NodeT) : (0 == (l.length : Int)) = ((l.length : Int) == 0) := by rw [Bool.eq_iff_iff]; simp only [beq_iff_eq]; omega
theorem len1 (l : List NodeT) : (1 == (l.length : Int)) = ((l.length : Int) == 1) := by rw [Bool.eq_iff_iff]; simp only [beq_iff_eq]; omega
theorem len2 (l : List NodeT) : (2 == (l.length : Int)) = ((l.length : Int) == 2) := by rw [Bool.eq_iff_iff]; simp only [beq_iff_eq]; omega
theorem z75 (t : NodeT) (a : Option Addr) (cap : Nat) (w : World) (hok : t.ok) :
    Calls Tryz.prog 176 #[jSk t a t.args.length cap] w fun e w' => e = .returned (.bool (zGb t)) /\ Gr w w' := by
 have hx := NodeT.ok_x hok;have hs := NodeT.ok_sz hok;clear hok;by_cases h1 : t.kind = 1
 . refine (j4R t a cap w h1).mono fun e w' h => ⟨h.1.trans ?_, h.2⟩;obtain ⟨k, op, x, s, b, f, r, q, args⟩ := t;simp only [NodeT.kind, NodeT.x] at h1 hx;subst h1;simp only [zGb, reduceIte, Int.reduceEq, num_eq hx];simp only [j0N, zmd, ref0, len0, yBc, NodeT.kind, NodeT.op, NodeT.x, NodeT.s, NodeT.b, NodeT.f, NodeT.ref, NodeT.to, NodeT.args, Bool.true_or, Bool.false_or, decide_true, Bool.true_and, Bool.and_true];refine congrArg (fun z => Ending.returned (.bool z)) ?_;cases b <;> (try simp only [Bool.not_true, Bool.not_false, decide_true, decide_false, Bool.and_false, Bool.false_and, Bool.and_true, Bool.true_eq_false]) <;> ac_rfl
 by_cases h2 : t.kind = 2
 . refine (zOR t a cap w h2 hs).mono fun e w' h => ⟨h.1.trans ?_, h.2⟩;obtain ⟨k, op, x, s, b, f, r, q, args⟩ := t;simp only [NodeT.kind] at h2;subst h2;simp only [zGb, reduceIte, Int.reduceEq];simp only [j0N, zmd, ref0, len0, one0, NodeT.kind, NodeT.op, NodeT.x, NodeT.s, NodeT.b, NodeT.f, NodeT.ref, NodeT.to, NodeT.args, Bool.true_or, Bool.false_or, decide_true, Bool.true_and, Bool.and_true];refine congrArg (fun z => Ending.returned (.bool z)) ?_;cases b <;> (try simp only [Bool.not_true, Bool.not_false, decide_true, decide_false, Bool.and_false, Bool.false_and, Bool.and_true, Bool.true_eq_false]) <;> ac_rfl
 by_cases h3 : t.kind = 3
 . refine (yQS t a cap w h3).mono fun e w' h => ⟨h.1.trans ?_, h.2⟩;obtain ⟨k, op, x, s, b, f, r, q, args⟩ := t;simp only [NodeT.kind] at h3;subst h3;simp only [zGb, reduceIte, Int.reduceEq];simp only [j0N, zmd, ref0, len0, one0, yBc, NodeT.kind, NodeT.op, NodeT.x, NodeT.s, NodeT.b, NodeT.f, NodeT.ref, NodeT.to, NodeT.args, Bool.true_or, Bool.false_or, decide_true, Bool.true_and, Bool.and_true];refine congrArg (fun z => Ending.returned (.bool z)) ?_;cases b <;> (try simp only [Bool.not_true, Bool.not_false, decide_true, decide_false, Bool.and_false, Bool.false_and, Bool.and_true, Bool.true_and, Bool.true_eq_false, Bool.false_eq_true]) <;> ac_rfl
 by_cases h4 : t.kind = 4
 . refine (z3M t a cap w h4).mono fun e w' h => ⟨h.1.trans ?_, h.2⟩;obtain ⟨k, op, x, s, b, f, r, q, args⟩ := t;simp only [NodeT.kind] at h4;subst h4;simp only [zGb, reduceIte, Int.reduceEq];simp only [j0N, zmd, ref0, len0, one0, yBc, NodeT.kind, NodeT.op, NodeT.x, NodeT.s, NodeT.b, NodeT.f, NodeT.ref, NodeT.to, NodeT.args, Bool.true_or, Bool.false_or, decide_true, Bool.true_and, Bool.and_true];refine congrArg (fun z => Ending.returned (.bool z)) ?_;cases b <;> (try simp only [Bool.not_true, Bool.not_false, decide_true, decide_false, Bool.and_false, Bool.false_and, Bool.and_true, Bool.true_eq_false]) <;> ac_rfl
 by_cases h5 : t.kind = 5
 . refine (zgp t a cap w h5).mono fun e w' h => ⟨h.1.trans ?_, h.2⟩;obtain ⟨k, op, x, s, b, f, r, q, args⟩ := t;simp only [NodeT.kind] at h5;subst h5;simp only [zGb, reduceIte, Int.reduceEq];simp only [j0N, zmd, ref0, refR, len0, one0, yBc, NodeT.kind, NodeT.op, NodeT.x, NodeT.s, NodeT.b, NodeT.f, NodeT.ref, NodeT.to, NodeT.args, Bool.true_or, Bool.false_or, decide_true, Bool.true_and, Bool.and_true];refine congrArg (fun z => Ending.returned (.bool z)) ?_;cases b <;> (try simp only [Bool.not_true, Bool.not_false, decide_true, decide_false, Bool.and_false, Bool.false_and, Bool.and_true, Bool.true_eq_false]) <;> ac_rfl
 by_cases h6 : t.kind = 6
 . refine (y15 t a cap w h6).mono fun e w' h => ⟨h.1.trans ?_, h.2⟩;obtain ⟨k, op, x, s, b, f, r, q, args⟩ := t;simp only [NodeT.kind] at h6;subst h6;simp only [zGb, reduceIte, Int.reduceEq];simp only [j0N, zmd, refR, len0, one0, yBc, NodeT.kind, NodeT.op, NodeT.x, NodeT.s, NodeT.b, NodeT.f, NodeT.ref, NodeT.to, NodeT.args, Bool.true_or, Bool.false_or, decide_true, Bool.true_and, Bool.and_true];refine congrArg (fun z => Ending.returned (.bool z)) ?_;cases b <;> (try simp only [Bool.not_true, Bool.not_false, decide_true, decide_false, Bool.and_false, Bool.false_and, Bool.and_true, Bool.true_eq_false]) <;> ac_rfl
 by_cases h7 : t.kind = 7
 . refine (jk2 t a cap w h7).mono fun e w' h => ⟨h.1.trans ?_, h.2⟩;obtain ⟨k, op, x, s, b, f, r, q, args⟩ := t;simp only [NodeT.kind] at h7;subst h7;simp only [zGb, reduceIte, Int.reduceEq];simp only [j0N, zmd, ref0, len1, one0, yBc, NodeT.kind, NodeT.op, NodeT.x, NodeT.s, NodeT.b, NodeT.f, NodeT.ref, NodeT.to, NodeT.args, Bool.true_or, Bool.false_or, decide_true, Bool.true_and, Bool.and_true];refine congrArg (fun z => Ending.returned (.bool z)) ?_;cases b <;> (try simp only [Bool.not_true, Bool.not_false, decide_true, decide_false, Bool.and_false, Bool.false_and, Bool.and_true, Bool.true_eq_false]) <;> ac_rfl
 by_cases h8 : t.kind = 8
 . refine (jid t a cap w h8).mono fun e w' h => ⟨h.1.trans ?_, h.2⟩;obtain ⟨k, op, x, s, b, f, r, q, args⟩ := t;simp only [NodeT.kind] at h8;subst h8;simp only [zGb, reduceIte, Int.reduceEq];simp only [j0N, zmd, ref0, len2, one0, yBc, NodeT.kind, NodeT.op, NodeT.x, NodeT.s, NodeT.b, NodeT.f, NodeT.ref, NodeT.to, NodeT.args, Bool.true_or, Bool.false_or, decide_true, Bool.true_and, Bool.and_true];refine congrArg (fun z => Ending.returned (.bool z)) ?_;cases b <;> (try simp only [Bool.not_true, Bool.not_false, decide_true, decide_false, Bool.and_false, Bool.false_and, Bool.and_true, Bool.true_eq_false]) <;> ac_rfl
 by_cases h9 : t.kind = 9
 . refine (yxm t a cap w h9).mono fun e w' h => ⟨h.1.trans ?_, h.2⟩;obtain ⟨k, op, x, s, b, f, r, q, args⟩ := t;simp only [NodeT.kind] at h9;subst h9;simp only [zGb, reduceIte, Int.reduceEq];simp only [j0N, zmd, ref0, one0, NodeT.kind, NodeT.op, NodeT.x, NodeT.s, NodeT.b, NodeT.f, NodeT.ref, NodeT.to, NodeT.args, Bool.true_or, Bool.false_or, decide_true, Bool.true_and, Bool.and_true, beq_self_eq_true];refine congrArg (fun z => Ending.returned (.bool z)) ?_;cases b <;> (try simp only [Bool.not_true, Bool.not_false, decide_true, decide_false, Bool.and_false, Bool.false_and, Bool.and_true, Bool.true_eq_false]) <;> ac_rfl
 have hm : zGb t = false := by
  obtain ⟨k, op, x, s, b, f, r, q, args⟩ := t;simp only [NodeT.kind] at h1 h2 h3 h4 h5 h6 h7 h8 h9;simp only [zGb, h1, h2, h3, h4, h5, h6, h7, h8, h9, if_false]
 rw [hm];have e1 : (t.kind == 1) = false := (by simpa using h1);have e2 : (t.kind == 2) = false := (by simpa using h2);have e3 : (t.kind == 3) = false := (by simpa using h3);have e4 : (t.kind == 4) = false := (by simpa using h4);have e5 : (t.kind == 5) = false := (by simpa using h5);have e6 : (t.kind == 6) = false := (by simpa using h6);have e7 : (t.kind == 7) = false := (by simpa using h7);have e8 : (t.kind == 8) = false := (by simpa using h8);have e9 : (t.kind == 9) = false := (by simpa using h9);obtain ⟨w0, hw0, hg0, hs0, hN⟩ := boxN w t a t.args.length cap 49;have c0 := hN.c0;have HG0 := h_ hg0;clear h1 h2 h3 h4 h5 h6 h7 h8 h9 hN hg0 hm;go_enter Tryz.func176, Tryz.ntmps176
 go_wp2_with fail;go_ret;exact ⟨rfl, HG0.out⟩
def zuS (cols : Bool) : Int := if cols then 256 else 4096
theorem yRB (cols : Bool) (a n : Int) (w : World) : Calls Tryz.prog 86 #[.bool cols, a, .int .i64 n] w fun e w' => e = .returned (.tuple #[.int .i64 (zuS cols), .bool (jls (zuS cols) a n).2]) /\ w = w' := by
 have neg1 := yWE;have neg2 := jOu;cases cols
 . unfold jls zuS;by_cases h1 : 1 <= a
   . by_cases h2 : a <= 4096
     . by_cases h3 : -4096 <= n
       . have h3' : IntKind.i64.wrap (-4096) <= n := (by rw [neg1]; exact h3);by_cases h4 : n <= 4096
         . go_enter Tryz.func86, Tryz.ntmps86;go_wp2_with fail
           go_ret2
           exact ⟨by simp, rfl⟩
         . go_enter Tryz.func86, Tryz.ntmps86;go_wp2_with fail
           go_ret2
           exact ⟨by simp [h4], rfl⟩
       . have h3' : ¬ IntKind.i64.wrap (-4096) <= n := (by rw [neg1]; exact h3);go_enter Tryz.func86, Tryz.ntmps86;go_wp2_with fail
         go_ret2
         exact ⟨by simp <;> (intros; omega), rfl⟩
     . go_enter Tryz.func86, Tryz.ntmps86;go_wp2_with fail
       go_ret2
       exact ⟨by simp <;> (intros; omega), rfl⟩
   . go_enter Tryz.func86, Tryz.ntmps86;go_wp2_with fail
     go_ret2
     exact ⟨by simp <;> (intros; omega), rfl⟩
 . unfold jls zuS;by_cases h1 : 1 <= a
   . by_cases h2 : a <= 256
     . by_cases h3 : -256 <= n
       . have h3' : IntKind.i64.wrap (-256) <= n := (by rw [neg2]; exact h3);by_cases h4 : n <= 256
         . go_enter Tryz.func86, Tryz.ntmps86;go_wp2_with fail
           go_ret2
           exact ⟨by simp, rfl⟩
         . go_enter Tryz.func86, Tryz.ntmps86;go_wp2_with fail
           go_ret2
           exact ⟨by simp [h4], rfl⟩
       . have h3' : ¬ IntKind.i64.wrap (-256) <= n := (by rw [neg2]; exact h3);go_enter Tryz.func86, Tryz.ntmps86;go_wp2_with fail
         go_ret2
         exact ⟨by simp <;> (intros; omega), rfl⟩
     . go_enter Tryz.func86, Tryz.ntmps86;go_wp2_with fail
       go_ret2
       exact ⟨by simp <;> (intros; omega), rfl⟩
   . go_enter Tryz.func86, Tryz.ntmps86;go_wp2_with fail
     go_ret2
     exact ⟨by simp <;> (intros; omega), rfl⟩
theorem j5u {m : Nat} {a n k : Int} (hm : m <= 4096) (ha : 1 <= a /\ a <= m) (hn : -(m : Int) <= n /\ n <= m) (hk : 1 <= k /\ k <= m) : (jLa ⟨a, n, m⟩ k).2 = decide (0 < yMh m a n k) /\ ((jLa ⟨a, n, m⟩ k).2 = true -> (jLa ⟨a, n, m⟩ k).1 = yMh m a n k) := by
 have w1 : wrap64 (k + n) = k + n := (by unfold wrap64; omega);have w2 : wrap64 (a - n) = a - n := (by unfold wrap64; omega);unfold jLa yMh;simp only [w1, w2];rw [if_neg (by omega : ¬ k < 1)];by_cases h1 : k < a
 . rw [if_pos h1, if_pos h1]; simp; omega
 . rw [if_neg h1, if_neg h1];by_cases h2 : 0 <= n
   . rw [if_pos h2, if_pos h2];by_cases h3 : k + n <= m
     . rw [if_pos h3]; simp [h3]; omega
     . rw [if_neg h3]; simp [h3]
   . rw [if_neg h2, if_neg h2];by_cases h3 : k < a - n
     . rw [if_pos h3]; simp; omega
     . rw [if_neg h3]; simp; omega
theorem jIK {w : World} {g m : Nat} {a n : Int} (h : RowL w g 3 (m + 1) 1 intC (jpe m a n)) {k : Int} (h0 : 0 <= k) (hk : k <= m) : ∃ j : Nat, (j : Int) = k /\ j < m + 1 /\ c_ w g j (.int .i64 (yMh m a n k)) := by
 refine ⟨k.toNat, by omega, by omega, ?_⟩;have := h.cell (jkY (m := m) (a := a) (n := n) (k := k.toNat) (by omega)) 0 _ rfl;have e : ((k.toNat : Nat) : Int) = k := (by omega);simpa [e] using this
theorem jAI (m g : Nat) (a n f t : Int) (w : World) (hm : m <= 4096) (ha : 1 <= a /\ a <= m) (hn : -(m : Int) <= n /\ n <= m) (hrow : RowL w g 3 (m + 1) 1 intC (jpe m a n)) (hf : 1 <= f) (ht : t <= m) :
    Calls Tryz.prog 128 #[.slice (some ⟨g, 0, none⟩) (m + 1) (m + 1), f, t] w fun e w' => e = .returned (.tuple #[.int .i64 (yJ8 ⟨a, n, m⟩ f t).1, .int .i64 (yJ8 ⟨a, n, m⟩ f t).2.1, .bool (yJ8 ⟨a, n, m⟩ f t).2.2]) /\ w = w' := by
 have HRW := h_ hrow;unfold yJ8;obtain ⟨r, hr0⟩ := e_ (jq8 ⟨a, n, m⟩ (t - f + 1).toNat f 0 0);have HR := h_ hr0;rw [hr0];have HA := h_ ha;have HN := h_ hn;clear hr0 hrow ha hn;go_enter Tryz.func128, Tryz.ntmps128;go_wp2_with fail
 go_loopw [9, 10, 11] (fun s9 s10 s11 wr => ∃ k x y : Int, 1 <= k /\ s11 = .int .i64 k /\ s9 = .int .i64 x /\ s10 = .int .i64 y /\ Hid (jq8 ⟨a, n, m⟩ (t - k + 1).toNat k x y = r) /\ w = wr) (fun _ _ s11 _ => (t + 1 - intOf s11).toNat)
 case atStart => exact ⟨f, 0, 0, hf, rfl, rfl, rfl, HR, rfl⟩
 case round =>
  obtain ⟨k, x, y, hk, rfl, rfl, rfl, HS, rfl⟩ := hrel;by_cases hlt : k <= t
  . have hst := HS.out;rw [yWD hlt] at hst;obtain ⟨l1, l2⟩ := j5u hm HA.out HN.out (k := k) ⟨hk, by omega⟩;obtain ⟨j, hj, hjm, hcell⟩ := jIK HRW.out (k := k) (by omega) (by omega);rw [l1] at hst l2;obtain ⟨v, hv⟩ := e_ (yMh m a n k);rw [hv] at hst l2 hcell;have hadd : wrap64 (k + 1) = k + 1 := (by unfold wrap64; omega);have hjl : j < m + 1 := hjm;subst hj;by_cases hv0 : 0 < v
    . rw [if_pos (by simpa using hv0), l2 (by simpa using hv0)] at hst;have HST := h_ hst;clear hst l1 l2 hv;by_cases hx : x = 0
      . subst hx;have HN2 : Hid (jq8 ⟨a, n, m⟩ (t - ((j : Int) + 1) + 1).toNat ((j : Int) + 1) v v = r) := (by have h := HST.out; unfold Hid; simpa using h);go_wp2_with fail;go_roundw
        case rel => exact ⟨(j : Int) + 1, v, v, by omega, by go_num, rfl, rfl, HN2, trivial⟩
        case measure => simp [intOf]; omega
      . have hxb : (x == 0) = false := (by simpa using hx);have HN2 : Hid (jq8 ⟨a, n, m⟩ (t - ((j : Int) + 1) + 1).toNat ((j : Int) + 1) x v = r) := (by have h := HST.out; unfold Hid; simpa [hx] using h);go_wp2_with fail;go_roundw
        case rel => exact ⟨(j : Int) + 1, x, v, by omega, by go_num, rfl, rfl, HN2, trivial⟩
        case measure => simp [intOf]; omega
    . rw [if_neg (by simpa using hv0)] at hst;have HST := h_ hst;clear hst l1 l2 hv;go_wp2_with fail;go_roundw
      case rel => exact ⟨(j : Int) + 1, x, y, by omega, by go_num, rfl, rfl, HST, trivial⟩
      case measure => simp [intOf]; omega
  . have hE := HS.out;rw [zCP (by omega)] at hE;have HE := h_ hE;clear hE;go_wp2_with fail;refine p_ (v := .tuple #[x, y, .bool (decide (0 < x))]) (by simp [results]) rfl ?_;exact ⟨by rw [<- HE.out], rfl⟩
end
end Go.Proofs.YtdoeejhdenifpaaGreatDoor
