import Derived.Test.YtdoeejhdenifpaaGreatDoorB1
set_option maxRecDepth 100000
set_option maxHeartbeats 16000000
namespace Go.Proofs.YtdoeejhdenifpaaGreatDoor
section
open Go.RowKit Go.Sort
def refB (r q : RefT) : Bool := decide (r.a.1 = q.a.1) && decide (r.a.2 = q.a.2) && r.cf == q.cf && r.rf == q.rf
theorem y0P (w : World) (r q : RefT) : (binOp .eql 46 (.agg #[r.a.1, r.a.2, .bool r.cf, .bool r.rf]) (.agg #[.int .i64 q.a.1, .int .i64 q.a.2, .bool q.cf, .bool q.rf])).run Tryz.prog w = .ok (.bool (refB r q)) w := by
 go_simp;unfold refB
 (repeat' split) <;> simp [*]
attribute [go_sem high] y0P
def zmd (a b : NodeT) : Bool := decide (a.kind = b.kind) && decide (a.op = b.op) && decide (((oneX a.x : Nat) : Int) = ((oneX b.x : Nat) : Int)) && decide (a.s.toList = b.s.toList) && decide (a.b = b.b) && decide (a.f = b.f) && refB a.ref b.ref && refB a.to b.to
theorem ybN (a b : NodeT) (aa ba : Option Addr) (ac bc : Nat) (w : World) :
    Calls Tryz.prog 83 #[jSk a aa a.args.length ac, jSk b ba b.args.length bc] w fun e w' => e = .returned (.bool (zmd a b)) /\ Gr w w' := by
 obtain ⟨w0, hw0, hg0, hs0, hN⟩ := boxN w a aa a.args.length ac 49;obtain ⟨c0, c1, c2, c3, c4, c5, c6, c7, c8, c9, c10, c11, c12, c13, c14⟩ := hN;obtain ⟨w1, hw1, hg1, hs1, hM⟩ := boxN w0 b ba b.args.length bc 49;rw [hs0] at hM hs1;obtain ⟨d0, d1, d2, d3, d4, d5, d6, d7, d8, d9, d10, d11, d12, d13, d14⟩ := hM;simp only [Nat.zero_add] at c0 c1 c2 c3 c4 c5 c6 c7 c8 c9 c10 c11 c12 c13 c14 d0 d1 d2 d3 d4 d5 d6 d7 d8 d9 d10 d11 d12 d13 d14;have cc := fun o => (hg1.xt.cells).1 w.heap.size o (by omega);have k0 := (cc 0).trans c0;have k1 := (cc 1).trans c1;have k2 := (cc 2).trans c2;have k3 := (cc 3).trans c3;have k4 := (cc 4).trans c4;have k5 := (cc 5).trans c5;have k6 := (cc 6).trans c6
 have k7 := (cc 7).trans c7;have k8 := (cc 8).trans c8;have k9 := (cc 9).trans c9;have k10 := (cc 10).trans c10;have k11 := (cc 11).trans c11;have k12 := (cc 12).trans c12;have k13 := (cc 13).trans c13;have k14 := (cc 14).trans c14;clear c0 c1 c2 c3 c4 c5 c6 c7 c8 c9 c10 c11 c12 c13 c14 cc;have HG := h_ (hg0.trans hg1);have hca := yCW a.x;have hcb := yCW b.x;have HCA := h_ hca;have HCB := h_ hcb;clear hg0 hg1 hca hcb;generalize hn : zmd a b = ans;have HA := h_ hn;clear hn;unfold zmd at HA;by_cases h0 : a.kind = b.kind;rotate_left
 . have g0 : (a.kind == b.kind) = false := (by simpa using h0);have e0 : decide (a.kind = b.kind) = false := (by simpa using h0);go_enter Tryz.func83, Tryz.ntmps83;go_wp2_with fail
   go_quiet (first | ((go_at_call 120; exact Calls.quiet_of_same ((HCA.out _).mono fun _ _ h => ⟨h.1, h.2.symm⟩))) | ((go_at_call 120; exact Calls.quiet_of_same ((HCB.out _).mono fun _ _ h => ⟨h.1, h.2.symm⟩))))
   go_wp2_with fail;go_ret;exact ⟨by rw [<- HA.out]; simp [e0], by first | exact HG.out.drewN _ | exact (((Gr.refl _).alloc _).alloc _).drewN _⟩
 have g0 : (a.kind == b.kind) = true := (by simpa using h0);have E0 := h_ h0;clear h0;by_cases h1 : a.op = b.op;rotate_left
 . have g1 : (a.op == b.op) = false := (by simpa using h1);have e1 : decide (a.op = b.op) = false := (by simpa using h1);go_enter Tryz.func83, Tryz.ntmps83;go_wp2_with fail
   go_quiet (first | ((go_at_call 120; exact Calls.quiet_of_same ((HCA.out _).mono fun _ _ h => ⟨h.1, h.2.symm⟩))) | ((go_at_call 120; exact Calls.quiet_of_same ((HCB.out _).mono fun _ _ h => ⟨h.1, h.2.symm⟩))))
   go_wp2_with fail;go_ret;exact ⟨by rw [<- HA.out]; simp [E0.out, e1], by first | exact HG.out.drewN _ | exact (((Gr.refl _).alloc _).alloc _).drewN _⟩
 have g1 : (a.op == b.op) = true := (by simpa using h1);have E1 := h_ h1;clear h1;by_cases h2 : ((oneX a.x : Nat) : Int) = ((oneX b.x : Nat) : Int);rotate_left
 . have g2 : (((oneX a.x : Nat) : Int) == ((oneX b.x : Nat) : Int)) = false := (by simpa using h2);have e2 : decide (((oneX a.x : Nat) : Int) = ((oneX b.x : Nat) : Int)) = false := (by simpa using h2);go_enter Tryz.func83, Tryz.ntmps83;go_wp2_with fail
   go_quiet (first | ((go_at_call 120; exact Calls.quiet_of_same ((HCA.out _).mono fun _ _ h => ⟨h.1, h.2.symm⟩))) | ((go_at_call 120; exact Calls.quiet_of_same ((HCB.out _).mono fun _ _ h => ⟨h.1, h.2.symm⟩))))
   go_wp2_with fail;go_ret;exact ⟨by rw [<- HA.out]; simp [E0.out, E1.out, e2], by first | exact HG.out.drewN _ | exact (((Gr.refl _).alloc _).alloc _).drewN _⟩
 have g2 : (((oneX a.x : Nat) : Int) == ((oneX b.x : Nat) : Int)) = true := (by simpa using h2);have E2 := h_ h2;clear h2;by_cases h3 : a.s.toList = b.s.toList;rotate_left
 . have g3 : (a.s.toList == b.s.toList) = false := (by simpa using h3);have e3 : decide (a.s.toList = b.s.toList) = false := (by simpa using h3);go_enter Tryz.func83, Tryz.ntmps83;go_wp2_with fail
   go_quiet (first | ((go_at_call 120; exact Calls.quiet_of_same ((HCA.out _).mono fun _ _ h => ⟨h.1, h.2.symm⟩))) | ((go_at_call 120; exact Calls.quiet_of_same ((HCB.out _).mono fun _ _ h => ⟨h.1, h.2.symm⟩))))
   go_wp2_with fail;go_ret;exact ⟨by rw [<- HA.out]; simp [E0.out, E1.out, E2.out, e3], by first | exact HG.out.drewN _ | exact (((Gr.refl _).alloc _).alloc _).drewN _⟩
 have g3 : (a.s.toList == b.s.toList) = true := (by simpa using h3);have E3 := h_ h3;clear h3;by_cases h4 : a.b = b.b;rotate_left
 . have g4 : (a.b == b.b) = false := (by simpa using h4);have e4 : decide (a.b = b.b) = false := (by simpa using h4);go_enter Tryz.func83, Tryz.ntmps83;go_wp2_with fail
   go_quiet (first | ((go_at_call 120; exact Calls.quiet_of_same ((HCA.out _).mono fun _ _ h => ⟨h.1, h.2.symm⟩))) | ((go_at_call 120; exact Calls.quiet_of_same ((HCB.out _).mono fun _ _ h => ⟨h.1, h.2.symm⟩))))
   go_wp2_with fail;go_ret;exact ⟨by rw [<- HA.out]; simp [E0.out, E1.out, E2.out, E3.out, e4], by first | exact HG.out.drewN _ | exact (((Gr.refl _).alloc _).alloc _).drewN _⟩
 have g4 : (a.b == b.b) = true := (by simpa using h4);have E4 := h_ h4;clear h4;by_cases h5 : a.f = b.f;rotate_left
 . have g5 : (a.f == b.f) = false := (by simpa using h5);have e5 : decide (a.f = b.f) = false := (by simpa using h5);go_enter Tryz.func83, Tryz.ntmps83;go_wp2_with fail
   go_quiet (first | ((go_at_call 120; exact Calls.quiet_of_same ((HCA.out _).mono fun _ _ h => ⟨h.1, h.2.symm⟩))) | ((go_at_call 120; exact Calls.quiet_of_same ((HCB.out _).mono fun _ _ h => ⟨h.1, h.2.symm⟩))))
   go_wp2_with fail;go_ret;exact ⟨by rw [<- HA.out]; simp [E0.out, E1.out, E2.out, E3.out, E4.out, e5], by first | exact HG.out.drewN _ | exact (((Gr.refl _).alloc _).alloc _).drewN _⟩
 have g5 : (a.f == b.f) = true := (by simpa using h5);have E5 := h_ h5;clear h5;cases h6 : refB a.ref b.ref
 . go_enter Tryz.func83, Tryz.ntmps83;go_wp2_with fail
   go_quiet (first | ((go_at_call 120; exact Calls.quiet_of_same ((HCA.out _).mono fun _ _ h => ⟨h.1, h.2.symm⟩))) | ((go_at_call 120; exact Calls.quiet_of_same ((HCB.out _).mono fun _ _ h => ⟨h.1, h.2.symm⟩))))
   go_wp2_with fail;go_ret;exact ⟨by rw [<- HA.out]; simp [E0.out, E1.out, E2.out, E3.out, E4.out, E5.out, h6], by first | exact HG.out.drewN _ | exact (((Gr.refl _).alloc _).alloc _).drewN _⟩
 . go_enter Tryz.func83, Tryz.ntmps83;go_wp2_with fail
   go_quiet (first | ((go_at_call 120; exact Calls.quiet_of_same ((HCA.out _).mono fun _ _ h => ⟨h.1, h.2.symm⟩))) | ((go_at_call 120; exact Calls.quiet_of_same ((HCB.out _).mono fun _ _ h => ⟨h.1, h.2.symm⟩))))
   go_wp2_with fail;go_ret;exact ⟨by rw [<- HA.out]; simp [E0.out, E1.out, E2.out, E3.out, E4.out, E5.out, h6], by first | exact HG.out.drewN _ | exact (((Gr.refl _).alloc _).alloc _).drewN _⟩
end
end Go.Proofs.YtdoeejhdenifpaaGreatDoor
