import Derived.Test.YtdoeejhdenifpaaGreatDoorA1
import Derived.Laws.FloatArith
import Derived.Laws.Rows
namespace Go.Proofs.YtdoeejhdenifpaaGreatDoor
open Go.RowKit Go.Sort
def powB (i : Nat) : Nat := (1023 - i) * 4503599627370496
theorem pow_all : (List.range 1022).all (fun i => floatBits .quo .f64 (powB i) 4611686018427387904 == some (powB (i + 1))) = true := by decide +kernel
theorem pow_step {i : Nat} (h : i < 1022) : floatBits .quo .f64 (powB i) 4611686018427387904 = some (powB (i + 1)) := by
 have h2 := List.all_eq_true.1 pow_all i (List.mem_range.2 h)
 exact eq_of_beq h2
set_option maxRecDepth 100000 in
set_option maxHeartbeats 2000000 in
theorem power_any (w : World) : Calls Tryz.prog 190 #[.int .i64 (-1022)] w fun e w' => e = .returned (.float .f64 (powB 1022)) ∧ w = w' := by
 go_enter Tryz.func190, Tryz.ntmps190
 go_wp2_with fail
 go_loopw [3, 8] (fun s3 s8 wr => ∃ i : Nat, i ≤ 1022 ∧ s8 = .int .i64 i ∧ s3 = .float .f64 (powB i) ∧ w = wr) (fun _ s8 _ => 1022 - (intOf s8).toNat)
 case atStart => exact ⟨0, by omega, rfl, rfl, rfl⟩
 case round =>
  obtain ⟨i, hi, rfl, rfl, rfl⟩ := hrel
  by_cases h : i < 1022
  · have hii : (i : Int) < 1022 := by omega
    have hst := run_float_arith (P := Tryz.prog) w .quo 42 .f64 (powB i) 4611686018427387904 _ (pow_step h)
    generalize hpi : powB i = pi at hst
    generalize hpj : powB (i + 1) = pj at hst
    have HP := Lib.hid hpj
    clear hpi hpj
    go_wp2_with fail
    go_roundw
    case rel => refine ⟨i + 1, by omega, by go_num, ?_, ?_⟩ <;> first | trivial | rw [HP.out]
    case measure => simp [intOf]; omega
  · have he : i = 1022 := by omega
    subst he
    go_wp2_with fail
    go_ret
    exact ⟨rfl, rfl⟩
def absX (x : Nat) : Nat := (bits .andNot .u64 x 9223372036854775808).toNat
theorem Abs_any (x : Nat) (w : World) : Calls Tryz.prog 168 #[.float .f64 x] w fun e w' => e = .returned (.float .f64 (absX x)) ∧ w = w' := by
 go_enter Tryz.func168, Tryz.ntmps168
 go_wp2_with fail
 go_ret
 exact ⟨rfl, rfl⟩
abbrev ordX (a b : Nat) : Option Ordering := (FloatKind.format .f64).order a b
def classX (x : Nat) : Int :=
 if ordX x x != some .eq then 1
 else if ordX (absX x) 9218868437227405311 == some .gt then 2
 else if ordX (absX x) 0 == some .eq then 3
 else if ordX (absX x) (powB 1022) == some .lt then 4 else 5
set_option maxHeartbeats 2000000 in
theorem Class_any (x : Nat) (w : World) : Calls Tryz.prog 173 #[.float .f64 x] w fun e w' => e = .returned (.int .i64 (classX x)) ∧ w = w' := by
 have hc := Abs_any x w
 have hp := power_any w
 have HC := Lib.hid hc
 have HP := Lib.hid hp
 generalize hn : classX x = ans
 have HA := Lib.hid hn
 unfold classX ordX at HA
 generalize absX x = ax at HC HA
 generalize powB 1022 = px at HP HA
 clear hc hp hn
 go_enter Tryz.func173, Tryz.ntmps173
 go_wp2_with (first | (refine (HC.out).mono ?_; rintro e w' ⟨rfl, rfl⟩) | (refine (HP.out).mono ?_; rintro e w' ⟨rfl, rfl⟩))
 all_goals (go_ret; refine ⟨?_, rfl⟩; rw [← HA.out]; simp [*]; done)
end Go.Proofs.YtdoeejhdenifpaaGreatDoor
namespace Go.Proofs.YtdoeejhdenifpaaGreatDoor
open Go.RowKit Go.Sort
def refB (r q : RefT) : Bool := decide (r.a.1 = q.a.1) && decide (r.a.2 = q.a.2) && r.cf == q.cf && r.rf == q.rf
theorem run_eqRef (w : World) (r q : RefT) : (binOp .eql 46 (.agg #[.int .i64 r.a.1, .int .i64 r.a.2, .bool r.cf, .bool r.rf]) (.agg #[.int .i64 q.a.1, .int .i64 q.a.2, .bool q.cf, .bool q.rf])).run Tryz.prog w = .ok (.bool (refB r q)) w := by
 go_simp
 unfold refB
 (repeat' split) <;> simp [*]
attribute [go_sem high] run_eqRef
def alikeB (a b : NodeT) : Bool := decide (a.kind = b.kind) && decide (a.op = b.op) && decide (((oneX a.x : Nat) : Int) = ((oneX b.x : Nat) : Int)) && decide (a.s.toList = b.s.toList) && decide (a.b = b.b) && decide (a.f = b.f) && refB a.ref b.ref && refB a.to b.to
set_option maxRecDepth 100000 in
set_option maxHeartbeats 8000000 in
theorem alike_any (a b : NodeT) (aa ba : Option Addr) (ac bc : Nat) (w : World) :
    Calls Tryz.prog 83 #[nodeV a aa a.args.length ac, nodeV b ba b.args.length bc] w fun e w' => e = .returned (.bool (alikeB a b)) ∧ Gr w w' := by
 obtain ⟨w0, hw0, hg0, hs0, hN⟩ := boxN w a aa a.args.length ac 49
 obtain ⟨c0, c1, c2, c3, c4, c5, c6, c7, c8, c9, c10, c11, c12, c13, c14⟩ := hN
 obtain ⟨w1, hw1, hg1, hs1, hM⟩ := boxN w0 b ba b.args.length bc 49
 rw [hs0] at hM hs1
 obtain ⟨d0, d1, d2, d3, d4, d5, d6, d7, d8, d9, d10, d11, d12, d13, d14⟩ := hM
 simp only [Nat.zero_add] at c0 c1 c2 c3 c4 c5 c6 c7 c8 c9 c10 c11 c12 c13 c14 d0 d1 d2 d3 d4 d5 d6 d7 d8 d9 d10 d11 d12 d13 d14
 have cc := fun o => (hg1.xt.cells).1 w.heap.size o (by omega)
 have k0 := (cc 0).trans c0
 have k1 := (cc 1).trans c1
 have k2 := (cc 2).trans c2
 have k3 := (cc 3).trans c3
 have k4 := (cc 4).trans c4
 have k5 := (cc 5).trans c5
 have k6 := (cc 6).trans c6
 have k7 := (cc 7).trans c7
 have k8 := (cc 8).trans c8
 have k9 := (cc 9).trans c9
 have k10 := (cc 10).trans c10
 have k11 := (cc 11).trans c11
 have k12 := (cc 12).trans c12
 have k13 := (cc 13).trans c13
 have k14 := (cc 14).trans c14
 clear c0 c1 c2 c3 c4 c5 c6 c7 c8 c9 c10 c11 c12 c13 c14 cc
 have HG := Lib.hid (hg0.trans hg1)
 have hca := One_any a.x
 have hcb := One_any b.x
 have HCA := Lib.hid hca
 have HCB := Lib.hid hcb
 clear hg0 hg1 hca hcb
 generalize hn : alikeB a b = ans
 have HA := Lib.hid hn
 clear hn
 unfold alikeB at HA
 by_cases h0 : a.kind = b.kind
 rotate_left
 · have g0 : (a.kind == b.kind) = false := by simpa using h0
   have e0 : decide (a.kind = b.kind) = false := by simpa using h0
   go_enter Tryz.func83, Tryz.ntmps83
   go_wp2_with fail
   go_quiet (first | ((go_at_call 120; exact Calls.quiet_of_same ((HCA.out _).mono fun _ _ h => ⟨h.1, h.2.symm⟩))) | ((go_at_call 120; exact Calls.quiet_of_same ((HCB.out _).mono fun _ _ h => ⟨h.1, h.2.symm⟩))))
   go_wp2_with fail
   go_ret
   exact ⟨by rw [← HA.out]; simp [e0], by first | exact HG.out.drewN _ | exact (((Gr.refl _).alloc _).alloc _).drewN _⟩
 have g0 : (a.kind == b.kind) = true := by simpa using h0
 have E0 := Lib.hid h0
 clear h0
 by_cases h1 : a.op = b.op
 rotate_left
 · have g1 : (a.op == b.op) = false := by simpa using h1
   have e1 : decide (a.op = b.op) = false := by simpa using h1
   go_enter Tryz.func83, Tryz.ntmps83
   go_wp2_with fail
   go_quiet (first | ((go_at_call 120; exact Calls.quiet_of_same ((HCA.out _).mono fun _ _ h => ⟨h.1, h.2.symm⟩))) | ((go_at_call 120; exact Calls.quiet_of_same ((HCB.out _).mono fun _ _ h => ⟨h.1, h.2.symm⟩))))
   go_wp2_with fail
   go_ret
   exact ⟨by rw [← HA.out]; simp [E0.out, e1], by first | exact HG.out.drewN _ | exact (((Gr.refl _).alloc _).alloc _).drewN _⟩
 have g1 : (a.op == b.op) = true := by simpa using h1
 have E1 := Lib.hid h1
 clear h1
 by_cases h2 : ((oneX a.x : Nat) : Int) = ((oneX b.x : Nat) : Int)
 rotate_left
 · have g2 : (((oneX a.x : Nat) : Int) == ((oneX b.x : Nat) : Int)) = false := by simpa using h2
   have e2 : decide (((oneX a.x : Nat) : Int) = ((oneX b.x : Nat) : Int)) = false := by simpa using h2
   go_enter Tryz.func83, Tryz.ntmps83
   go_wp2_with fail
   go_quiet (first | ((go_at_call 120; exact Calls.quiet_of_same ((HCA.out _).mono fun _ _ h => ⟨h.1, h.2.symm⟩))) | ((go_at_call 120; exact Calls.quiet_of_same ((HCB.out _).mono fun _ _ h => ⟨h.1, h.2.symm⟩))))
   go_wp2_with fail
   go_ret
   exact ⟨by rw [← HA.out]; simp [E0.out, E1.out, e2], by first | exact HG.out.drewN _ | exact (((Gr.refl _).alloc _).alloc _).drewN _⟩
 have g2 : (((oneX a.x : Nat) : Int) == ((oneX b.x : Nat) : Int)) = true := by simpa using h2
 have E2 := Lib.hid h2
 clear h2
 by_cases h3 : a.s.toList = b.s.toList
 rotate_left
 · have g3 : (a.s.toList == b.s.toList) = false := by simpa using h3
   have e3 : decide (a.s.toList = b.s.toList) = false := by simpa using h3
   go_enter Tryz.func83, Tryz.ntmps83
   go_wp2_with fail
   go_quiet (first | ((go_at_call 120; exact Calls.quiet_of_same ((HCA.out _).mono fun _ _ h => ⟨h.1, h.2.symm⟩))) | ((go_at_call 120; exact Calls.quiet_of_same ((HCB.out _).mono fun _ _ h => ⟨h.1, h.2.symm⟩))))
   go_wp2_with fail
   go_ret
   exact ⟨by rw [← HA.out]; simp [E0.out, E1.out, E2.out, e3], by first | exact HG.out.drewN _ | exact (((Gr.refl _).alloc _).alloc _).drewN _⟩
 have g3 : (a.s.toList == b.s.toList) = true := by simpa using h3
 have E3 := Lib.hid h3
 clear h3
 by_cases h4 : a.b = b.b
 rotate_left
 · have g4 : (a.b == b.b) = false := by simpa using h4
   have e4 : decide (a.b = b.b) = false := by simpa using h4
   go_enter Tryz.func83, Tryz.ntmps83
   go_wp2_with fail
   go_quiet (first | ((go_at_call 120; exact Calls.quiet_of_same ((HCA.out _).mono fun _ _ h => ⟨h.1, h.2.symm⟩))) | ((go_at_call 120; exact Calls.quiet_of_same ((HCB.out _).mono fun _ _ h => ⟨h.1, h.2.symm⟩))))
   go_wp2_with fail
   go_ret
   exact ⟨by rw [← HA.out]; simp [E0.out, E1.out, E2.out, E3.out, e4], by first | exact HG.out.drewN _ | exact (((Gr.refl _).alloc _).alloc _).drewN _⟩
 have g4 : (a.b == b.b) = true := by simpa using h4
 have E4 := Lib.hid h4
 clear h4
 by_cases h5 : a.f = b.f
 rotate_left
 · have g5 : (a.f == b.f) = false := by simpa using h5
   have e5 : decide (a.f = b.f) = false := by simpa using h5
   go_enter Tryz.func83, Tryz.ntmps83
   go_wp2_with fail
   go_quiet (first | ((go_at_call 120; exact Calls.quiet_of_same ((HCA.out _).mono fun _ _ h => ⟨h.1, h.2.symm⟩))) | ((go_at_call 120; exact Calls.quiet_of_same ((HCB.out _).mono fun _ _ h => ⟨h.1, h.2.symm⟩))))
   go_wp2_with fail
   go_ret
   exact ⟨by rw [← HA.out]; simp [E0.out, E1.out, E2.out, E3.out, E4.out, e5], by first | exact HG.out.drewN _ | exact (((Gr.refl _).alloc _).alloc _).drewN _⟩
 have g5 : (a.f == b.f) = true := by simpa using h5
 have E5 := Lib.hid h5
 clear h5
 cases h6 : refB a.ref b.ref
 · go_enter Tryz.func83, Tryz.ntmps83
   go_wp2_with fail
   go_quiet (first | ((go_at_call 120; exact Calls.quiet_of_same ((HCA.out _).mono fun _ _ h => ⟨h.1, h.2.symm⟩))) | ((go_at_call 120; exact Calls.quiet_of_same ((HCB.out _).mono fun _ _ h => ⟨h.1, h.2.symm⟩))))
   go_wp2_with fail
   go_ret
   exact ⟨by rw [← HA.out]; simp [E0.out, E1.out, E2.out, E3.out, E4.out, E5.out, h6], by first | exact HG.out.drewN _ | exact (((Gr.refl _).alloc _).alloc _).drewN _⟩
 · go_enter Tryz.func83, Tryz.ntmps83
   go_wp2_with fail
   go_quiet (first | ((go_at_call 120; exact Calls.quiet_of_same ((HCA.out _).mono fun _ _ h => ⟨h.1, h.2.symm⟩))) | ((go_at_call 120; exact Calls.quiet_of_same ((HCB.out _).mono fun _ _ h => ⟨h.1, h.2.symm⟩))))
   go_wp2_with fail
   go_ret
   exact ⟨by rw [← HA.out]; simp [E0.out, E1.out, E2.out, E3.out, E4.out, E5.out, h6], by first | exact HG.out.drewN _ | exact (((Gr.refl _).alloc _).alloc _).drewN _⟩
end Go.Proofs.YtdoeejhdenifpaaGreatDoor
namespace Go.Proofs.YtdoeejhdenifpaaGreatDoor
open Go.RowKit Go.Sort
set_option maxRecDepth 100000 in
set_option maxHeartbeats 4000000 in
theorem takes_0 (s : ByteArray) (w : World) (hs : s.toList = [78, 65]) :
    Calls Tryz.prog 175 #[.string s] w fun e w' => e = .returned (.agg #[.int .i64 0, .int .i64 0]) ∧ Gr w w' := by
 have f0 : (s.toList == [78, 65]) = true := by rw [hs]; rfl
 clear hs
 go_enter Tryz.func175, Tryz.ntmps175
 go_wp2_with fail
 (try simp only [Exit.inBlock, Exit.then])
 refine bodyPost_ret (results_cell_row rfl _ _ w.heap.size _ _ _ _ rfl (heap_alloc_new _ _) Tryz.underlying196 rfl (by kernel_rfl)) rfl ?_
 exact ⟨rfl, (Gr.refl _).alloc _⟩
set_option maxRecDepth 100000 in
set_option maxHeartbeats 4000000 in
theorem takes_1 (s : ByteArray) (w : World) (hs : s.toList = [65, 66, 83]) :
    Calls Tryz.prog 175 #[.string s] w fun e w' => e = .returned (.agg #[.int .i64 1, .int .i64 1]) ∧ Gr w w' := by
 have f0 : (s.toList == [78, 65]) = false := by rw [hs]; rfl
 have f1 : (s.toList == [65, 66, 83]) = true := by rw [hs]; rfl
 clear hs
 go_enter Tryz.func175, Tryz.ntmps175
 go_wp2_with fail
 (try simp only [Exit.inBlock, Exit.then])
 refine bodyPost_ret (results_cell_row rfl _ _ w.heap.size _ _ _ _ rfl (heap_alloc_new _ _) Tryz.underlying196 rfl (by kernel_rfl)) rfl ?_
 exact ⟨rfl, (Gr.refl _).alloc _⟩
set_option maxRecDepth 100000 in
set_option maxHeartbeats 4000000 in
theorem takes_2 (s : ByteArray) (w : World) (hs : s.toList = [73, 78, 84]) :
    Calls Tryz.prog 175 #[.string s] w fun e w' => e = .returned (.agg #[.int .i64 1, .int .i64 1]) ∧ Gr w w' := by
 have f0 : (s.toList == [78, 65]) = false := by rw [hs]; rfl
 have f1 : (s.toList == [65, 66, 83]) = false := by rw [hs]; rfl
 have f2 : (s.toList == [73, 78, 84]) = true := by rw [hs]; rfl
 clear hs
 go_enter Tryz.func175, Tryz.ntmps175
 go_wp2_with fail
 (try simp only [Exit.inBlock, Exit.then])
 refine bodyPost_ret (results_cell_row rfl _ _ w.heap.size _ _ _ _ rfl (heap_alloc_new _ _) Tryz.underlying196 rfl (by kernel_rfl)) rfl ?_
 exact ⟨rfl, (Gr.refl _).alloc _⟩
set_option maxRecDepth 100000 in
set_option maxHeartbeats 4000000 in
theorem takes_3 (s : ByteArray) (w : World) (hs : s.toList = [73, 83, 66, 76, 65, 78, 75]) :
    Calls Tryz.prog 175 #[.string s] w fun e w' => e = .returned (.agg #[.int .i64 1, .int .i64 1]) ∧ Gr w w' := by
 have f0 : (s.toList == [78, 65]) = false := by rw [hs]; rfl
 have f1 : (s.toList == [65, 66, 83]) = false := by rw [hs]; rfl
 have f2 : (s.toList == [73, 78, 84]) = false := by rw [hs]; rfl
 have f3 : (s.toList == [73, 83, 66, 76, 65, 78, 75]) = true := by rw [hs]; rfl
 clear hs
 go_enter Tryz.func175, Tryz.ntmps175
 go_wp2_with fail
 (try simp only [Exit.inBlock, Exit.then])
 refine bodyPost_ret (results_cell_row rfl _ _ w.heap.size _ _ _ _ rfl (heap_alloc_new _ _) Tryz.underlying196 rfl (by kernel_rfl)) rfl ?_
 exact ⟨rfl, (Gr.refl _).alloc _⟩
set_option maxRecDepth 100000 in
set_option maxHeartbeats 4000000 in
theorem takes_4 (s : ByteArray) (w : World) (hs : s.toList = [73, 83, 69, 82, 82, 79, 82]) :
    Calls Tryz.prog 175 #[.string s] w fun e w' => e = .returned (.agg #[.int .i64 1, .int .i64 1]) ∧ Gr w w' := by
 have f0 : (s.toList == [78, 65]) = false := by rw [hs]; rfl
 have f1 : (s.toList == [65, 66, 83]) = false := by rw [hs]; rfl
 have f2 : (s.toList == [73, 78, 84]) = false := by rw [hs]; rfl
 have f3 : (s.toList == [73, 83, 66, 76, 65, 78, 75]) = false := by rw [hs]; rfl
 have f4 : (s.toList == [73, 83, 69, 82, 82, 79, 82]) = true := by rw [hs]; rfl
 clear hs
 go_enter Tryz.func175, Tryz.ntmps175
 go_wp2_with fail
 (try simp only [Exit.inBlock, Exit.then])
 refine bodyPost_ret (results_cell_row rfl _ _ w.heap.size _ _ _ _ rfl (heap_alloc_new _ _) Tryz.underlying196 rfl (by kernel_rfl)) rfl ?_
 exact ⟨rfl, (Gr.refl _).alloc _⟩
set_option maxRecDepth 100000 in
set_option maxHeartbeats 4000000 in
theorem takes_5 (s : ByteArray) (w : World) (hs : s.toList = [73, 83, 78, 85, 77, 66, 69, 82]) :
    Calls Tryz.prog 175 #[.string s] w fun e w' => e = .returned (.agg #[.int .i64 1, .int .i64 1]) ∧ Gr w w' := by
 have f0 : (s.toList == [78, 65]) = false := by rw [hs]; rfl
 have f1 : (s.toList == [65, 66, 83]) = false := by rw [hs]; rfl
 have f2 : (s.toList == [73, 78, 84]) = false := by rw [hs]; rfl
 have f3 : (s.toList == [73, 83, 66, 76, 65, 78, 75]) = false := by rw [hs]; rfl
 have f4 : (s.toList == [73, 83, 69, 82, 82, 79, 82]) = false := by rw [hs]; rfl
 have f5 : (s.toList == [73, 83, 78, 85, 77, 66, 69, 82]) = true := by rw [hs]; rfl
 clear hs
 go_enter Tryz.func175, Tryz.ntmps175
 go_wp2_with fail
 (try simp only [Exit.inBlock, Exit.then])
 refine bodyPost_ret (results_cell_row rfl _ _ w.heap.size _ _ _ _ rfl (heap_alloc_new _ _) Tryz.underlying196 rfl (by kernel_rfl)) rfl ?_
 exact ⟨rfl, (Gr.refl _).alloc _⟩
set_option maxRecDepth 100000 in
set_option maxHeartbeats 4000000 in
theorem takes_6 (s : ByteArray) (w : World) (hs : s.toList = [73, 83, 84, 69, 88, 84]) :
    Calls Tryz.prog 175 #[.string s] w fun e w' => e = .returned (.agg #[.int .i64 1, .int .i64 1]) ∧ Gr w w' := by
 have f0 : (s.toList == [78, 65]) = false := by rw [hs]; rfl
 have f1 : (s.toList == [65, 66, 83]) = false := by rw [hs]; rfl
 have f2 : (s.toList == [73, 78, 84]) = false := by rw [hs]; rfl
 have f3 : (s.toList == [73, 83, 66, 76, 65, 78, 75]) = false := by rw [hs]; rfl
 have f4 : (s.toList == [73, 83, 69, 82, 82, 79, 82]) = false := by rw [hs]; rfl
 have f5 : (s.toList == [73, 83, 78, 85, 77, 66, 69, 82]) = false := by rw [hs]; rfl
 have f6 : (s.toList == [73, 83, 84, 69, 88, 84]) = true := by rw [hs]; rfl
 clear hs
 go_enter Tryz.func175, Tryz.ntmps175
 go_wp2_with fail
 (try simp only [Exit.inBlock, Exit.then])
 refine bodyPost_ret (results_cell_row rfl _ _ w.heap.size _ _ _ _ rfl (heap_alloc_new _ _) Tryz.underlying196 rfl (by kernel_rfl)) rfl ?_
 exact ⟨rfl, (Gr.refl _).alloc _⟩
set_option maxRecDepth 100000 in
set_option maxHeartbeats 4000000 in
theorem takes_7 (s : ByteArray) (w : World) (hs : s.toList = [76, 69, 78]) :
    Calls Tryz.prog 175 #[.string s] w fun e w' => e = .returned (.agg #[.int .i64 1, .int .i64 1]) ∧ Gr w w' := by
 have f0 : (s.toList == [78, 65]) = false := by rw [hs]; rfl
 have f1 : (s.toList == [65, 66, 83]) = false := by rw [hs]; rfl
 have f2 : (s.toList == [73, 78, 84]) = false := by rw [hs]; rfl
 have f3 : (s.toList == [73, 83, 66, 76, 65, 78, 75]) = false := by rw [hs]; rfl
 have f4 : (s.toList == [73, 83, 69, 82, 82, 79, 82]) = false := by rw [hs]; rfl
 have f5 : (s.toList == [73, 83, 78, 85, 77, 66, 69, 82]) = false := by rw [hs]; rfl
 have f6 : (s.toList == [73, 83, 84, 69, 88, 84]) = false := by rw [hs]; rfl
 have f7 : (s.toList == [76, 69, 78]) = true := by rw [hs]; rfl
 clear hs
 go_enter Tryz.func175, Tryz.ntmps175
 go_wp2_with fail
 (try simp only [Exit.inBlock, Exit.then])
 refine bodyPost_ret (results_cell_row rfl _ _ w.heap.size _ _ _ _ rfl (heap_alloc_new _ _) Tryz.underlying196 rfl (by kernel_rfl)) rfl ?_
 exact ⟨rfl, (Gr.refl _).alloc _⟩
set_option maxRecDepth 100000 in
set_option maxHeartbeats 4000000 in
theorem takes_8 (s : ByteArray) (w : World) (hs : s.toList = [78, 79, 84]) :
    Calls Tryz.prog 175 #[.string s] w fun e w' => e = .returned (.agg #[.int .i64 1, .int .i64 1]) ∧ Gr w w' := by
 have f0 : (s.toList == [78, 65]) = false := by rw [hs]; rfl
 have f1 : (s.toList == [65, 66, 83]) = false := by rw [hs]; rfl
 have f2 : (s.toList == [73, 78, 84]) = false := by rw [hs]; rfl
 have f3 : (s.toList == [73, 83, 66, 76, 65, 78, 75]) = false := by rw [hs]; rfl
 have f4 : (s.toList == [73, 83, 69, 82, 82, 79, 82]) = false := by rw [hs]; rfl
 have f5 : (s.toList == [73, 83, 78, 85, 77, 66, 69, 82]) = false := by rw [hs]; rfl
 have f6 : (s.toList == [73, 83, 84, 69, 88, 84]) = false := by rw [hs]; rfl
 have f7 : (s.toList == [76, 69, 78]) = false := by rw [hs]; rfl
 have f8 : (s.toList == [78, 79, 84]) = true := by rw [hs]; rfl
 clear hs
 go_enter Tryz.func175, Tryz.ntmps175
 go_wp2_with fail
 (try simp only [Exit.inBlock, Exit.then])
 refine bodyPost_ret (results_cell_row rfl _ _ w.heap.size _ _ _ _ rfl (heap_alloc_new _ _) Tryz.underlying196 rfl (by kernel_rfl)) rfl ?_
 exact ⟨rfl, (Gr.refl _).alloc _⟩
set_option maxRecDepth 100000 in
set_option maxHeartbeats 4000000 in
theorem takes_9 (s : ByteArray) (w : World) (hs : s.toList = [83, 73, 71, 78]) :
    Calls Tryz.prog 175 #[.string s] w fun e w' => e = .returned (.agg #[.int .i64 1, .int .i64 1]) ∧ Gr w w' := by
 have f0 : (s.toList == [78, 65]) = false := by rw [hs]; rfl
 have f1 : (s.toList == [65, 66, 83]) = false := by rw [hs]; rfl
 have f2 : (s.toList == [73, 78, 84]) = false := by rw [hs]; rfl
 have f3 : (s.toList == [73, 83, 66, 76, 65, 78, 75]) = false := by rw [hs]; rfl
 have f4 : (s.toList == [73, 83, 69, 82, 82, 79, 82]) = false := by rw [hs]; rfl
 have f5 : (s.toList == [73, 83, 78, 85, 77, 66, 69, 82]) = false := by rw [hs]; rfl
 have f6 : (s.toList == [73, 83, 84, 69, 88, 84]) = false := by rw [hs]; rfl
 have f7 : (s.toList == [76, 69, 78]) = false := by rw [hs]; rfl
 have f8 : (s.toList == [78, 79, 84]) = false := by rw [hs]; rfl
 have f9 : (s.toList == [83, 73, 71, 78]) = true := by rw [hs]; rfl
 clear hs
 go_enter Tryz.func175, Tryz.ntmps175
 go_wp2_with fail
 (try simp only [Exit.inBlock, Exit.then])
 refine bodyPost_ret (results_cell_row rfl _ _ w.heap.size _ _ _ _ rfl (heap_alloc_new _ _) Tryz.underlying196 rfl (by kernel_rfl)) rfl ?_
 exact ⟨rfl, (Gr.refl _).alloc _⟩
set_option maxRecDepth 100000 in
set_option maxHeartbeats 4000000 in
theorem takes_10 (s : ByteArray) (w : World) (hs : s.toList = [83, 73, 78, 71, 76, 69]) :
    Calls Tryz.prog 175 #[.string s] w fun e w' => e = .returned (.agg #[.int .i64 1, .int .i64 1]) ∧ Gr w w' := by
 have f0 : (s.toList == [78, 65]) = false := by rw [hs]; rfl
 have f1 : (s.toList == [65, 66, 83]) = false := by rw [hs]; rfl
 have f2 : (s.toList == [73, 78, 84]) = false := by rw [hs]; rfl
 have f3 : (s.toList == [73, 83, 66, 76, 65, 78, 75]) = false := by rw [hs]; rfl
 have f4 : (s.toList == [73, 83, 69, 82, 82, 79, 82]) = false := by rw [hs]; rfl
 have f5 : (s.toList == [73, 83, 78, 85, 77, 66, 69, 82]) = false := by rw [hs]; rfl
 have f6 : (s.toList == [73, 83, 84, 69, 88, 84]) = false := by rw [hs]; rfl
 have f7 : (s.toList == [76, 69, 78]) = false := by rw [hs]; rfl
 have f8 : (s.toList == [78, 79, 84]) = false := by rw [hs]; rfl
 have f9 : (s.toList == [83, 73, 71, 78]) = false := by rw [hs]; rfl
 have f10 : (s.toList == [83, 73, 78, 71, 76, 69]) = true := by rw [hs]; rfl
 clear hs
 go_enter Tryz.func175, Tryz.ntmps175
 go_wp2_with fail
 (try simp only [Exit.inBlock, Exit.then])
 refine bodyPost_ret (results_cell_row rfl _ _ w.heap.size _ _ _ _ rfl (heap_alloc_new _ _) Tryz.underlying196 rfl (by kernel_rfl)) rfl ?_
 exact ⟨rfl, (Gr.refl _).alloc _⟩
set_option maxRecDepth 100000 in
set_option maxHeartbeats 4000000 in
theorem takes_11 (s : ByteArray) (w : World) (hs : s.toList = [83, 81, 82, 84]) :
    Calls Tryz.prog 175 #[.string s] w fun e w' => e = .returned (.agg #[.int .i64 1, .int .i64 1]) ∧ Gr w w' := by
 have f0 : (s.toList == [78, 65]) = false := by rw [hs]; rfl
 have f1 : (s.toList == [65, 66, 83]) = false := by rw [hs]; rfl
 have f2 : (s.toList == [73, 78, 84]) = false := by rw [hs]; rfl
 have f3 : (s.toList == [73, 83, 66, 76, 65, 78, 75]) = false := by rw [hs]; rfl
 have f4 : (s.toList == [73, 83, 69, 82, 82, 79, 82]) = false := by rw [hs]; rfl
 have f5 : (s.toList == [73, 83, 78, 85, 77, 66, 69, 82]) = false := by rw [hs]; rfl
 have f6 : (s.toList == [73, 83, 84, 69, 88, 84]) = false := by rw [hs]; rfl
 have f7 : (s.toList == [76, 69, 78]) = false := by rw [hs]; rfl
 have f8 : (s.toList == [78, 79, 84]) = false := by rw [hs]; rfl
 have f9 : (s.toList == [83, 73, 71, 78]) = false := by rw [hs]; rfl
 have f10 : (s.toList == [83, 73, 78, 71, 76, 69]) = false := by rw [hs]; rfl
 have f11 : (s.toList == [83, 81, 82, 84]) = true := by rw [hs]; rfl
 clear hs
 go_enter Tryz.func175, Tryz.ntmps175
 go_wp2_with fail
 (try simp only [Exit.inBlock, Exit.then])
 refine bodyPost_ret (results_cell_row rfl _ _ w.heap.size _ _ _ _ rfl (heap_alloc_new _ _) Tryz.underlying196 rfl (by kernel_rfl)) rfl ?_
 exact ⟨rfl, (Gr.refl _).alloc _⟩
set_option maxRecDepth 100000 in
set_option maxHeartbeats 4000000 in
theorem takes_12 (s : ByteArray) (w : World) (hs : s.toList = [84, 82, 85, 78, 67]) :
    Calls Tryz.prog 175 #[.string s] w fun e w' => e = .returned (.agg #[.int .i64 1, .int .i64 1]) ∧ Gr w w' := by
 have f0 : (s.toList == [78, 65]) = false := by rw [hs]; rfl
 have f1 : (s.toList == [65, 66, 83]) = false := by rw [hs]; rfl
 have f2 : (s.toList == [73, 78, 84]) = false := by rw [hs]; rfl
 have f3 : (s.toList == [73, 83, 66, 76, 65, 78, 75]) = false := by rw [hs]; rfl
 have f4 : (s.toList == [73, 83, 69, 82, 82, 79, 82]) = false := by rw [hs]; rfl
 have f5 : (s.toList == [73, 83, 78, 85, 77, 66, 69, 82]) = false := by rw [hs]; rfl
 have f6 : (s.toList == [73, 83, 84, 69, 88, 84]) = false := by rw [hs]; rfl
 have f7 : (s.toList == [76, 69, 78]) = false := by rw [hs]; rfl
 have f8 : (s.toList == [78, 79, 84]) = false := by rw [hs]; rfl
 have f9 : (s.toList == [83, 73, 71, 78]) = false := by rw [hs]; rfl
 have f10 : (s.toList == [83, 73, 78, 71, 76, 69]) = false := by rw [hs]; rfl
 have f11 : (s.toList == [83, 81, 82, 84]) = false := by rw [hs]; rfl
 have f12 : (s.toList == [84, 82, 85, 78, 67]) = true := by rw [hs]; rfl
 clear hs
 go_enter Tryz.func175, Tryz.ntmps175
 go_wp2_with fail
 (try simp only [Exit.inBlock, Exit.then])
 refine bodyPost_ret (results_cell_row rfl _ _ w.heap.size _ _ _ _ rfl (heap_alloc_new _ _) Tryz.underlying196 rfl (by kernel_rfl)) rfl ?_
 exact ⟨rfl, (Gr.refl _).alloc _⟩
set_option maxRecDepth 100000 in
set_option maxHeartbeats 4000000 in
theorem takes_13 (s : ByteArray) (w : World) (hs : s.toList = [86, 65, 76, 85, 69]) :
    Calls Tryz.prog 175 #[.string s] w fun e w' => e = .returned (.agg #[.int .i64 1, .int .i64 1]) ∧ Gr w w' := by
 have f0 : (s.toList == [78, 65]) = false := by rw [hs]; rfl
 have f1 : (s.toList == [65, 66, 83]) = false := by rw [hs]; rfl
 have f2 : (s.toList == [73, 78, 84]) = false := by rw [hs]; rfl
 have f3 : (s.toList == [73, 83, 66, 76, 65, 78, 75]) = false := by rw [hs]; rfl
 have f4 : (s.toList == [73, 83, 69, 82, 82, 79, 82]) = false := by rw [hs]; rfl
 have f5 : (s.toList == [73, 83, 78, 85, 77, 66, 69, 82]) = false := by rw [hs]; rfl
 have f6 : (s.toList == [73, 83, 84, 69, 88, 84]) = false := by rw [hs]; rfl
 have f7 : (s.toList == [76, 69, 78]) = false := by rw [hs]; rfl
 have f8 : (s.toList == [78, 79, 84]) = false := by rw [hs]; rfl
 have f9 : (s.toList == [83, 73, 71, 78]) = false := by rw [hs]; rfl
 have f10 : (s.toList == [83, 73, 78, 71, 76, 69]) = false := by rw [hs]; rfl
 have f11 : (s.toList == [83, 81, 82, 84]) = false := by rw [hs]; rfl
 have f12 : (s.toList == [84, 82, 85, 78, 67]) = false := by rw [hs]; rfl
 have f13 : (s.toList == [86, 65, 76, 85, 69]) = true := by rw [hs]; rfl
 clear hs
 go_enter Tryz.func175, Tryz.ntmps175
 go_wp2_with fail
 (try simp only [Exit.inBlock, Exit.then])
 refine bodyPost_ret (results_cell_row rfl _ _ w.heap.size _ _ _ _ rfl (heap_alloc_new _ _) Tryz.underlying196 rfl (by kernel_rfl)) rfl ?_
 exact ⟨rfl, (Gr.refl _).alloc _⟩
set_option maxRecDepth 100000 in
set_option maxHeartbeats 4000000 in
theorem takes_14 (s : ByteArray) (w : World) (hs : s.toList = [69, 88, 65, 67, 84]) :
    Calls Tryz.prog 175 #[.string s] w fun e w' => e = .returned (.agg #[.int .i64 2, .int .i64 2]) ∧ Gr w w' := by
 have f0 : (s.toList == [78, 65]) = false := by rw [hs]; rfl
 have f1 : (s.toList == [65, 66, 83]) = false := by rw [hs]; rfl
 have f2 : (s.toList == [73, 78, 84]) = false := by rw [hs]; rfl
 have f3 : (s.toList == [73, 83, 66, 76, 65, 78, 75]) = false := by rw [hs]; rfl
 have f4 : (s.toList == [73, 83, 69, 82, 82, 79, 82]) = false := by rw [hs]; rfl
 have f5 : (s.toList == [73, 83, 78, 85, 77, 66, 69, 82]) = false := by rw [hs]; rfl
 have f6 : (s.toList == [73, 83, 84, 69, 88, 84]) = false := by rw [hs]; rfl
 have f7 : (s.toList == [76, 69, 78]) = false := by rw [hs]; rfl
 have f8 : (s.toList == [78, 79, 84]) = false := by rw [hs]; rfl
 have f9 : (s.toList == [83, 73, 71, 78]) = false := by rw [hs]; rfl
 have f10 : (s.toList == [83, 73, 78, 71, 76, 69]) = false := by rw [hs]; rfl
 have f11 : (s.toList == [83, 81, 82, 84]) = false := by rw [hs]; rfl
 have f12 : (s.toList == [84, 82, 85, 78, 67]) = false := by rw [hs]; rfl
 have f13 : (s.toList == [86, 65, 76, 85, 69]) = false := by rw [hs]; rfl
 have f14 : (s.toList == [69, 88, 65, 67, 84]) = true := by rw [hs]; rfl
 clear hs
 go_enter Tryz.func175, Tryz.ntmps175
 go_wp2_with fail
 (try simp only [Exit.inBlock, Exit.then])
 refine bodyPost_ret (results_cell_row rfl _ _ w.heap.size _ _ _ _ rfl (heap_alloc_new _ _) Tryz.underlying196 rfl (by kernel_rfl)) rfl ?_
 exact ⟨rfl, (Gr.refl _).alloc _⟩
set_option maxRecDepth 100000 in
set_option maxHeartbeats 4000000 in
theorem takes_15 (s : ByteArray) (w : World) (hs : s.toList = [73, 70, 69, 82, 82, 79, 82]) :
    Calls Tryz.prog 175 #[.string s] w fun e w' => e = .returned (.agg #[.int .i64 2, .int .i64 2]) ∧ Gr w w' := by
 have f0 : (s.toList == [78, 65]) = false := by rw [hs]; rfl
 have f1 : (s.toList == [65, 66, 83]) = false := by rw [hs]; rfl
 have f2 : (s.toList == [73, 78, 84]) = false := by rw [hs]; rfl
 have f3 : (s.toList == [73, 83, 66, 76, 65, 78, 75]) = false := by rw [hs]; rfl
 have f4 : (s.toList == [73, 83, 69, 82, 82, 79, 82]) = false := by rw [hs]; rfl
 have f5 : (s.toList == [73, 83, 78, 85, 77, 66, 69, 82]) = false := by rw [hs]; rfl
 have f6 : (s.toList == [73, 83, 84, 69, 88, 84]) = false := by rw [hs]; rfl
 have f7 : (s.toList == [76, 69, 78]) = false := by rw [hs]; rfl
 have f8 : (s.toList == [78, 79, 84]) = false := by rw [hs]; rfl
 have f9 : (s.toList == [83, 73, 71, 78]) = false := by rw [hs]; rfl
 have f10 : (s.toList == [83, 73, 78, 71, 76, 69]) = false := by rw [hs]; rfl
 have f11 : (s.toList == [83, 81, 82, 84]) = false := by rw [hs]; rfl
 have f12 : (s.toList == [84, 82, 85, 78, 67]) = false := by rw [hs]; rfl
 have f13 : (s.toList == [86, 65, 76, 85, 69]) = false := by rw [hs]; rfl
 have f14 : (s.toList == [69, 88, 65, 67, 84]) = false := by rw [hs]; rfl
 have f15 : (s.toList == [73, 70, 69, 82, 82, 79, 82]) = true := by rw [hs]; rfl
 clear hs
 go_enter Tryz.func175, Tryz.ntmps175
 go_wp2_with fail
 (try simp only [Exit.inBlock, Exit.then])
 refine bodyPost_ret (results_cell_row rfl _ _ w.heap.size _ _ _ _ rfl (heap_alloc_new _ _) Tryz.underlying196 rfl (by kernel_rfl)) rfl ?_
 exact ⟨rfl, (Gr.refl _).alloc _⟩
set_option maxRecDepth 100000 in
set_option maxHeartbeats 4000000 in
theorem takes_16 (s : ByteArray) (w : World) (hs : s.toList = [76, 65, 82, 71, 69]) :
    Calls Tryz.prog 175 #[.string s] w fun e w' => e = .returned (.agg #[.int .i64 2, .int .i64 2]) ∧ Gr w w' := by
 have f0 : (s.toList == [78, 65]) = false := by rw [hs]; rfl
 have f1 : (s.toList == [65, 66, 83]) = false := by rw [hs]; rfl
 have f2 : (s.toList == [73, 78, 84]) = false := by rw [hs]; rfl
 have f3 : (s.toList == [73, 83, 66, 76, 65, 78, 75]) = false := by rw [hs]; rfl
 have f4 : (s.toList == [73, 83, 69, 82, 82, 79, 82]) = false := by rw [hs]; rfl
 have f5 : (s.toList == [73, 83, 78, 85, 77, 66, 69, 82]) = false := by rw [hs]; rfl
 have f6 : (s.toList == [73, 83, 84, 69, 88, 84]) = false := by rw [hs]; rfl
 have f7 : (s.toList == [76, 69, 78]) = false := by rw [hs]; rfl
 have f8 : (s.toList == [78, 79, 84]) = false := by rw [hs]; rfl
 have f9 : (s.toList == [83, 73, 71, 78]) = false := by rw [hs]; rfl
 have f10 : (s.toList == [83, 73, 78, 71, 76, 69]) = false := by rw [hs]; rfl
 have f11 : (s.toList == [83, 81, 82, 84]) = false := by rw [hs]; rfl
 have f12 : (s.toList == [84, 82, 85, 78, 67]) = false := by rw [hs]; rfl
 have f13 : (s.toList == [86, 65, 76, 85, 69]) = false := by rw [hs]; rfl
 have f14 : (s.toList == [69, 88, 65, 67, 84]) = false := by rw [hs]; rfl
 have f15 : (s.toList == [73, 70, 69, 82, 82, 79, 82]) = false := by rw [hs]; rfl
 have f16 : (s.toList == [76, 65, 82, 71, 69]) = true := by rw [hs]; rfl
 clear hs
 go_enter Tryz.func175, Tryz.ntmps175
 go_wp2_with fail
 (try simp only [Exit.inBlock, Exit.then])
 refine bodyPost_ret (results_cell_row rfl _ _ w.heap.size _ _ _ _ rfl (heap_alloc_new _ _) Tryz.underlying196 rfl (by kernel_rfl)) rfl ?_
 exact ⟨rfl, (Gr.refl _).alloc _⟩
set_option maxRecDepth 100000 in
set_option maxHeartbeats 4000000 in
theorem takes_17 (s : ByteArray) (w : World) (hs : s.toList = [76, 69, 70, 84]) :
    Calls Tryz.prog 175 #[.string s] w fun e w' => e = .returned (.agg #[.int .i64 2, .int .i64 2]) ∧ Gr w w' := by
 have f0 : (s.toList == [78, 65]) = false := by rw [hs]; rfl
 have f1 : (s.toList == [65, 66, 83]) = false := by rw [hs]; rfl
 have f2 : (s.toList == [73, 78, 84]) = false := by rw [hs]; rfl
 have f3 : (s.toList == [73, 83, 66, 76, 65, 78, 75]) = false := by rw [hs]; rfl
 have f4 : (s.toList == [73, 83, 69, 82, 82, 79, 82]) = false := by rw [hs]; rfl
 have f5 : (s.toList == [73, 83, 78, 85, 77, 66, 69, 82]) = false := by rw [hs]; rfl
 have f6 : (s.toList == [73, 83, 84, 69, 88, 84]) = false := by rw [hs]; rfl
 have f7 : (s.toList == [76, 69, 78]) = false := by rw [hs]; rfl
 have f8 : (s.toList == [78, 79, 84]) = false := by rw [hs]; rfl
 have f9 : (s.toList == [83, 73, 71, 78]) = false := by rw [hs]; rfl
 have f10 : (s.toList == [83, 73, 78, 71, 76, 69]) = false := by rw [hs]; rfl
 have f11 : (s.toList == [83, 81, 82, 84]) = false := by rw [hs]; rfl
 have f12 : (s.toList == [84, 82, 85, 78, 67]) = false := by rw [hs]; rfl
 have f13 : (s.toList == [86, 65, 76, 85, 69]) = false := by rw [hs]; rfl
 have f14 : (s.toList == [69, 88, 65, 67, 84]) = false := by rw [hs]; rfl
 have f15 : (s.toList == [73, 70, 69, 82, 82, 79, 82]) = false := by rw [hs]; rfl
 have f16 : (s.toList == [76, 65, 82, 71, 69]) = false := by rw [hs]; rfl
 have f17 : (s.toList == [76, 69, 70, 84]) = true := by rw [hs]; rfl
 clear hs
 go_enter Tryz.func175, Tryz.ntmps175
 go_wp2_with fail
 (try simp only [Exit.inBlock, Exit.then])
 refine bodyPost_ret (results_cell_row rfl _ _ w.heap.size _ _ _ _ rfl (heap_alloc_new _ _) Tryz.underlying196 rfl (by kernel_rfl)) rfl ?_
 exact ⟨rfl, (Gr.refl _).alloc _⟩
set_option maxRecDepth 100000 in
set_option maxHeartbeats 4000000 in
theorem takes_18 (s : ByteArray) (w : World) (hs : s.toList = [77, 79, 68]) :
    Calls Tryz.prog 175 #[.string s] w fun e w' => e = .returned (.agg #[.int .i64 2, .int .i64 2]) ∧ Gr w w' := by
 have f0 : (s.toList == [78, 65]) = false := by rw [hs]; rfl
 have f1 : (s.toList == [65, 66, 83]) = false := by rw [hs]; rfl
 have f2 : (s.toList == [73, 78, 84]) = false := by rw [hs]; rfl
 have f3 : (s.toList == [73, 83, 66, 76, 65, 78, 75]) = false := by rw [hs]; rfl
 have f4 : (s.toList == [73, 83, 69, 82, 82, 79, 82]) = false := by rw [hs]; rfl
 have f5 : (s.toList == [73, 83, 78, 85, 77, 66, 69, 82]) = false := by rw [hs]; rfl
 have f6 : (s.toList == [73, 83, 84, 69, 88, 84]) = false := by rw [hs]; rfl
 have f7 : (s.toList == [76, 69, 78]) = false := by rw [hs]; rfl
 have f8 : (s.toList == [78, 79, 84]) = false := by rw [hs]; rfl
 have f9 : (s.toList == [83, 73, 71, 78]) = false := by rw [hs]; rfl
 have f10 : (s.toList == [83, 73, 78, 71, 76, 69]) = false := by rw [hs]; rfl
 have f11 : (s.toList == [83, 81, 82, 84]) = false := by rw [hs]; rfl
 have f12 : (s.toList == [84, 82, 85, 78, 67]) = false := by rw [hs]; rfl
 have f13 : (s.toList == [86, 65, 76, 85, 69]) = false := by rw [hs]; rfl
 have f14 : (s.toList == [69, 88, 65, 67, 84]) = false := by rw [hs]; rfl
 have f15 : (s.toList == [73, 70, 69, 82, 82, 79, 82]) = false := by rw [hs]; rfl
 have f16 : (s.toList == [76, 65, 82, 71, 69]) = false := by rw [hs]; rfl
 have f17 : (s.toList == [76, 69, 70, 84]) = false := by rw [hs]; rfl
 have f18 : (s.toList == [77, 79, 68]) = true := by rw [hs]; rfl
 clear hs
 go_enter Tryz.func175, Tryz.ntmps175
 go_wp2_with fail
 (try simp only [Exit.inBlock, Exit.then])
 refine bodyPost_ret (results_cell_row rfl _ _ w.heap.size _ _ _ _ rfl (heap_alloc_new _ _) Tryz.underlying196 rfl (by kernel_rfl)) rfl ?_
 exact ⟨rfl, (Gr.refl _).alloc _⟩
set_option maxRecDepth 100000 in
set_option maxHeartbeats 4000000 in
theorem takes_19 (s : ByteArray) (w : World) (hs : s.toList = [80, 69, 82, 67, 69, 78, 84, 73, 76, 69]) :
    Calls Tryz.prog 175 #[.string s] w fun e w' => e = .returned (.agg #[.int .i64 2, .int .i64 2]) ∧ Gr w w' := by
 have f0 : (s.toList == [78, 65]) = false := by rw [hs]; rfl
 have f1 : (s.toList == [65, 66, 83]) = false := by rw [hs]; rfl
 have f2 : (s.toList == [73, 78, 84]) = false := by rw [hs]; rfl
 have f3 : (s.toList == [73, 83, 66, 76, 65, 78, 75]) = false := by rw [hs]; rfl
 have f4 : (s.toList == [73, 83, 69, 82, 82, 79, 82]) = false := by rw [hs]; rfl
 have f5 : (s.toList == [73, 83, 78, 85, 77, 66, 69, 82]) = false := by rw [hs]; rfl
 have f6 : (s.toList == [73, 83, 84, 69, 88, 84]) = false := by rw [hs]; rfl
 have f7 : (s.toList == [76, 69, 78]) = false := by rw [hs]; rfl
 have f8 : (s.toList == [78, 79, 84]) = false := by rw [hs]; rfl
 have f9 : (s.toList == [83, 73, 71, 78]) = false := by rw [hs]; rfl
 have f10 : (s.toList == [83, 73, 78, 71, 76, 69]) = false := by rw [hs]; rfl
 have f11 : (s.toList == [83, 81, 82, 84]) = false := by rw [hs]; rfl
 have f12 : (s.toList == [84, 82, 85, 78, 67]) = false := by rw [hs]; rfl
 have f13 : (s.toList == [86, 65, 76, 85, 69]) = false := by rw [hs]; rfl
 have f14 : (s.toList == [69, 88, 65, 67, 84]) = false := by rw [hs]; rfl
 have f15 : (s.toList == [73, 70, 69, 82, 82, 79, 82]) = false := by rw [hs]; rfl
 have f16 : (s.toList == [76, 65, 82, 71, 69]) = false := by rw [hs]; rfl
 have f17 : (s.toList == [76, 69, 70, 84]) = false := by rw [hs]; rfl
 have f18 : (s.toList == [77, 79, 68]) = false := by rw [hs]; rfl
 have f19 : (s.toList == [80, 69, 82, 67, 69, 78, 84, 73, 76, 69]) = true := by rw [hs]; rfl
 clear hs
 go_enter Tryz.func175, Tryz.ntmps175
 go_wp2_with fail
 (try simp only [Exit.inBlock, Exit.then])
 refine bodyPost_ret (results_cell_row rfl _ _ w.heap.size _ _ _ _ rfl (heap_alloc_new _ _) Tryz.underlying196 rfl (by kernel_rfl)) rfl ?_
 exact ⟨rfl, (Gr.refl _).alloc _⟩
set_option maxRecDepth 100000 in
set_option maxHeartbeats 4000000 in
theorem takes_20 (s : ByteArray) (w : World) (hs : s.toList = [80, 79, 87, 69, 82]) :
    Calls Tryz.prog 175 #[.string s] w fun e w' => e = .returned (.agg #[.int .i64 2, .int .i64 2]) ∧ Gr w w' := by
 have f0 : (s.toList == [78, 65]) = false := by rw [hs]; rfl
 have f1 : (s.toList == [65, 66, 83]) = false := by rw [hs]; rfl
 have f2 : (s.toList == [73, 78, 84]) = false := by rw [hs]; rfl
 have f3 : (s.toList == [73, 83, 66, 76, 65, 78, 75]) = false := by rw [hs]; rfl
 have f4 : (s.toList == [73, 83, 69, 82, 82, 79, 82]) = false := by rw [hs]; rfl
 have f5 : (s.toList == [73, 83, 78, 85, 77, 66, 69, 82]) = false := by rw [hs]; rfl
 have f6 : (s.toList == [73, 83, 84, 69, 88, 84]) = false := by rw [hs]; rfl
 have f7 : (s.toList == [76, 69, 78]) = false := by rw [hs]; rfl
 have f8 : (s.toList == [78, 79, 84]) = false := by rw [hs]; rfl
 have f9 : (s.toList == [83, 73, 71, 78]) = false := by rw [hs]; rfl
 have f10 : (s.toList == [83, 73, 78, 71, 76, 69]) = false := by rw [hs]; rfl
 have f11 : (s.toList == [83, 81, 82, 84]) = false := by rw [hs]; rfl
 have f12 : (s.toList == [84, 82, 85, 78, 67]) = false := by rw [hs]; rfl
 have f13 : (s.toList == [86, 65, 76, 85, 69]) = false := by rw [hs]; rfl
 have f14 : (s.toList == [69, 88, 65, 67, 84]) = false := by rw [hs]; rfl
 have f15 : (s.toList == [73, 70, 69, 82, 82, 79, 82]) = false := by rw [hs]; rfl
 have f16 : (s.toList == [76, 65, 82, 71, 69]) = false := by rw [hs]; rfl
 have f17 : (s.toList == [76, 69, 70, 84]) = false := by rw [hs]; rfl
 have f18 : (s.toList == [77, 79, 68]) = false := by rw [hs]; rfl
 have f19 : (s.toList == [80, 69, 82, 67, 69, 78, 84, 73, 76, 69]) = false := by rw [hs]; rfl
 have f20 : (s.toList == [80, 79, 87, 69, 82]) = true := by rw [hs]; rfl
 clear hs
 go_enter Tryz.func175, Tryz.ntmps175
 go_wp2_with fail
 (try simp only [Exit.inBlock, Exit.then])
 refine bodyPost_ret (results_cell_row rfl _ _ w.heap.size _ _ _ _ rfl (heap_alloc_new _ _) Tryz.underlying196 rfl (by kernel_rfl)) rfl ?_
 exact ⟨rfl, (Gr.refl _).alloc _⟩
set_option maxRecDepth 100000 in
set_option maxHeartbeats 4000000 in
theorem takes_21 (s : ByteArray) (w : World) (hs : s.toList = [82, 69, 80, 84]) :
    Calls Tryz.prog 175 #[.string s] w fun e w' => e = .returned (.agg #[.int .i64 2, .int .i64 2]) ∧ Gr w w' := by
 have f0 : (s.toList == [78, 65]) = false := by rw [hs]; rfl
 have f1 : (s.toList == [65, 66, 83]) = false := by rw [hs]; rfl
 have f2 : (s.toList == [73, 78, 84]) = false := by rw [hs]; rfl
 have f3 : (s.toList == [73, 83, 66, 76, 65, 78, 75]) = false := by rw [hs]; rfl
 have f4 : (s.toList == [73, 83, 69, 82, 82, 79, 82]) = false := by rw [hs]; rfl
 have f5 : (s.toList == [73, 83, 78, 85, 77, 66, 69, 82]) = false := by rw [hs]; rfl
 have f6 : (s.toList == [73, 83, 84, 69, 88, 84]) = false := by rw [hs]; rfl
 have f7 : (s.toList == [76, 69, 78]) = false := by rw [hs]; rfl
 have f8 : (s.toList == [78, 79, 84]) = false := by rw [hs]; rfl
 have f9 : (s.toList == [83, 73, 71, 78]) = false := by rw [hs]; rfl
 have f10 : (s.toList == [83, 73, 78, 71, 76, 69]) = false := by rw [hs]; rfl
 have f11 : (s.toList == [83, 81, 82, 84]) = false := by rw [hs]; rfl
 have f12 : (s.toList == [84, 82, 85, 78, 67]) = false := by rw [hs]; rfl
 have f13 : (s.toList == [86, 65, 76, 85, 69]) = false := by rw [hs]; rfl
 have f14 : (s.toList == [69, 88, 65, 67, 84]) = false := by rw [hs]; rfl
 have f15 : (s.toList == [73, 70, 69, 82, 82, 79, 82]) = false := by rw [hs]; rfl
 have f16 : (s.toList == [76, 65, 82, 71, 69]) = false := by rw [hs]; rfl
 have f17 : (s.toList == [76, 69, 70, 84]) = false := by rw [hs]; rfl
 have f18 : (s.toList == [77, 79, 68]) = false := by rw [hs]; rfl
 have f19 : (s.toList == [80, 69, 82, 67, 69, 78, 84, 73, 76, 69]) = false := by rw [hs]; rfl
 have f20 : (s.toList == [80, 79, 87, 69, 82]) = false := by rw [hs]; rfl
 have f21 : (s.toList == [82, 69, 80, 84]) = true := by rw [hs]; rfl
 clear hs
 go_enter Tryz.func175, Tryz.ntmps175
 go_wp2_with fail
 (try simp only [Exit.inBlock, Exit.then])
 refine bodyPost_ret (results_cell_row rfl _ _ w.heap.size _ _ _ _ rfl (heap_alloc_new _ _) Tryz.underlying196 rfl (by kernel_rfl)) rfl ?_
 exact ⟨rfl, (Gr.refl _).alloc _⟩
set_option maxRecDepth 100000 in
set_option maxHeartbeats 4000000 in
theorem takes_22 (s : ByteArray) (w : World) (hs : s.toList = [82, 73, 71, 72, 84]) :
    Calls Tryz.prog 175 #[.string s] w fun e w' => e = .returned (.agg #[.int .i64 2, .int .i64 2]) ∧ Gr w w' := by
 have f0 : (s.toList == [78, 65]) = false := by rw [hs]; rfl
 have f1 : (s.toList == [65, 66, 83]) = false := by rw [hs]; rfl
 have f2 : (s.toList == [73, 78, 84]) = false := by rw [hs]; rfl
 have f3 : (s.toList == [73, 83, 66, 76, 65, 78, 75]) = false := by rw [hs]; rfl
 have f4 : (s.toList == [73, 83, 69, 82, 82, 79, 82]) = false := by rw [hs]; rfl
 have f5 : (s.toList == [73, 83, 78, 85, 77, 66, 69, 82]) = false := by rw [hs]; rfl
 have f6 : (s.toList == [73, 83, 84, 69, 88, 84]) = false := by rw [hs]; rfl
 have f7 : (s.toList == [76, 69, 78]) = false := by rw [hs]; rfl
 have f8 : (s.toList == [78, 79, 84]) = false := by rw [hs]; rfl
 have f9 : (s.toList == [83, 73, 71, 78]) = false := by rw [hs]; rfl
 have f10 : (s.toList == [83, 73, 78, 71, 76, 69]) = false := by rw [hs]; rfl
 have f11 : (s.toList == [83, 81, 82, 84]) = false := by rw [hs]; rfl
 have f12 : (s.toList == [84, 82, 85, 78, 67]) = false := by rw [hs]; rfl
 have f13 : (s.toList == [86, 65, 76, 85, 69]) = false := by rw [hs]; rfl
 have f14 : (s.toList == [69, 88, 65, 67, 84]) = false := by rw [hs]; rfl
 have f15 : (s.toList == [73, 70, 69, 82, 82, 79, 82]) = false := by rw [hs]; rfl
 have f16 : (s.toList == [76, 65, 82, 71, 69]) = false := by rw [hs]; rfl
 have f17 : (s.toList == [76, 69, 70, 84]) = false := by rw [hs]; rfl
 have f18 : (s.toList == [77, 79, 68]) = false := by rw [hs]; rfl
 have f19 : (s.toList == [80, 69, 82, 67, 69, 78, 84, 73, 76, 69]) = false := by rw [hs]; rfl
 have f20 : (s.toList == [80, 79, 87, 69, 82]) = false := by rw [hs]; rfl
 have f21 : (s.toList == [82, 69, 80, 84]) = false := by rw [hs]; rfl
 have f22 : (s.toList == [82, 73, 71, 72, 84]) = true := by rw [hs]; rfl
 clear hs
 go_enter Tryz.func175, Tryz.ntmps175
 go_wp2_with fail
 (try simp only [Exit.inBlock, Exit.then])
 refine bodyPost_ret (results_cell_row rfl _ _ w.heap.size _ _ _ _ rfl (heap_alloc_new _ _) Tryz.underlying196 rfl (by kernel_rfl)) rfl ?_
 exact ⟨rfl, (Gr.refl _).alloc _⟩
set_option maxRecDepth 100000 in
set_option maxHeartbeats 4000000 in
theorem takes_23 (s : ByteArray) (w : World) (hs : s.toList = [82, 79, 85, 78, 68]) :
    Calls Tryz.prog 175 #[.string s] w fun e w' => e = .returned (.agg #[.int .i64 2, .int .i64 2]) ∧ Gr w w' := by
 have f0 : (s.toList == [78, 65]) = false := by rw [hs]; rfl
 have f1 : (s.toList == [65, 66, 83]) = false := by rw [hs]; rfl
 have f2 : (s.toList == [73, 78, 84]) = false := by rw [hs]; rfl
 have f3 : (s.toList == [73, 83, 66, 76, 65, 78, 75]) = false := by rw [hs]; rfl
 have f4 : (s.toList == [73, 83, 69, 82, 82, 79, 82]) = false := by rw [hs]; rfl
 have f5 : (s.toList == [73, 83, 78, 85, 77, 66, 69, 82]) = false := by rw [hs]; rfl
 have f6 : (s.toList == [73, 83, 84, 69, 88, 84]) = false := by rw [hs]; rfl
 have f7 : (s.toList == [76, 69, 78]) = false := by rw [hs]; rfl
 have f8 : (s.toList == [78, 79, 84]) = false := by rw [hs]; rfl
 have f9 : (s.toList == [83, 73, 71, 78]) = false := by rw [hs]; rfl
 have f10 : (s.toList == [83, 73, 78, 71, 76, 69]) = false := by rw [hs]; rfl
 have f11 : (s.toList == [83, 81, 82, 84]) = false := by rw [hs]; rfl
 have f12 : (s.toList == [84, 82, 85, 78, 67]) = false := by rw [hs]; rfl
 have f13 : (s.toList == [86, 65, 76, 85, 69]) = false := by rw [hs]; rfl
 have f14 : (s.toList == [69, 88, 65, 67, 84]) = false := by rw [hs]; rfl
 have f15 : (s.toList == [73, 70, 69, 82, 82, 79, 82]) = false := by rw [hs]; rfl
 have f16 : (s.toList == [76, 65, 82, 71, 69]) = false := by rw [hs]; rfl
 have f17 : (s.toList == [76, 69, 70, 84]) = false := by rw [hs]; rfl
 have f18 : (s.toList == [77, 79, 68]) = false := by rw [hs]; rfl
 have f19 : (s.toList == [80, 69, 82, 67, 69, 78, 84, 73, 76, 69]) = false := by rw [hs]; rfl
 have f20 : (s.toList == [80, 79, 87, 69, 82]) = false := by rw [hs]; rfl
 have f21 : (s.toList == [82, 69, 80, 84]) = false := by rw [hs]; rfl
 have f22 : (s.toList == [82, 73, 71, 72, 84]) = false := by rw [hs]; rfl
 have f23 : (s.toList == [82, 79, 85, 78, 68]) = true := by rw [hs]; rfl
 clear hs
 go_enter Tryz.func175, Tryz.ntmps175
 go_wp2_with fail
 (try simp only [Exit.inBlock, Exit.then])
 refine bodyPost_ret (results_cell_row rfl _ _ w.heap.size _ _ _ _ rfl (heap_alloc_new _ _) Tryz.underlying196 rfl (by kernel_rfl)) rfl ?_
 exact ⟨rfl, (Gr.refl _).alloc _⟩
set_option maxRecDepth 100000 in
set_option maxHeartbeats 4000000 in
theorem takes_24 (s : ByteArray) (w : World) (hs : s.toList = [82, 79, 85, 78, 68, 68, 79, 87, 78]) :
    Calls Tryz.prog 175 #[.string s] w fun e w' => e = .returned (.agg #[.int .i64 2, .int .i64 2]) ∧ Gr w w' := by
 have f0 : (s.toList == [78, 65]) = false := by rw [hs]; rfl
 have f1 : (s.toList == [65, 66, 83]) = false := by rw [hs]; rfl
 have f2 : (s.toList == [73, 78, 84]) = false := by rw [hs]; rfl
 have f3 : (s.toList == [73, 83, 66, 76, 65, 78, 75]) = false := by rw [hs]; rfl
 have f4 : (s.toList == [73, 83, 69, 82, 82, 79, 82]) = false := by rw [hs]; rfl
 have f5 : (s.toList == [73, 83, 78, 85, 77, 66, 69, 82]) = false := by rw [hs]; rfl
 have f6 : (s.toList == [73, 83, 84, 69, 88, 84]) = false := by rw [hs]; rfl
 have f7 : (s.toList == [76, 69, 78]) = false := by rw [hs]; rfl
 have f8 : (s.toList == [78, 79, 84]) = false := by rw [hs]; rfl
 have f9 : (s.toList == [83, 73, 71, 78]) = false := by rw [hs]; rfl
 have f10 : (s.toList == [83, 73, 78, 71, 76, 69]) = false := by rw [hs]; rfl
 have f11 : (s.toList == [83, 81, 82, 84]) = false := by rw [hs]; rfl
 have f12 : (s.toList == [84, 82, 85, 78, 67]) = false := by rw [hs]; rfl
 have f13 : (s.toList == [86, 65, 76, 85, 69]) = false := by rw [hs]; rfl
 have f14 : (s.toList == [69, 88, 65, 67, 84]) = false := by rw [hs]; rfl
 have f15 : (s.toList == [73, 70, 69, 82, 82, 79, 82]) = false := by rw [hs]; rfl
 have f16 : (s.toList == [76, 65, 82, 71, 69]) = false := by rw [hs]; rfl
 have f17 : (s.toList == [76, 69, 70, 84]) = false := by rw [hs]; rfl
 have f18 : (s.toList == [77, 79, 68]) = false := by rw [hs]; rfl
 have f19 : (s.toList == [80, 69, 82, 67, 69, 78, 84, 73, 76, 69]) = false := by rw [hs]; rfl
 have f20 : (s.toList == [80, 79, 87, 69, 82]) = false := by rw [hs]; rfl
 have f21 : (s.toList == [82, 69, 80, 84]) = false := by rw [hs]; rfl
 have f22 : (s.toList == [82, 73, 71, 72, 84]) = false := by rw [hs]; rfl
 have f23 : (s.toList == [82, 79, 85, 78, 68]) = false := by rw [hs]; rfl
 have f24 : (s.toList == [82, 79, 85, 78, 68, 68, 79, 87, 78]) = true := by rw [hs]; rfl
 clear hs
 go_enter Tryz.func175, Tryz.ntmps175
 go_wp2_with fail
 (try simp only [Exit.inBlock, Exit.then])
 refine bodyPost_ret (results_cell_row rfl _ _ w.heap.size _ _ _ _ rfl (heap_alloc_new _ _) Tryz.underlying196 rfl (by kernel_rfl)) rfl ?_
 exact ⟨rfl, (Gr.refl _).alloc _⟩
set_option maxRecDepth 100000 in
set_option maxHeartbeats 4000000 in
theorem takes_25 (s : ByteArray) (w : World) (hs : s.toList = [82, 79, 85, 78, 68, 69, 86, 69, 78]) :
    Calls Tryz.prog 175 #[.string s] w fun e w' => e = .returned (.agg #[.int .i64 2, .int .i64 2]) ∧ Gr w w' := by
 have f0 : (s.toList == [78, 65]) = false := by rw [hs]; rfl
 have f1 : (s.toList == [65, 66, 83]) = false := by rw [hs]; rfl
 have f2 : (s.toList == [73, 78, 84]) = false := by rw [hs]; rfl
 have f3 : (s.toList == [73, 83, 66, 76, 65, 78, 75]) = false := by rw [hs]; rfl
 have f4 : (s.toList == [73, 83, 69, 82, 82, 79, 82]) = false := by rw [hs]; rfl
 have f5 : (s.toList == [73, 83, 78, 85, 77, 66, 69, 82]) = false := by rw [hs]; rfl
 have f6 : (s.toList == [73, 83, 84, 69, 88, 84]) = false := by rw [hs]; rfl
 have f7 : (s.toList == [76, 69, 78]) = false := by rw [hs]; rfl
 have f8 : (s.toList == [78, 79, 84]) = false := by rw [hs]; rfl
 have f9 : (s.toList == [83, 73, 71, 78]) = false := by rw [hs]; rfl
 have f10 : (s.toList == [83, 73, 78, 71, 76, 69]) = false := by rw [hs]; rfl
 have f11 : (s.toList == [83, 81, 82, 84]) = false := by rw [hs]; rfl
 have f12 : (s.toList == [84, 82, 85, 78, 67]) = false := by rw [hs]; rfl
 have f13 : (s.toList == [86, 65, 76, 85, 69]) = false := by rw [hs]; rfl
 have f14 : (s.toList == [69, 88, 65, 67, 84]) = false := by rw [hs]; rfl
 have f15 : (s.toList == [73, 70, 69, 82, 82, 79, 82]) = false := by rw [hs]; rfl
 have f16 : (s.toList == [76, 65, 82, 71, 69]) = false := by rw [hs]; rfl
 have f17 : (s.toList == [76, 69, 70, 84]) = false := by rw [hs]; rfl
 have f18 : (s.toList == [77, 79, 68]) = false := by rw [hs]; rfl
 have f19 : (s.toList == [80, 69, 82, 67, 69, 78, 84, 73, 76, 69]) = false := by rw [hs]; rfl
 have f20 : (s.toList == [80, 79, 87, 69, 82]) = false := by rw [hs]; rfl
 have f21 : (s.toList == [82, 69, 80, 84]) = false := by rw [hs]; rfl
 have f22 : (s.toList == [82, 73, 71, 72, 84]) = false := by rw [hs]; rfl
 have f23 : (s.toList == [82, 79, 85, 78, 68]) = false := by rw [hs]; rfl
 have f24 : (s.toList == [82, 79, 85, 78, 68, 68, 79, 87, 78]) = false := by rw [hs]; rfl
 have f25 : (s.toList == [82, 79, 85, 78, 68, 69, 86, 69, 78]) = true := by rw [hs]; rfl
 clear hs
 go_enter Tryz.func175, Tryz.ntmps175
 go_wp2_with fail
 (try simp only [Exit.inBlock, Exit.then])
 refine bodyPost_ret (results_cell_row rfl _ _ w.heap.size _ _ _ _ rfl (heap_alloc_new _ _) Tryz.underlying196 rfl (by kernel_rfl)) rfl ?_
 exact ⟨rfl, (Gr.refl _).alloc _⟩
set_option maxRecDepth 100000 in
set_option maxHeartbeats 4000000 in
theorem takes_26 (s : ByteArray) (w : World) (hs : s.toList = [82, 79, 85, 78, 68, 85, 80]) :
    Calls Tryz.prog 175 #[.string s] w fun e w' => e = .returned (.agg #[.int .i64 2, .int .i64 2]) ∧ Gr w w' := by
 have f0 : (s.toList == [78, 65]) = false := by rw [hs]; rfl
 have f1 : (s.toList == [65, 66, 83]) = false := by rw [hs]; rfl
 have f2 : (s.toList == [73, 78, 84]) = false := by rw [hs]; rfl
 have f3 : (s.toList == [73, 83, 66, 76, 65, 78, 75]) = false := by rw [hs]; rfl
 have f4 : (s.toList == [73, 83, 69, 82, 82, 79, 82]) = false := by rw [hs]; rfl
 have f5 : (s.toList == [73, 83, 78, 85, 77, 66, 69, 82]) = false := by rw [hs]; rfl
 have f6 : (s.toList == [73, 83, 84, 69, 88, 84]) = false := by rw [hs]; rfl
 have f7 : (s.toList == [76, 69, 78]) = false := by rw [hs]; rfl
 have f8 : (s.toList == [78, 79, 84]) = false := by rw [hs]; rfl
 have f9 : (s.toList == [83, 73, 71, 78]) = false := by rw [hs]; rfl
 have f10 : (s.toList == [83, 73, 78, 71, 76, 69]) = false := by rw [hs]; rfl
 have f11 : (s.toList == [83, 81, 82, 84]) = false := by rw [hs]; rfl
 have f12 : (s.toList == [84, 82, 85, 78, 67]) = false := by rw [hs]; rfl
 have f13 : (s.toList == [86, 65, 76, 85, 69]) = false := by rw [hs]; rfl
 have f14 : (s.toList == [69, 88, 65, 67, 84]) = false := by rw [hs]; rfl
 have f15 : (s.toList == [73, 70, 69, 82, 82, 79, 82]) = false := by rw [hs]; rfl
 have f16 : (s.toList == [76, 65, 82, 71, 69]) = false := by rw [hs]; rfl
 have f17 : (s.toList == [76, 69, 70, 84]) = false := by rw [hs]; rfl
 have f18 : (s.toList == [77, 79, 68]) = false := by rw [hs]; rfl
 have f19 : (s.toList == [80, 69, 82, 67, 69, 78, 84, 73, 76, 69]) = false := by rw [hs]; rfl
 have f20 : (s.toList == [80, 79, 87, 69, 82]) = false := by rw [hs]; rfl
 have f21 : (s.toList == [82, 69, 80, 84]) = false := by rw [hs]; rfl
 have f22 : (s.toList == [82, 73, 71, 72, 84]) = false := by rw [hs]; rfl
 have f23 : (s.toList == [82, 79, 85, 78, 68]) = false := by rw [hs]; rfl
 have f24 : (s.toList == [82, 79, 85, 78, 68, 68, 79, 87, 78]) = false := by rw [hs]; rfl
 have f25 : (s.toList == [82, 79, 85, 78, 68, 69, 86, 69, 78]) = false := by rw [hs]; rfl
 have f26 : (s.toList == [82, 79, 85, 78, 68, 85, 80]) = true := by rw [hs]; rfl
 clear hs
 go_enter Tryz.func175, Tryz.ntmps175
 go_wp2_with fail
 (try simp only [Exit.inBlock, Exit.then])
 refine bodyPost_ret (results_cell_row rfl _ _ w.heap.size _ _ _ _ rfl (heap_alloc_new _ _) Tryz.underlying196 rfl (by kernel_rfl)) rfl ?_
 exact ⟨rfl, (Gr.refl _).alloc _⟩
set_option maxRecDepth 100000 in
set_option maxHeartbeats 4000000 in
theorem takes_27 (s : ByteArray) (w : World) (hs : s.toList = [83, 77, 65, 76, 76]) :
    Calls Tryz.prog 175 #[.string s] w fun e w' => e = .returned (.agg #[.int .i64 2, .int .i64 2]) ∧ Gr w w' := by
 have f0 : (s.toList == [78, 65]) = false := by rw [hs]; rfl
 have f1 : (s.toList == [65, 66, 83]) = false := by rw [hs]; rfl
 have f2 : (s.toList == [73, 78, 84]) = false := by rw [hs]; rfl
 have f3 : (s.toList == [73, 83, 66, 76, 65, 78, 75]) = false := by rw [hs]; rfl
 have f4 : (s.toList == [73, 83, 69, 82, 82, 79, 82]) = false := by rw [hs]; rfl
 have f5 : (s.toList == [73, 83, 78, 85, 77, 66, 69, 82]) = false := by rw [hs]; rfl
 have f6 : (s.toList == [73, 83, 84, 69, 88, 84]) = false := by rw [hs]; rfl
 have f7 : (s.toList == [76, 69, 78]) = false := by rw [hs]; rfl
 have f8 : (s.toList == [78, 79, 84]) = false := by rw [hs]; rfl
 have f9 : (s.toList == [83, 73, 71, 78]) = false := by rw [hs]; rfl
 have f10 : (s.toList == [83, 73, 78, 71, 76, 69]) = false := by rw [hs]; rfl
 have f11 : (s.toList == [83, 81, 82, 84]) = false := by rw [hs]; rfl
 have f12 : (s.toList == [84, 82, 85, 78, 67]) = false := by rw [hs]; rfl
 have f13 : (s.toList == [86, 65, 76, 85, 69]) = false := by rw [hs]; rfl
 have f14 : (s.toList == [69, 88, 65, 67, 84]) = false := by rw [hs]; rfl
 have f15 : (s.toList == [73, 70, 69, 82, 82, 79, 82]) = false := by rw [hs]; rfl
 have f16 : (s.toList == [76, 65, 82, 71, 69]) = false := by rw [hs]; rfl
 have f17 : (s.toList == [76, 69, 70, 84]) = false := by rw [hs]; rfl
 have f18 : (s.toList == [77, 79, 68]) = false := by rw [hs]; rfl
 have f19 : (s.toList == [80, 69, 82, 67, 69, 78, 84, 73, 76, 69]) = false := by rw [hs]; rfl
 have f20 : (s.toList == [80, 79, 87, 69, 82]) = false := by rw [hs]; rfl
 have f21 : (s.toList == [82, 69, 80, 84]) = false := by rw [hs]; rfl
 have f22 : (s.toList == [82, 73, 71, 72, 84]) = false := by rw [hs]; rfl
 have f23 : (s.toList == [82, 79, 85, 78, 68]) = false := by rw [hs]; rfl
 have f24 : (s.toList == [82, 79, 85, 78, 68, 68, 79, 87, 78]) = false := by rw [hs]; rfl
 have f25 : (s.toList == [82, 79, 85, 78, 68, 69, 86, 69, 78]) = false := by rw [hs]; rfl
 have f26 : (s.toList == [82, 79, 85, 78, 68, 85, 80]) = false := by rw [hs]; rfl
 have f27 : (s.toList == [83, 77, 65, 76, 76]) = true := by rw [hs]; rfl
 clear hs
 go_enter Tryz.func175, Tryz.ntmps175
 go_wp2_with fail
 (try simp only [Exit.inBlock, Exit.then])
 refine bodyPost_ret (results_cell_row rfl _ _ w.heap.size _ _ _ _ rfl (heap_alloc_new _ _) Tryz.underlying196 rfl (by kernel_rfl)) rfl ?_
 exact ⟨rfl, (Gr.refl _).alloc _⟩
set_option maxRecDepth 100000 in
set_option maxHeartbeats 4000000 in
theorem takes_28 (s : ByteArray) (w : World) (hs : s.toList = [83, 85, 77, 80, 82, 79, 68, 85, 67, 84]) :
    Calls Tryz.prog 175 #[.string s] w fun e w' => e = .returned (.agg #[.int .i64 2, .int .i64 2]) ∧ Gr w w' := by
 have f0 : (s.toList == [78, 65]) = false := by rw [hs]; rfl
 have f1 : (s.toList == [65, 66, 83]) = false := by rw [hs]; rfl
 have f2 : (s.toList == [73, 78, 84]) = false := by rw [hs]; rfl
 have f3 : (s.toList == [73, 83, 66, 76, 65, 78, 75]) = false := by rw [hs]; rfl
 have f4 : (s.toList == [73, 83, 69, 82, 82, 79, 82]) = false := by rw [hs]; rfl
 have f5 : (s.toList == [73, 83, 78, 85, 77, 66, 69, 82]) = false := by rw [hs]; rfl
 have f6 : (s.toList == [73, 83, 84, 69, 88, 84]) = false := by rw [hs]; rfl
 have f7 : (s.toList == [76, 69, 78]) = false := by rw [hs]; rfl
 have f8 : (s.toList == [78, 79, 84]) = false := by rw [hs]; rfl
 have f9 : (s.toList == [83, 73, 71, 78]) = false := by rw [hs]; rfl
 have f10 : (s.toList == [83, 73, 78, 71, 76, 69]) = false := by rw [hs]; rfl
 have f11 : (s.toList == [83, 81, 82, 84]) = false := by rw [hs]; rfl
 have f12 : (s.toList == [84, 82, 85, 78, 67]) = false := by rw [hs]; rfl
 have f13 : (s.toList == [86, 65, 76, 85, 69]) = false := by rw [hs]; rfl
 have f14 : (s.toList == [69, 88, 65, 67, 84]) = false := by rw [hs]; rfl
 have f15 : (s.toList == [73, 70, 69, 82, 82, 79, 82]) = false := by rw [hs]; rfl
 have f16 : (s.toList == [76, 65, 82, 71, 69]) = false := by rw [hs]; rfl
 have f17 : (s.toList == [76, 69, 70, 84]) = false := by rw [hs]; rfl
 have f18 : (s.toList == [77, 79, 68]) = false := by rw [hs]; rfl
 have f19 : (s.toList == [80, 69, 82, 67, 69, 78, 84, 73, 76, 69]) = false := by rw [hs]; rfl
 have f20 : (s.toList == [80, 79, 87, 69, 82]) = false := by rw [hs]; rfl
 have f21 : (s.toList == [82, 69, 80, 84]) = false := by rw [hs]; rfl
 have f22 : (s.toList == [82, 73, 71, 72, 84]) = false := by rw [hs]; rfl
 have f23 : (s.toList == [82, 79, 85, 78, 68]) = false := by rw [hs]; rfl
 have f24 : (s.toList == [82, 79, 85, 78, 68, 68, 79, 87, 78]) = false := by rw [hs]; rfl
 have f25 : (s.toList == [82, 79, 85, 78, 68, 69, 86, 69, 78]) = false := by rw [hs]; rfl
 have f26 : (s.toList == [82, 79, 85, 78, 68, 85, 80]) = false := by rw [hs]; rfl
 have f27 : (s.toList == [83, 77, 65, 76, 76]) = false := by rw [hs]; rfl
 have f28 : (s.toList == [83, 85, 77, 80, 82, 79, 68, 85, 67, 84]) = true := by rw [hs]; rfl
 clear hs
 go_enter Tryz.func175, Tryz.ntmps175
 go_wp2_with fail
 (try simp only [Exit.inBlock, Exit.then])
 refine bodyPost_ret (results_cell_row rfl _ _ w.heap.size _ _ _ _ rfl (heap_alloc_new _ _) Tryz.underlying196 rfl (by kernel_rfl)) rfl ?_
 exact ⟨rfl, (Gr.refl _).alloc _⟩
set_option maxRecDepth 100000 in
set_option maxHeartbeats 4000000 in
theorem takes_29 (s : ByteArray) (w : World) (hs : s.toList = [84, 69, 88, 84]) :
    Calls Tryz.prog 175 #[.string s] w fun e w' => e = .returned (.agg #[.int .i64 2, .int .i64 2]) ∧ Gr w w' := by
 have f0 : (s.toList == [78, 65]) = false := by rw [hs]; rfl
 have f1 : (s.toList == [65, 66, 83]) = false := by rw [hs]; rfl
 have f2 : (s.toList == [73, 78, 84]) = false := by rw [hs]; rfl
 have f3 : (s.toList == [73, 83, 66, 76, 65, 78, 75]) = false := by rw [hs]; rfl
 have f4 : (s.toList == [73, 83, 69, 82, 82, 79, 82]) = false := by rw [hs]; rfl
 have f5 : (s.toList == [73, 83, 78, 85, 77, 66, 69, 82]) = false := by rw [hs]; rfl
 have f6 : (s.toList == [73, 83, 84, 69, 88, 84]) = false := by rw [hs]; rfl
 have f7 : (s.toList == [76, 69, 78]) = false := by rw [hs]; rfl
 have f8 : (s.toList == [78, 79, 84]) = false := by rw [hs]; rfl
 have f9 : (s.toList == [83, 73, 71, 78]) = false := by rw [hs]; rfl
 have f10 : (s.toList == [83, 73, 78, 71, 76, 69]) = false := by rw [hs]; rfl
 have f11 : (s.toList == [83, 81, 82, 84]) = false := by rw [hs]; rfl
 have f12 : (s.toList == [84, 82, 85, 78, 67]) = false := by rw [hs]; rfl
 have f13 : (s.toList == [86, 65, 76, 85, 69]) = false := by rw [hs]; rfl
 have f14 : (s.toList == [69, 88, 65, 67, 84]) = false := by rw [hs]; rfl
 have f15 : (s.toList == [73, 70, 69, 82, 82, 79, 82]) = false := by rw [hs]; rfl
 have f16 : (s.toList == [76, 65, 82, 71, 69]) = false := by rw [hs]; rfl
 have f17 : (s.toList == [76, 69, 70, 84]) = false := by rw [hs]; rfl
 have f18 : (s.toList == [77, 79, 68]) = false := by rw [hs]; rfl
 have f19 : (s.toList == [80, 69, 82, 67, 69, 78, 84, 73, 76, 69]) = false := by rw [hs]; rfl
 have f20 : (s.toList == [80, 79, 87, 69, 82]) = false := by rw [hs]; rfl
 have f21 : (s.toList == [82, 69, 80, 84]) = false := by rw [hs]; rfl
 have f22 : (s.toList == [82, 73, 71, 72, 84]) = false := by rw [hs]; rfl
 have f23 : (s.toList == [82, 79, 85, 78, 68]) = false := by rw [hs]; rfl
 have f24 : (s.toList == [82, 79, 85, 78, 68, 68, 79, 87, 78]) = false := by rw [hs]; rfl
 have f25 : (s.toList == [82, 79, 85, 78, 68, 69, 86, 69, 78]) = false := by rw [hs]; rfl
 have f26 : (s.toList == [82, 79, 85, 78, 68, 85, 80]) = false := by rw [hs]; rfl
 have f27 : (s.toList == [83, 77, 65, 76, 76]) = false := by rw [hs]; rfl
 have f28 : (s.toList == [83, 85, 77, 80, 82, 79, 68, 85, 67, 84]) = false := by rw [hs]; rfl
 have f29 : (s.toList == [84, 69, 88, 84]) = true := by rw [hs]; rfl
 clear hs
 go_enter Tryz.func175, Tryz.ntmps175
 go_wp2_with fail
 (try simp only [Exit.inBlock, Exit.then])
 refine bodyPost_ret (results_cell_row rfl _ _ w.heap.size _ _ _ _ rfl (heap_alloc_new _ _) Tryz.underlying196 rfl (by kernel_rfl)) rfl ?_
 exact ⟨rfl, (Gr.refl _).alloc _⟩
end Go.Proofs.YtdoeejhdenifpaaGreatDoor
namespace Go.Proofs.YtdoeejhdenifpaaGreatDoor
open Go.RowKit Go.Sort
set_option maxRecDepth 100000 in
set_option maxHeartbeats 4000000 in
theorem takes_30 (s : ByteArray) (w : World) (hs : s.toList = [73, 70]) :
    Calls Tryz.prog 175 #[.string s] w fun e w' => e = .returned (.agg #[.int .i64 2, .int .i64 3]) ∧ Gr w w' := by
 have f0 : (s.toList == [78, 65]) = false := by rw [hs]; rfl
 have f1 : (s.toList == [65, 66, 83]) = false := by rw [hs]; rfl
 have f2 : (s.toList == [73, 78, 84]) = false := by rw [hs]; rfl
 have f3 : (s.toList == [73, 83, 66, 76, 65, 78, 75]) = false := by rw [hs]; rfl
 have f4 : (s.toList == [73, 83, 69, 82, 82, 79, 82]) = false := by rw [hs]; rfl
 have f5 : (s.toList == [73, 83, 78, 85, 77, 66, 69, 82]) = false := by rw [hs]; rfl
 have f6 : (s.toList == [73, 83, 84, 69, 88, 84]) = false := by rw [hs]; rfl
 have f7 : (s.toList == [76, 69, 78]) = false := by rw [hs]; rfl
 have f8 : (s.toList == [78, 79, 84]) = false := by rw [hs]; rfl
 have f9 : (s.toList == [83, 73, 71, 78]) = false := by rw [hs]; rfl
 have f10 : (s.toList == [83, 73, 78, 71, 76, 69]) = false := by rw [hs]; rfl
 have f11 : (s.toList == [83, 81, 82, 84]) = false := by rw [hs]; rfl
 have f12 : (s.toList == [84, 82, 85, 78, 67]) = false := by rw [hs]; rfl
 have f13 : (s.toList == [86, 65, 76, 85, 69]) = false := by rw [hs]; rfl
 have f14 : (s.toList == [69, 88, 65, 67, 84]) = false := by rw [hs]; rfl
 have f15 : (s.toList == [73, 70, 69, 82, 82, 79, 82]) = false := by rw [hs]; rfl
 have f16 : (s.toList == [76, 65, 82, 71, 69]) = false := by rw [hs]; rfl
 have f17 : (s.toList == [76, 69, 70, 84]) = false := by rw [hs]; rfl
 have f18 : (s.toList == [77, 79, 68]) = false := by rw [hs]; rfl
 have f19 : (s.toList == [80, 69, 82, 67, 69, 78, 84, 73, 76, 69]) = false := by rw [hs]; rfl
 have f20 : (s.toList == [80, 79, 87, 69, 82]) = false := by rw [hs]; rfl
 have f21 : (s.toList == [82, 69, 80, 84]) = false := by rw [hs]; rfl
 have f22 : (s.toList == [82, 73, 71, 72, 84]) = false := by rw [hs]; rfl
 have f23 : (s.toList == [82, 79, 85, 78, 68]) = false := by rw [hs]; rfl
 have f24 : (s.toList == [82, 79, 85, 78, 68, 68, 79, 87, 78]) = false := by rw [hs]; rfl
 have f25 : (s.toList == [82, 79, 85, 78, 68, 69, 86, 69, 78]) = false := by rw [hs]; rfl
 have f26 : (s.toList == [82, 79, 85, 78, 68, 85, 80]) = false := by rw [hs]; rfl
 have f27 : (s.toList == [83, 77, 65, 76, 76]) = false := by rw [hs]; rfl
 have f28 : (s.toList == [83, 85, 77, 80, 82, 79, 68, 85, 67, 84]) = false := by rw [hs]; rfl
 have f29 : (s.toList == [84, 69, 88, 84]) = false := by rw [hs]; rfl
 have f30 : (s.toList == [73, 70]) = true := by rw [hs]; rfl
 clear hs
 go_enter Tryz.func175, Tryz.ntmps175
 go_wp2_with fail
 (try simp only [Exit.inBlock, Exit.then])
 refine bodyPost_ret (results_cell_row rfl _ _ w.heap.size _ _ _ _ rfl (heap_alloc_new _ _) Tryz.underlying196 rfl (by kernel_rfl)) rfl ?_
 exact ⟨rfl, (Gr.refl _).alloc _⟩
set_option maxRecDepth 100000 in
set_option maxHeartbeats 4000000 in
theorem takes_31 (s : ByteArray) (w : World) (hs : s.toList = [82, 65, 78, 75]) :
    Calls Tryz.prog 175 #[.string s] w fun e w' => e = .returned (.agg #[.int .i64 2, .int .i64 3]) ∧ Gr w w' := by
 have f0 : (s.toList == [78, 65]) = false := by rw [hs]; rfl
 have f1 : (s.toList == [65, 66, 83]) = false := by rw [hs]; rfl
 have f2 : (s.toList == [73, 78, 84]) = false := by rw [hs]; rfl
 have f3 : (s.toList == [73, 83, 66, 76, 65, 78, 75]) = false := by rw [hs]; rfl
 have f4 : (s.toList == [73, 83, 69, 82, 82, 79, 82]) = false := by rw [hs]; rfl
 have f5 : (s.toList == [73, 83, 78, 85, 77, 66, 69, 82]) = false := by rw [hs]; rfl
 have f6 : (s.toList == [73, 83, 84, 69, 88, 84]) = false := by rw [hs]; rfl
 have f7 : (s.toList == [76, 69, 78]) = false := by rw [hs]; rfl
 have f8 : (s.toList == [78, 79, 84]) = false := by rw [hs]; rfl
 have f9 : (s.toList == [83, 73, 71, 78]) = false := by rw [hs]; rfl
 have f10 : (s.toList == [83, 73, 78, 71, 76, 69]) = false := by rw [hs]; rfl
 have f11 : (s.toList == [83, 81, 82, 84]) = false := by rw [hs]; rfl
 have f12 : (s.toList == [84, 82, 85, 78, 67]) = false := by rw [hs]; rfl
 have f13 : (s.toList == [86, 65, 76, 85, 69]) = false := by rw [hs]; rfl
 have f14 : (s.toList == [69, 88, 65, 67, 84]) = false := by rw [hs]; rfl
 have f15 : (s.toList == [73, 70, 69, 82, 82, 79, 82]) = false := by rw [hs]; rfl
 have f16 : (s.toList == [76, 65, 82, 71, 69]) = false := by rw [hs]; rfl
 have f17 : (s.toList == [76, 69, 70, 84]) = false := by rw [hs]; rfl
 have f18 : (s.toList == [77, 79, 68]) = false := by rw [hs]; rfl
 have f19 : (s.toList == [80, 69, 82, 67, 69, 78, 84, 73, 76, 69]) = false := by rw [hs]; rfl
 have f20 : (s.toList == [80, 79, 87, 69, 82]) = false := by rw [hs]; rfl
 have f21 : (s.toList == [82, 69, 80, 84]) = false := by rw [hs]; rfl
 have f22 : (s.toList == [82, 73, 71, 72, 84]) = false := by rw [hs]; rfl
 have f23 : (s.toList == [82, 79, 85, 78, 68]) = false := by rw [hs]; rfl
 have f24 : (s.toList == [82, 79, 85, 78, 68, 68, 79, 87, 78]) = false := by rw [hs]; rfl
 have f25 : (s.toList == [82, 79, 85, 78, 68, 69, 86, 69, 78]) = false := by rw [hs]; rfl
 have f26 : (s.toList == [82, 79, 85, 78, 68, 85, 80]) = false := by rw [hs]; rfl
 have f27 : (s.toList == [83, 77, 65, 76, 76]) = false := by rw [hs]; rfl
 have f28 : (s.toList == [83, 85, 77, 80, 82, 79, 68, 85, 67, 84]) = false := by rw [hs]; rfl
 have f29 : (s.toList == [84, 69, 88, 84]) = false := by rw [hs]; rfl
 have f30 : (s.toList == [73, 70]) = false := by rw [hs]; rfl
 have f31 : (s.toList == [82, 65, 78, 75]) = true := by rw [hs]; rfl
 clear hs
 go_enter Tryz.func175, Tryz.ntmps175
 go_wp2_with fail
 (try simp only [Exit.inBlock, Exit.then])
 refine bodyPost_ret (results_cell_row rfl _ _ w.heap.size _ _ _ _ rfl (heap_alloc_new _ _) Tryz.underlying196 rfl (by kernel_rfl)) rfl ?_
 exact ⟨rfl, (Gr.refl _).alloc _⟩
set_option maxRecDepth 100000 in
set_option maxHeartbeats 4000000 in
theorem takes_32 (s : ByteArray) (w : World) (hs : s.toList = [67, 79, 85, 78, 84, 73, 70]) :
    Calls Tryz.prog 175 #[.string s] w fun e w' => e = .returned (.agg #[.int .i64 3, .int .i64 3]) ∧ Gr w w' := by
 have f0 : (s.toList == [78, 65]) = false := by rw [hs]; rfl
 have f1 : (s.toList == [65, 66, 83]) = false := by rw [hs]; rfl
 have f2 : (s.toList == [73, 78, 84]) = false := by rw [hs]; rfl
 have f3 : (s.toList == [73, 83, 66, 76, 65, 78, 75]) = false := by rw [hs]; rfl
 have f4 : (s.toList == [73, 83, 69, 82, 82, 79, 82]) = false := by rw [hs]; rfl
 have f5 : (s.toList == [73, 83, 78, 85, 77, 66, 69, 82]) = false := by rw [hs]; rfl
 have f6 : (s.toList == [73, 83, 84, 69, 88, 84]) = false := by rw [hs]; rfl
 have f7 : (s.toList == [76, 69, 78]) = false := by rw [hs]; rfl
 have f8 : (s.toList == [78, 79, 84]) = false := by rw [hs]; rfl
 have f9 : (s.toList == [83, 73, 71, 78]) = false := by rw [hs]; rfl
 have f10 : (s.toList == [83, 73, 78, 71, 76, 69]) = false := by rw [hs]; rfl
 have f11 : (s.toList == [83, 81, 82, 84]) = false := by rw [hs]; rfl
 have f12 : (s.toList == [84, 82, 85, 78, 67]) = false := by rw [hs]; rfl
 have f13 : (s.toList == [86, 65, 76, 85, 69]) = false := by rw [hs]; rfl
 have f14 : (s.toList == [69, 88, 65, 67, 84]) = false := by rw [hs]; rfl
 have f15 : (s.toList == [73, 70, 69, 82, 82, 79, 82]) = false := by rw [hs]; rfl
 have f16 : (s.toList == [76, 65, 82, 71, 69]) = false := by rw [hs]; rfl
 have f17 : (s.toList == [76, 69, 70, 84]) = false := by rw [hs]; rfl
 have f18 : (s.toList == [77, 79, 68]) = false := by rw [hs]; rfl
 have f19 : (s.toList == [80, 69, 82, 67, 69, 78, 84, 73, 76, 69]) = false := by rw [hs]; rfl
 have f20 : (s.toList == [80, 79, 87, 69, 82]) = false := by rw [hs]; rfl
 have f21 : (s.toList == [82, 69, 80, 84]) = false := by rw [hs]; rfl
 have f22 : (s.toList == [82, 73, 71, 72, 84]) = false := by rw [hs]; rfl
 have f23 : (s.toList == [82, 79, 85, 78, 68]) = false := by rw [hs]; rfl
 have f24 : (s.toList == [82, 79, 85, 78, 68, 68, 79, 87, 78]) = false := by rw [hs]; rfl
 have f25 : (s.toList == [82, 79, 85, 78, 68, 69, 86, 69, 78]) = false := by rw [hs]; rfl
 have f26 : (s.toList == [82, 79, 85, 78, 68, 85, 80]) = false := by rw [hs]; rfl
 have f27 : (s.toList == [83, 77, 65, 76, 76]) = false := by rw [hs]; rfl
 have f28 : (s.toList == [83, 85, 77, 80, 82, 79, 68, 85, 67, 84]) = false := by rw [hs]; rfl
 have f29 : (s.toList == [84, 69, 88, 84]) = false := by rw [hs]; rfl
 have f30 : (s.toList == [73, 70]) = false := by rw [hs]; rfl
 have f31 : (s.toList == [82, 65, 78, 75]) = false := by rw [hs]; rfl
 have f32 : (s.toList == [67, 79, 85, 78, 84, 73, 70]) = true := by rw [hs]; rfl
 clear hs
 go_enter Tryz.func175, Tryz.ntmps175
 go_wp2_with fail
 (try simp only [Exit.inBlock, Exit.then])
 refine bodyPost_ret (results_cell_row rfl _ _ w.heap.size _ _ _ _ rfl (heap_alloc_new _ _) Tryz.underlying196 rfl (by kernel_rfl)) rfl ?_
 exact ⟨rfl, (Gr.refl _).alloc _⟩
set_option maxRecDepth 100000 in
set_option maxHeartbeats 4000000 in
theorem takes_33 (s : ByteArray) (w : World) (hs : s.toList = [70, 85, 83, 69, 68]) :
    Calls Tryz.prog 175 #[.string s] w fun e w' => e = .returned (.agg #[.int .i64 3, .int .i64 3]) ∧ Gr w w' := by
 have f0 : (s.toList == [78, 65]) = false := by rw [hs]; rfl
 have f1 : (s.toList == [65, 66, 83]) = false := by rw [hs]; rfl
 have f2 : (s.toList == [73, 78, 84]) = false := by rw [hs]; rfl
 have f3 : (s.toList == [73, 83, 66, 76, 65, 78, 75]) = false := by rw [hs]; rfl
 have f4 : (s.toList == [73, 83, 69, 82, 82, 79, 82]) = false := by rw [hs]; rfl
 have f5 : (s.toList == [73, 83, 78, 85, 77, 66, 69, 82]) = false := by rw [hs]; rfl
 have f6 : (s.toList == [73, 83, 84, 69, 88, 84]) = false := by rw [hs]; rfl
 have f7 : (s.toList == [76, 69, 78]) = false := by rw [hs]; rfl
 have f8 : (s.toList == [78, 79, 84]) = false := by rw [hs]; rfl
 have f9 : (s.toList == [83, 73, 71, 78]) = false := by rw [hs]; rfl
 have f10 : (s.toList == [83, 73, 78, 71, 76, 69]) = false := by rw [hs]; rfl
 have f11 : (s.toList == [83, 81, 82, 84]) = false := by rw [hs]; rfl
 have f12 : (s.toList == [84, 82, 85, 78, 67]) = false := by rw [hs]; rfl
 have f13 : (s.toList == [86, 65, 76, 85, 69]) = false := by rw [hs]; rfl
 have f14 : (s.toList == [69, 88, 65, 67, 84]) = false := by rw [hs]; rfl
 have f15 : (s.toList == [73, 70, 69, 82, 82, 79, 82]) = false := by rw [hs]; rfl
 have f16 : (s.toList == [76, 65, 82, 71, 69]) = false := by rw [hs]; rfl
 have f17 : (s.toList == [76, 69, 70, 84]) = false := by rw [hs]; rfl
 have f18 : (s.toList == [77, 79, 68]) = false := by rw [hs]; rfl
 have f19 : (s.toList == [80, 69, 82, 67, 69, 78, 84, 73, 76, 69]) = false := by rw [hs]; rfl
 have f20 : (s.toList == [80, 79, 87, 69, 82]) = false := by rw [hs]; rfl
 have f21 : (s.toList == [82, 69, 80, 84]) = false := by rw [hs]; rfl
 have f22 : (s.toList == [82, 73, 71, 72, 84]) = false := by rw [hs]; rfl
 have f23 : (s.toList == [82, 79, 85, 78, 68]) = false := by rw [hs]; rfl
 have f24 : (s.toList == [82, 79, 85, 78, 68, 68, 79, 87, 78]) = false := by rw [hs]; rfl
 have f25 : (s.toList == [82, 79, 85, 78, 68, 69, 86, 69, 78]) = false := by rw [hs]; rfl
 have f26 : (s.toList == [82, 79, 85, 78, 68, 85, 80]) = false := by rw [hs]; rfl
 have f27 : (s.toList == [83, 77, 65, 76, 76]) = false := by rw [hs]; rfl
 have f28 : (s.toList == [83, 85, 77, 80, 82, 79, 68, 85, 67, 84]) = false := by rw [hs]; rfl
 have f29 : (s.toList == [84, 69, 88, 84]) = false := by rw [hs]; rfl
 have f30 : (s.toList == [73, 70]) = false := by rw [hs]; rfl
 have f31 : (s.toList == [82, 65, 78, 75]) = false := by rw [hs]; rfl
 have f32 : (s.toList == [67, 79, 85, 78, 84, 73, 70]) = false := by rw [hs]; rfl
 have f33 : (s.toList == [70, 85, 83, 69, 68]) = true := by rw [hs]; rfl
 clear hs
 go_enter Tryz.func175, Tryz.ntmps175
 go_wp2_with fail
 (try simp only [Exit.inBlock, Exit.then])
 refine bodyPost_ret (results_cell_row rfl _ _ w.heap.size _ _ _ _ rfl (heap_alloc_new _ _) Tryz.underlying196 rfl (by kernel_rfl)) rfl ?_
 exact ⟨rfl, (Gr.refl _).alloc _⟩
set_option maxRecDepth 100000 in
set_option maxHeartbeats 4000000 in
theorem takes_34 (s : ByteArray) (w : World) (hs : s.toList = [77, 73, 68]) :
    Calls Tryz.prog 175 #[.string s] w fun e w' => e = .returned (.agg #[.int .i64 3, .int .i64 3]) ∧ Gr w w' := by
 have f0 : (s.toList == [78, 65]) = false := by rw [hs]; rfl
 have f1 : (s.toList == [65, 66, 83]) = false := by rw [hs]; rfl
 have f2 : (s.toList == [73, 78, 84]) = false := by rw [hs]; rfl
 have f3 : (s.toList == [73, 83, 66, 76, 65, 78, 75]) = false := by rw [hs]; rfl
 have f4 : (s.toList == [73, 83, 69, 82, 82, 79, 82]) = false := by rw [hs]; rfl
 have f5 : (s.toList == [73, 83, 78, 85, 77, 66, 69, 82]) = false := by rw [hs]; rfl
 have f6 : (s.toList == [73, 83, 84, 69, 88, 84]) = false := by rw [hs]; rfl
 have f7 : (s.toList == [76, 69, 78]) = false := by rw [hs]; rfl
 have f8 : (s.toList == [78, 79, 84]) = false := by rw [hs]; rfl
 have f9 : (s.toList == [83, 73, 71, 78]) = false := by rw [hs]; rfl
 have f10 : (s.toList == [83, 73, 78, 71, 76, 69]) = false := by rw [hs]; rfl
 have f11 : (s.toList == [83, 81, 82, 84]) = false := by rw [hs]; rfl
 have f12 : (s.toList == [84, 82, 85, 78, 67]) = false := by rw [hs]; rfl
 have f13 : (s.toList == [86, 65, 76, 85, 69]) = false := by rw [hs]; rfl
 have f14 : (s.toList == [69, 88, 65, 67, 84]) = false := by rw [hs]; rfl
 have f15 : (s.toList == [73, 70, 69, 82, 82, 79, 82]) = false := by rw [hs]; rfl
 have f16 : (s.toList == [76, 65, 82, 71, 69]) = false := by rw [hs]; rfl
 have f17 : (s.toList == [76, 69, 70, 84]) = false := by rw [hs]; rfl
 have f18 : (s.toList == [77, 79, 68]) = false := by rw [hs]; rfl
 have f19 : (s.toList == [80, 69, 82, 67, 69, 78, 84, 73, 76, 69]) = false := by rw [hs]; rfl
 have f20 : (s.toList == [80, 79, 87, 69, 82]) = false := by rw [hs]; rfl
 have f21 : (s.toList == [82, 69, 80, 84]) = false := by rw [hs]; rfl
 have f22 : (s.toList == [82, 73, 71, 72, 84]) = false := by rw [hs]; rfl
 have f23 : (s.toList == [82, 79, 85, 78, 68]) = false := by rw [hs]; rfl
 have f24 : (s.toList == [82, 79, 85, 78, 68, 68, 79, 87, 78]) = false := by rw [hs]; rfl
 have f25 : (s.toList == [82, 79, 85, 78, 68, 69, 86, 69, 78]) = false := by rw [hs]; rfl
 have f26 : (s.toList == [82, 79, 85, 78, 68, 85, 80]) = false := by rw [hs]; rfl
 have f27 : (s.toList == [83, 77, 65, 76, 76]) = false := by rw [hs]; rfl
 have f28 : (s.toList == [83, 85, 77, 80, 82, 79, 68, 85, 67, 84]) = false := by rw [hs]; rfl
 have f29 : (s.toList == [84, 69, 88, 84]) = false := by rw [hs]; rfl
 have f30 : (s.toList == [73, 70]) = false := by rw [hs]; rfl
 have f31 : (s.toList == [82, 65, 78, 75]) = false := by rw [hs]; rfl
 have f32 : (s.toList == [67, 79, 85, 78, 84, 73, 70]) = false := by rw [hs]; rfl
 have f33 : (s.toList == [70, 85, 83, 69, 68]) = false := by rw [hs]; rfl
 have f34 : (s.toList == [77, 73, 68]) = true := by rw [hs]; rfl
 clear hs
 go_enter Tryz.func175, Tryz.ntmps175
 go_wp2_with fail
 (try simp only [Exit.inBlock, Exit.then])
 refine bodyPost_ret (results_cell_row rfl _ _ w.heap.size _ _ _ _ rfl (heap_alloc_new _ _) Tryz.underlying196 rfl (by kernel_rfl)) rfl ?_
 exact ⟨rfl, (Gr.refl _).alloc _⟩
set_option maxRecDepth 100000 in
set_option maxHeartbeats 4000000 in
theorem takes_35 (s : ByteArray) (w : World) (hs : s.toList = [65, 78, 68]) :
    Calls Tryz.prog 175 #[.string s] w fun e w' => e = .returned (.agg #[.int .i64 1, .int .i64 256]) ∧ Gr w w' := by
 have f0 : (s.toList == [78, 65]) = false := by rw [hs]; rfl
 have f1 : (s.toList == [65, 66, 83]) = false := by rw [hs]; rfl
 have f2 : (s.toList == [73, 78, 84]) = false := by rw [hs]; rfl
 have f3 : (s.toList == [73, 83, 66, 76, 65, 78, 75]) = false := by rw [hs]; rfl
 have f4 : (s.toList == [73, 83, 69, 82, 82, 79, 82]) = false := by rw [hs]; rfl
 have f5 : (s.toList == [73, 83, 78, 85, 77, 66, 69, 82]) = false := by rw [hs]; rfl
 have f6 : (s.toList == [73, 83, 84, 69, 88, 84]) = false := by rw [hs]; rfl
 have f7 : (s.toList == [76, 69, 78]) = false := by rw [hs]; rfl
 have f8 : (s.toList == [78, 79, 84]) = false := by rw [hs]; rfl
 have f9 : (s.toList == [83, 73, 71, 78]) = false := by rw [hs]; rfl
 have f10 : (s.toList == [83, 73, 78, 71, 76, 69]) = false := by rw [hs]; rfl
 have f11 : (s.toList == [83, 81, 82, 84]) = false := by rw [hs]; rfl
 have f12 : (s.toList == [84, 82, 85, 78, 67]) = false := by rw [hs]; rfl
 have f13 : (s.toList == [86, 65, 76, 85, 69]) = false := by rw [hs]; rfl
 have f14 : (s.toList == [69, 88, 65, 67, 84]) = false := by rw [hs]; rfl
 have f15 : (s.toList == [73, 70, 69, 82, 82, 79, 82]) = false := by rw [hs]; rfl
 have f16 : (s.toList == [76, 65, 82, 71, 69]) = false := by rw [hs]; rfl
 have f17 : (s.toList == [76, 69, 70, 84]) = false := by rw [hs]; rfl
 have f18 : (s.toList == [77, 79, 68]) = false := by rw [hs]; rfl
 have f19 : (s.toList == [80, 69, 82, 67, 69, 78, 84, 73, 76, 69]) = false := by rw [hs]; rfl
 have f20 : (s.toList == [80, 79, 87, 69, 82]) = false := by rw [hs]; rfl
 have f21 : (s.toList == [82, 69, 80, 84]) = false := by rw [hs]; rfl
 have f22 : (s.toList == [82, 73, 71, 72, 84]) = false := by rw [hs]; rfl
 have f23 : (s.toList == [82, 79, 85, 78, 68]) = false := by rw [hs]; rfl
 have f24 : (s.toList == [82, 79, 85, 78, 68, 68, 79, 87, 78]) = false := by rw [hs]; rfl
 have f25 : (s.toList == [82, 79, 85, 78, 68, 69, 86, 69, 78]) = false := by rw [hs]; rfl
 have f26 : (s.toList == [82, 79, 85, 78, 68, 85, 80]) = false := by rw [hs]; rfl
 have f27 : (s.toList == [83, 77, 65, 76, 76]) = false := by rw [hs]; rfl
 have f28 : (s.toList == [83, 85, 77, 80, 82, 79, 68, 85, 67, 84]) = false := by rw [hs]; rfl
 have f29 : (s.toList == [84, 69, 88, 84]) = false := by rw [hs]; rfl
 have f30 : (s.toList == [73, 70]) = false := by rw [hs]; rfl
 have f31 : (s.toList == [82, 65, 78, 75]) = false := by rw [hs]; rfl
 have f32 : (s.toList == [67, 79, 85, 78, 84, 73, 70]) = false := by rw [hs]; rfl
 have f33 : (s.toList == [70, 85, 83, 69, 68]) = false := by rw [hs]; rfl
 have f34 : (s.toList == [77, 73, 68]) = false := by rw [hs]; rfl
 have f35 : (s.toList == [65, 78, 68]) = true := by rw [hs]; rfl
 clear hs
 go_enter Tryz.func175, Tryz.ntmps175
 go_wp2_with fail
 (try simp only [Exit.inBlock, Exit.then])
 refine bodyPost_ret (results_cell_row rfl _ _ w.heap.size _ _ _ _ rfl (heap_alloc_new _ _) Tryz.underlying196 rfl (by kernel_rfl)) rfl ?_
 exact ⟨rfl, (Gr.refl _).alloc _⟩
set_option maxRecDepth 100000 in
set_option maxHeartbeats 4000000 in
theorem takes_36 (s : ByteArray) (w : World) (hs : s.toList = [65, 86, 69, 82, 65, 71, 69]) :
    Calls Tryz.prog 175 #[.string s] w fun e w' => e = .returned (.agg #[.int .i64 1, .int .i64 256]) ∧ Gr w w' := by
 have f0 : (s.toList == [78, 65]) = false := by rw [hs]; rfl
 have f1 : (s.toList == [65, 66, 83]) = false := by rw [hs]; rfl
 have f2 : (s.toList == [73, 78, 84]) = false := by rw [hs]; rfl
 have f3 : (s.toList == [73, 83, 66, 76, 65, 78, 75]) = false := by rw [hs]; rfl
 have f4 : (s.toList == [73, 83, 69, 82, 82, 79, 82]) = false := by rw [hs]; rfl
 have f5 : (s.toList == [73, 83, 78, 85, 77, 66, 69, 82]) = false := by rw [hs]; rfl
 have f6 : (s.toList == [73, 83, 84, 69, 88, 84]) = false := by rw [hs]; rfl
 have f7 : (s.toList == [76, 69, 78]) = false := by rw [hs]; rfl
 have f8 : (s.toList == [78, 79, 84]) = false := by rw [hs]; rfl
 have f9 : (s.toList == [83, 73, 71, 78]) = false := by rw [hs]; rfl
 have f10 : (s.toList == [83, 73, 78, 71, 76, 69]) = false := by rw [hs]; rfl
 have f11 : (s.toList == [83, 81, 82, 84]) = false := by rw [hs]; rfl
 have f12 : (s.toList == [84, 82, 85, 78, 67]) = false := by rw [hs]; rfl
 have f13 : (s.toList == [86, 65, 76, 85, 69]) = false := by rw [hs]; rfl
 have f14 : (s.toList == [69, 88, 65, 67, 84]) = false := by rw [hs]; rfl
 have f15 : (s.toList == [73, 70, 69, 82, 82, 79, 82]) = false := by rw [hs]; rfl
 have f16 : (s.toList == [76, 65, 82, 71, 69]) = false := by rw [hs]; rfl
 have f17 : (s.toList == [76, 69, 70, 84]) = false := by rw [hs]; rfl
 have f18 : (s.toList == [77, 79, 68]) = false := by rw [hs]; rfl
 have f19 : (s.toList == [80, 69, 82, 67, 69, 78, 84, 73, 76, 69]) = false := by rw [hs]; rfl
 have f20 : (s.toList == [80, 79, 87, 69, 82]) = false := by rw [hs]; rfl
 have f21 : (s.toList == [82, 69, 80, 84]) = false := by rw [hs]; rfl
 have f22 : (s.toList == [82, 73, 71, 72, 84]) = false := by rw [hs]; rfl
 have f23 : (s.toList == [82, 79, 85, 78, 68]) = false := by rw [hs]; rfl
 have f24 : (s.toList == [82, 79, 85, 78, 68, 68, 79, 87, 78]) = false := by rw [hs]; rfl
 have f25 : (s.toList == [82, 79, 85, 78, 68, 69, 86, 69, 78]) = false := by rw [hs]; rfl
 have f26 : (s.toList == [82, 79, 85, 78, 68, 85, 80]) = false := by rw [hs]; rfl
 have f27 : (s.toList == [83, 77, 65, 76, 76]) = false := by rw [hs]; rfl
 have f28 : (s.toList == [83, 85, 77, 80, 82, 79, 68, 85, 67, 84]) = false := by rw [hs]; rfl
 have f29 : (s.toList == [84, 69, 88, 84]) = false := by rw [hs]; rfl
 have f30 : (s.toList == [73, 70]) = false := by rw [hs]; rfl
 have f31 : (s.toList == [82, 65, 78, 75]) = false := by rw [hs]; rfl
 have f32 : (s.toList == [67, 79, 85, 78, 84, 73, 70]) = false := by rw [hs]; rfl
 have f33 : (s.toList == [70, 85, 83, 69, 68]) = false := by rw [hs]; rfl
 have f34 : (s.toList == [77, 73, 68]) = false := by rw [hs]; rfl
 have f35 : (s.toList == [65, 78, 68]) = false := by rw [hs]; rfl
 have f36 : (s.toList == [65, 86, 69, 82, 65, 71, 69]) = true := by rw [hs]; rfl
 clear hs
 go_enter Tryz.func175, Tryz.ntmps175
 go_wp2_with fail
 (try simp only [Exit.inBlock, Exit.then])
 refine bodyPost_ret (results_cell_row rfl _ _ w.heap.size _ _ _ _ rfl (heap_alloc_new _ _) Tryz.underlying196 rfl (by kernel_rfl)) rfl ?_
 exact ⟨rfl, (Gr.refl _).alloc _⟩
set_option maxRecDepth 100000 in
set_option maxHeartbeats 4000000 in
theorem takes_37 (s : ByteArray) (w : World) (hs : s.toList = [67, 79, 85, 78, 84]) :
    Calls Tryz.prog 175 #[.string s] w fun e w' => e = .returned (.agg #[.int .i64 1, .int .i64 256]) ∧ Gr w w' := by
 have f0 : (s.toList == [78, 65]) = false := by rw [hs]; rfl
 have f1 : (s.toList == [65, 66, 83]) = false := by rw [hs]; rfl
 have f2 : (s.toList == [73, 78, 84]) = false := by rw [hs]; rfl
 have f3 : (s.toList == [73, 83, 66, 76, 65, 78, 75]) = false := by rw [hs]; rfl
 have f4 : (s.toList == [73, 83, 69, 82, 82, 79, 82]) = false := by rw [hs]; rfl
 have f5 : (s.toList == [73, 83, 78, 85, 77, 66, 69, 82]) = false := by rw [hs]; rfl
 have f6 : (s.toList == [73, 83, 84, 69, 88, 84]) = false := by rw [hs]; rfl
 have f7 : (s.toList == [76, 69, 78]) = false := by rw [hs]; rfl
 have f8 : (s.toList == [78, 79, 84]) = false := by rw [hs]; rfl
 have f9 : (s.toList == [83, 73, 71, 78]) = false := by rw [hs]; rfl
 have f10 : (s.toList == [83, 73, 78, 71, 76, 69]) = false := by rw [hs]; rfl
 have f11 : (s.toList == [83, 81, 82, 84]) = false := by rw [hs]; rfl
 have f12 : (s.toList == [84, 82, 85, 78, 67]) = false := by rw [hs]; rfl
 have f13 : (s.toList == [86, 65, 76, 85, 69]) = false := by rw [hs]; rfl
 have f14 : (s.toList == [69, 88, 65, 67, 84]) = false := by rw [hs]; rfl
 have f15 : (s.toList == [73, 70, 69, 82, 82, 79, 82]) = false := by rw [hs]; rfl
 have f16 : (s.toList == [76, 65, 82, 71, 69]) = false := by rw [hs]; rfl
 have f17 : (s.toList == [76, 69, 70, 84]) = false := by rw [hs]; rfl
 have f18 : (s.toList == [77, 79, 68]) = false := by rw [hs]; rfl
 have f19 : (s.toList == [80, 69, 82, 67, 69, 78, 84, 73, 76, 69]) = false := by rw [hs]; rfl
 have f20 : (s.toList == [80, 79, 87, 69, 82]) = false := by rw [hs]; rfl
 have f21 : (s.toList == [82, 69, 80, 84]) = false := by rw [hs]; rfl
 have f22 : (s.toList == [82, 73, 71, 72, 84]) = false := by rw [hs]; rfl
 have f23 : (s.toList == [82, 79, 85, 78, 68]) = false := by rw [hs]; rfl
 have f24 : (s.toList == [82, 79, 85, 78, 68, 68, 79, 87, 78]) = false := by rw [hs]; rfl
 have f25 : (s.toList == [82, 79, 85, 78, 68, 69, 86, 69, 78]) = false := by rw [hs]; rfl
 have f26 : (s.toList == [82, 79, 85, 78, 68, 85, 80]) = false := by rw [hs]; rfl
 have f27 : (s.toList == [83, 77, 65, 76, 76]) = false := by rw [hs]; rfl
 have f28 : (s.toList == [83, 85, 77, 80, 82, 79, 68, 85, 67, 84]) = false := by rw [hs]; rfl
 have f29 : (s.toList == [84, 69, 88, 84]) = false := by rw [hs]; rfl
 have f30 : (s.toList == [73, 70]) = false := by rw [hs]; rfl
 have f31 : (s.toList == [82, 65, 78, 75]) = false := by rw [hs]; rfl
 have f32 : (s.toList == [67, 79, 85, 78, 84, 73, 70]) = false := by rw [hs]; rfl
 have f33 : (s.toList == [70, 85, 83, 69, 68]) = false := by rw [hs]; rfl
 have f34 : (s.toList == [77, 73, 68]) = false := by rw [hs]; rfl
 have f35 : (s.toList == [65, 78, 68]) = false := by rw [hs]; rfl
 have f36 : (s.toList == [65, 86, 69, 82, 65, 71, 69]) = false := by rw [hs]; rfl
 have f37 : (s.toList == [67, 79, 85, 78, 84]) = true := by rw [hs]; rfl
 clear hs
 go_enter Tryz.func175, Tryz.ntmps175
 go_wp2_with fail
 (try simp only [Exit.inBlock, Exit.then])
 refine bodyPost_ret (results_cell_row rfl _ _ w.heap.size _ _ _ _ rfl (heap_alloc_new _ _) Tryz.underlying196 rfl (by kernel_rfl)) rfl ?_
 exact ⟨rfl, (Gr.refl _).alloc _⟩
set_option maxRecDepth 100000 in
set_option maxHeartbeats 4000000 in
theorem takes_38 (s : ByteArray) (w : World) (hs : s.toList = [67, 79, 85, 78, 84, 65]) :
    Calls Tryz.prog 175 #[.string s] w fun e w' => e = .returned (.agg #[.int .i64 1, .int .i64 256]) ∧ Gr w w' := by
 have f0 : (s.toList == [78, 65]) = false := by rw [hs]; rfl
 have f1 : (s.toList == [65, 66, 83]) = false := by rw [hs]; rfl
 have f2 : (s.toList == [73, 78, 84]) = false := by rw [hs]; rfl
 have f3 : (s.toList == [73, 83, 66, 76, 65, 78, 75]) = false := by rw [hs]; rfl
 have f4 : (s.toList == [73, 83, 69, 82, 82, 79, 82]) = false := by rw [hs]; rfl
 have f5 : (s.toList == [73, 83, 78, 85, 77, 66, 69, 82]) = false := by rw [hs]; rfl
 have f6 : (s.toList == [73, 83, 84, 69, 88, 84]) = false := by rw [hs]; rfl
 have f7 : (s.toList == [76, 69, 78]) = false := by rw [hs]; rfl
 have f8 : (s.toList == [78, 79, 84]) = false := by rw [hs]; rfl
 have f9 : (s.toList == [83, 73, 71, 78]) = false := by rw [hs]; rfl
 have f10 : (s.toList == [83, 73, 78, 71, 76, 69]) = false := by rw [hs]; rfl
 have f11 : (s.toList == [83, 81, 82, 84]) = false := by rw [hs]; rfl
 have f12 : (s.toList == [84, 82, 85, 78, 67]) = false := by rw [hs]; rfl
 have f13 : (s.toList == [86, 65, 76, 85, 69]) = false := by rw [hs]; rfl
 have f14 : (s.toList == [69, 88, 65, 67, 84]) = false := by rw [hs]; rfl
 have f15 : (s.toList == [73, 70, 69, 82, 82, 79, 82]) = false := by rw [hs]; rfl
 have f16 : (s.toList == [76, 65, 82, 71, 69]) = false := by rw [hs]; rfl
 have f17 : (s.toList == [76, 69, 70, 84]) = false := by rw [hs]; rfl
 have f18 : (s.toList == [77, 79, 68]) = false := by rw [hs]; rfl
 have f19 : (s.toList == [80, 69, 82, 67, 69, 78, 84, 73, 76, 69]) = false := by rw [hs]; rfl
 have f20 : (s.toList == [80, 79, 87, 69, 82]) = false := by rw [hs]; rfl
 have f21 : (s.toList == [82, 69, 80, 84]) = false := by rw [hs]; rfl
 have f22 : (s.toList == [82, 73, 71, 72, 84]) = false := by rw [hs]; rfl
 have f23 : (s.toList == [82, 79, 85, 78, 68]) = false := by rw [hs]; rfl
 have f24 : (s.toList == [82, 79, 85, 78, 68, 68, 79, 87, 78]) = false := by rw [hs]; rfl
 have f25 : (s.toList == [82, 79, 85, 78, 68, 69, 86, 69, 78]) = false := by rw [hs]; rfl
 have f26 : (s.toList == [82, 79, 85, 78, 68, 85, 80]) = false := by rw [hs]; rfl
 have f27 : (s.toList == [83, 77, 65, 76, 76]) = false := by rw [hs]; rfl
 have f28 : (s.toList == [83, 85, 77, 80, 82, 79, 68, 85, 67, 84]) = false := by rw [hs]; rfl
 have f29 : (s.toList == [84, 69, 88, 84]) = false := by rw [hs]; rfl
 have f30 : (s.toList == [73, 70]) = false := by rw [hs]; rfl
 have f31 : (s.toList == [82, 65, 78, 75]) = false := by rw [hs]; rfl
 have f32 : (s.toList == [67, 79, 85, 78, 84, 73, 70]) = false := by rw [hs]; rfl
 have f33 : (s.toList == [70, 85, 83, 69, 68]) = false := by rw [hs]; rfl
 have f34 : (s.toList == [77, 73, 68]) = false := by rw [hs]; rfl
 have f35 : (s.toList == [65, 78, 68]) = false := by rw [hs]; rfl
 have f36 : (s.toList == [65, 86, 69, 82, 65, 71, 69]) = false := by rw [hs]; rfl
 have f37 : (s.toList == [67, 79, 85, 78, 84]) = false := by rw [hs]; rfl
 have f38 : (s.toList == [67, 79, 85, 78, 84, 65]) = true := by rw [hs]; rfl
 clear hs
 go_enter Tryz.func175, Tryz.ntmps175
 go_wp2_with fail
 (try simp only [Exit.inBlock, Exit.then])
 refine bodyPost_ret (results_cell_row rfl _ _ w.heap.size _ _ _ _ rfl (heap_alloc_new _ _) Tryz.underlying196 rfl (by kernel_rfl)) rfl ?_
 exact ⟨rfl, (Gr.refl _).alloc _⟩
set_option maxRecDepth 100000 in
set_option maxHeartbeats 4000000 in
theorem takes_39 (s : ByteArray) (w : World) (hs : s.toList = [74, 79, 73, 78]) :
    Calls Tryz.prog 175 #[.string s] w fun e w' => e = .returned (.agg #[.int .i64 1, .int .i64 256]) ∧ Gr w w' := by
 have f0 : (s.toList == [78, 65]) = false := by rw [hs]; rfl
 have f1 : (s.toList == [65, 66, 83]) = false := by rw [hs]; rfl
 have f2 : (s.toList == [73, 78, 84]) = false := by rw [hs]; rfl
 have f3 : (s.toList == [73, 83, 66, 76, 65, 78, 75]) = false := by rw [hs]; rfl
 have f4 : (s.toList == [73, 83, 69, 82, 82, 79, 82]) = false := by rw [hs]; rfl
 have f5 : (s.toList == [73, 83, 78, 85, 77, 66, 69, 82]) = false := by rw [hs]; rfl
 have f6 : (s.toList == [73, 83, 84, 69, 88, 84]) = false := by rw [hs]; rfl
 have f7 : (s.toList == [76, 69, 78]) = false := by rw [hs]; rfl
 have f8 : (s.toList == [78, 79, 84]) = false := by rw [hs]; rfl
 have f9 : (s.toList == [83, 73, 71, 78]) = false := by rw [hs]; rfl
 have f10 : (s.toList == [83, 73, 78, 71, 76, 69]) = false := by rw [hs]; rfl
 have f11 : (s.toList == [83, 81, 82, 84]) = false := by rw [hs]; rfl
 have f12 : (s.toList == [84, 82, 85, 78, 67]) = false := by rw [hs]; rfl
 have f13 : (s.toList == [86, 65, 76, 85, 69]) = false := by rw [hs]; rfl
 have f14 : (s.toList == [69, 88, 65, 67, 84]) = false := by rw [hs]; rfl
 have f15 : (s.toList == [73, 70, 69, 82, 82, 79, 82]) = false := by rw [hs]; rfl
 have f16 : (s.toList == [76, 65, 82, 71, 69]) = false := by rw [hs]; rfl
 have f17 : (s.toList == [76, 69, 70, 84]) = false := by rw [hs]; rfl
 have f18 : (s.toList == [77, 79, 68]) = false := by rw [hs]; rfl
 have f19 : (s.toList == [80, 69, 82, 67, 69, 78, 84, 73, 76, 69]) = false := by rw [hs]; rfl
 have f20 : (s.toList == [80, 79, 87, 69, 82]) = false := by rw [hs]; rfl
 have f21 : (s.toList == [82, 69, 80, 84]) = false := by rw [hs]; rfl
 have f22 : (s.toList == [82, 73, 71, 72, 84]) = false := by rw [hs]; rfl
 have f23 : (s.toList == [82, 79, 85, 78, 68]) = false := by rw [hs]; rfl
 have f24 : (s.toList == [82, 79, 85, 78, 68, 68, 79, 87, 78]) = false := by rw [hs]; rfl
 have f25 : (s.toList == [82, 79, 85, 78, 68, 69, 86, 69, 78]) = false := by rw [hs]; rfl
 have f26 : (s.toList == [82, 79, 85, 78, 68, 85, 80]) = false := by rw [hs]; rfl
 have f27 : (s.toList == [83, 77, 65, 76, 76]) = false := by rw [hs]; rfl
 have f28 : (s.toList == [83, 85, 77, 80, 82, 79, 68, 85, 67, 84]) = false := by rw [hs]; rfl
 have f29 : (s.toList == [84, 69, 88, 84]) = false := by rw [hs]; rfl
 have f30 : (s.toList == [73, 70]) = false := by rw [hs]; rfl
 have f31 : (s.toList == [82, 65, 78, 75]) = false := by rw [hs]; rfl
 have f32 : (s.toList == [67, 79, 85, 78, 84, 73, 70]) = false := by rw [hs]; rfl
 have f33 : (s.toList == [70, 85, 83, 69, 68]) = false := by rw [hs]; rfl
 have f34 : (s.toList == [77, 73, 68]) = false := by rw [hs]; rfl
 have f35 : (s.toList == [65, 78, 68]) = false := by rw [hs]; rfl
 have f36 : (s.toList == [65, 86, 69, 82, 65, 71, 69]) = false := by rw [hs]; rfl
 have f37 : (s.toList == [67, 79, 85, 78, 84]) = false := by rw [hs]; rfl
 have f38 : (s.toList == [67, 79, 85, 78, 84, 65]) = false := by rw [hs]; rfl
 have f39 : (s.toList == [74, 79, 73, 78]) = true := by rw [hs]; rfl
 clear hs
 go_enter Tryz.func175, Tryz.ntmps175
 go_wp2_with fail
 (try simp only [Exit.inBlock, Exit.then])
 refine bodyPost_ret (results_cell_row rfl _ _ w.heap.size _ _ _ _ rfl (heap_alloc_new _ _) Tryz.underlying196 rfl (by kernel_rfl)) rfl ?_
 exact ⟨rfl, (Gr.refl _).alloc _⟩
set_option maxRecDepth 100000 in
set_option maxHeartbeats 4000000 in
theorem takes_40 (s : ByteArray) (w : World) (hs : s.toList = [77, 65, 88]) :
    Calls Tryz.prog 175 #[.string s] w fun e w' => e = .returned (.agg #[.int .i64 1, .int .i64 256]) ∧ Gr w w' := by
 have f0 : (s.toList == [78, 65]) = false := by rw [hs]; rfl
 have f1 : (s.toList == [65, 66, 83]) = false := by rw [hs]; rfl
 have f2 : (s.toList == [73, 78, 84]) = false := by rw [hs]; rfl
 have f3 : (s.toList == [73, 83, 66, 76, 65, 78, 75]) = false := by rw [hs]; rfl
 have f4 : (s.toList == [73, 83, 69, 82, 82, 79, 82]) = false := by rw [hs]; rfl
 have f5 : (s.toList == [73, 83, 78, 85, 77, 66, 69, 82]) = false := by rw [hs]; rfl
 have f6 : (s.toList == [73, 83, 84, 69, 88, 84]) = false := by rw [hs]; rfl
 have f7 : (s.toList == [76, 69, 78]) = false := by rw [hs]; rfl
 have f8 : (s.toList == [78, 79, 84]) = false := by rw [hs]; rfl
 have f9 : (s.toList == [83, 73, 71, 78]) = false := by rw [hs]; rfl
 have f10 : (s.toList == [83, 73, 78, 71, 76, 69]) = false := by rw [hs]; rfl
 have f11 : (s.toList == [83, 81, 82, 84]) = false := by rw [hs]; rfl
 have f12 : (s.toList == [84, 82, 85, 78, 67]) = false := by rw [hs]; rfl
 have f13 : (s.toList == [86, 65, 76, 85, 69]) = false := by rw [hs]; rfl
 have f14 : (s.toList == [69, 88, 65, 67, 84]) = false := by rw [hs]; rfl
 have f15 : (s.toList == [73, 70, 69, 82, 82, 79, 82]) = false := by rw [hs]; rfl
 have f16 : (s.toList == [76, 65, 82, 71, 69]) = false := by rw [hs]; rfl
 have f17 : (s.toList == [76, 69, 70, 84]) = false := by rw [hs]; rfl
 have f18 : (s.toList == [77, 79, 68]) = false := by rw [hs]; rfl
 have f19 : (s.toList == [80, 69, 82, 67, 69, 78, 84, 73, 76, 69]) = false := by rw [hs]; rfl
 have f20 : (s.toList == [80, 79, 87, 69, 82]) = false := by rw [hs]; rfl
 have f21 : (s.toList == [82, 69, 80, 84]) = false := by rw [hs]; rfl
 have f22 : (s.toList == [82, 73, 71, 72, 84]) = false := by rw [hs]; rfl
 have f23 : (s.toList == [82, 79, 85, 78, 68]) = false := by rw [hs]; rfl
 have f24 : (s.toList == [82, 79, 85, 78, 68, 68, 79, 87, 78]) = false := by rw [hs]; rfl
 have f25 : (s.toList == [82, 79, 85, 78, 68, 69, 86, 69, 78]) = false := by rw [hs]; rfl
 have f26 : (s.toList == [82, 79, 85, 78, 68, 85, 80]) = false := by rw [hs]; rfl
 have f27 : (s.toList == [83, 77, 65, 76, 76]) = false := by rw [hs]; rfl
 have f28 : (s.toList == [83, 85, 77, 80, 82, 79, 68, 85, 67, 84]) = false := by rw [hs]; rfl
 have f29 : (s.toList == [84, 69, 88, 84]) = false := by rw [hs]; rfl
 have f30 : (s.toList == [73, 70]) = false := by rw [hs]; rfl
 have f31 : (s.toList == [82, 65, 78, 75]) = false := by rw [hs]; rfl
 have f32 : (s.toList == [67, 79, 85, 78, 84, 73, 70]) = false := by rw [hs]; rfl
 have f33 : (s.toList == [70, 85, 83, 69, 68]) = false := by rw [hs]; rfl
 have f34 : (s.toList == [77, 73, 68]) = false := by rw [hs]; rfl
 have f35 : (s.toList == [65, 78, 68]) = false := by rw [hs]; rfl
 have f36 : (s.toList == [65, 86, 69, 82, 65, 71, 69]) = false := by rw [hs]; rfl
 have f37 : (s.toList == [67, 79, 85, 78, 84]) = false := by rw [hs]; rfl
 have f38 : (s.toList == [67, 79, 85, 78, 84, 65]) = false := by rw [hs]; rfl
 have f39 : (s.toList == [74, 79, 73, 78]) = false := by rw [hs]; rfl
 have f40 : (s.toList == [77, 65, 88]) = true := by rw [hs]; rfl
 clear hs
 go_enter Tryz.func175, Tryz.ntmps175
 go_wp2_with fail
 (try simp only [Exit.inBlock, Exit.then])
 refine bodyPost_ret (results_cell_row rfl _ _ w.heap.size _ _ _ _ rfl (heap_alloc_new _ _) Tryz.underlying196 rfl (by kernel_rfl)) rfl ?_
 exact ⟨rfl, (Gr.refl _).alloc _⟩
set_option maxRecDepth 100000 in
set_option maxHeartbeats 4000000 in
theorem takes_41 (s : ByteArray) (w : World) (hs : s.toList = [77, 69, 68, 73, 65, 78]) :
    Calls Tryz.prog 175 #[.string s] w fun e w' => e = .returned (.agg #[.int .i64 1, .int .i64 256]) ∧ Gr w w' := by
 have f0 : (s.toList == [78, 65]) = false := by rw [hs]; rfl
 have f1 : (s.toList == [65, 66, 83]) = false := by rw [hs]; rfl
 have f2 : (s.toList == [73, 78, 84]) = false := by rw [hs]; rfl
 have f3 : (s.toList == [73, 83, 66, 76, 65, 78, 75]) = false := by rw [hs]; rfl
 have f4 : (s.toList == [73, 83, 69, 82, 82, 79, 82]) = false := by rw [hs]; rfl
 have f5 : (s.toList == [73, 83, 78, 85, 77, 66, 69, 82]) = false := by rw [hs]; rfl
 have f6 : (s.toList == [73, 83, 84, 69, 88, 84]) = false := by rw [hs]; rfl
 have f7 : (s.toList == [76, 69, 78]) = false := by rw [hs]; rfl
 have f8 : (s.toList == [78, 79, 84]) = false := by rw [hs]; rfl
 have f9 : (s.toList == [83, 73, 71, 78]) = false := by rw [hs]; rfl
 have f10 : (s.toList == [83, 73, 78, 71, 76, 69]) = false := by rw [hs]; rfl
 have f11 : (s.toList == [83, 81, 82, 84]) = false := by rw [hs]; rfl
 have f12 : (s.toList == [84, 82, 85, 78, 67]) = false := by rw [hs]; rfl
 have f13 : (s.toList == [86, 65, 76, 85, 69]) = false := by rw [hs]; rfl
 have f14 : (s.toList == [69, 88, 65, 67, 84]) = false := by rw [hs]; rfl
 have f15 : (s.toList == [73, 70, 69, 82, 82, 79, 82]) = false := by rw [hs]; rfl
 have f16 : (s.toList == [76, 65, 82, 71, 69]) = false := by rw [hs]; rfl
 have f17 : (s.toList == [76, 69, 70, 84]) = false := by rw [hs]; rfl
 have f18 : (s.toList == [77, 79, 68]) = false := by rw [hs]; rfl
 have f19 : (s.toList == [80, 69, 82, 67, 69, 78, 84, 73, 76, 69]) = false := by rw [hs]; rfl
 have f20 : (s.toList == [80, 79, 87, 69, 82]) = false := by rw [hs]; rfl
 have f21 : (s.toList == [82, 69, 80, 84]) = false := by rw [hs]; rfl
 have f22 : (s.toList == [82, 73, 71, 72, 84]) = false := by rw [hs]; rfl
 have f23 : (s.toList == [82, 79, 85, 78, 68]) = false := by rw [hs]; rfl
 have f24 : (s.toList == [82, 79, 85, 78, 68, 68, 79, 87, 78]) = false := by rw [hs]; rfl
 have f25 : (s.toList == [82, 79, 85, 78, 68, 69, 86, 69, 78]) = false := by rw [hs]; rfl
 have f26 : (s.toList == [82, 79, 85, 78, 68, 85, 80]) = false := by rw [hs]; rfl
 have f27 : (s.toList == [83, 77, 65, 76, 76]) = false := by rw [hs]; rfl
 have f28 : (s.toList == [83, 85, 77, 80, 82, 79, 68, 85, 67, 84]) = false := by rw [hs]; rfl
 have f29 : (s.toList == [84, 69, 88, 84]) = false := by rw [hs]; rfl
 have f30 : (s.toList == [73, 70]) = false := by rw [hs]; rfl
 have f31 : (s.toList == [82, 65, 78, 75]) = false := by rw [hs]; rfl
 have f32 : (s.toList == [67, 79, 85, 78, 84, 73, 70]) = false := by rw [hs]; rfl
 have f33 : (s.toList == [70, 85, 83, 69, 68]) = false := by rw [hs]; rfl
 have f34 : (s.toList == [77, 73, 68]) = false := by rw [hs]; rfl
 have f35 : (s.toList == [65, 78, 68]) = false := by rw [hs]; rfl
 have f36 : (s.toList == [65, 86, 69, 82, 65, 71, 69]) = false := by rw [hs]; rfl
 have f37 : (s.toList == [67, 79, 85, 78, 84]) = false := by rw [hs]; rfl
 have f38 : (s.toList == [67, 79, 85, 78, 84, 65]) = false := by rw [hs]; rfl
 have f39 : (s.toList == [74, 79, 73, 78]) = false := by rw [hs]; rfl
 have f40 : (s.toList == [77, 65, 88]) = false := by rw [hs]; rfl
 have f41 : (s.toList == [77, 69, 68, 73, 65, 78]) = true := by rw [hs]; rfl
 clear hs
 go_enter Tryz.func175, Tryz.ntmps175
 go_wp2_with fail
 (try simp only [Exit.inBlock, Exit.then])
 refine bodyPost_ret (results_cell_row rfl _ _ w.heap.size _ _ _ _ rfl (heap_alloc_new _ _) Tryz.underlying196 rfl (by kernel_rfl)) rfl ?_
 exact ⟨rfl, (Gr.refl _).alloc _⟩
set_option maxRecDepth 100000 in
set_option maxHeartbeats 4000000 in
theorem takes_42 (s : ByteArray) (w : World) (hs : s.toList = [77, 73, 78]) :
    Calls Tryz.prog 175 #[.string s] w fun e w' => e = .returned (.agg #[.int .i64 1, .int .i64 256]) ∧ Gr w w' := by
 have f0 : (s.toList == [78, 65]) = false := by rw [hs]; rfl
 have f1 : (s.toList == [65, 66, 83]) = false := by rw [hs]; rfl
 have f2 : (s.toList == [73, 78, 84]) = false := by rw [hs]; rfl
 have f3 : (s.toList == [73, 83, 66, 76, 65, 78, 75]) = false := by rw [hs]; rfl
 have f4 : (s.toList == [73, 83, 69, 82, 82, 79, 82]) = false := by rw [hs]; rfl
 have f5 : (s.toList == [73, 83, 78, 85, 77, 66, 69, 82]) = false := by rw [hs]; rfl
 have f6 : (s.toList == [73, 83, 84, 69, 88, 84]) = false := by rw [hs]; rfl
 have f7 : (s.toList == [76, 69, 78]) = false := by rw [hs]; rfl
 have f8 : (s.toList == [78, 79, 84]) = false := by rw [hs]; rfl
 have f9 : (s.toList == [83, 73, 71, 78]) = false := by rw [hs]; rfl
 have f10 : (s.toList == [83, 73, 78, 71, 76, 69]) = false := by rw [hs]; rfl
 have f11 : (s.toList == [83, 81, 82, 84]) = false := by rw [hs]; rfl
 have f12 : (s.toList == [84, 82, 85, 78, 67]) = false := by rw [hs]; rfl
 have f13 : (s.toList == [86, 65, 76, 85, 69]) = false := by rw [hs]; rfl
 have f14 : (s.toList == [69, 88, 65, 67, 84]) = false := by rw [hs]; rfl
 have f15 : (s.toList == [73, 70, 69, 82, 82, 79, 82]) = false := by rw [hs]; rfl
 have f16 : (s.toList == [76, 65, 82, 71, 69]) = false := by rw [hs]; rfl
 have f17 : (s.toList == [76, 69, 70, 84]) = false := by rw [hs]; rfl
 have f18 : (s.toList == [77, 79, 68]) = false := by rw [hs]; rfl
 have f19 : (s.toList == [80, 69, 82, 67, 69, 78, 84, 73, 76, 69]) = false := by rw [hs]; rfl
 have f20 : (s.toList == [80, 79, 87, 69, 82]) = false := by rw [hs]; rfl
 have f21 : (s.toList == [82, 69, 80, 84]) = false := by rw [hs]; rfl
 have f22 : (s.toList == [82, 73, 71, 72, 84]) = false := by rw [hs]; rfl
 have f23 : (s.toList == [82, 79, 85, 78, 68]) = false := by rw [hs]; rfl
 have f24 : (s.toList == [82, 79, 85, 78, 68, 68, 79, 87, 78]) = false := by rw [hs]; rfl
 have f25 : (s.toList == [82, 79, 85, 78, 68, 69, 86, 69, 78]) = false := by rw [hs]; rfl
 have f26 : (s.toList == [82, 79, 85, 78, 68, 85, 80]) = false := by rw [hs]; rfl
 have f27 : (s.toList == [83, 77, 65, 76, 76]) = false := by rw [hs]; rfl
 have f28 : (s.toList == [83, 85, 77, 80, 82, 79, 68, 85, 67, 84]) = false := by rw [hs]; rfl
 have f29 : (s.toList == [84, 69, 88, 84]) = false := by rw [hs]; rfl
 have f30 : (s.toList == [73, 70]) = false := by rw [hs]; rfl
 have f31 : (s.toList == [82, 65, 78, 75]) = false := by rw [hs]; rfl
 have f32 : (s.toList == [67, 79, 85, 78, 84, 73, 70]) = false := by rw [hs]; rfl
 have f33 : (s.toList == [70, 85, 83, 69, 68]) = false := by rw [hs]; rfl
 have f34 : (s.toList == [77, 73, 68]) = false := by rw [hs]; rfl
 have f35 : (s.toList == [65, 78, 68]) = false := by rw [hs]; rfl
 have f36 : (s.toList == [65, 86, 69, 82, 65, 71, 69]) = false := by rw [hs]; rfl
 have f37 : (s.toList == [67, 79, 85, 78, 84]) = false := by rw [hs]; rfl
 have f38 : (s.toList == [67, 79, 85, 78, 84, 65]) = false := by rw [hs]; rfl
 have f39 : (s.toList == [74, 79, 73, 78]) = false := by rw [hs]; rfl
 have f40 : (s.toList == [77, 65, 88]) = false := by rw [hs]; rfl
 have f41 : (s.toList == [77, 69, 68, 73, 65, 78]) = false := by rw [hs]; rfl
 have f42 : (s.toList == [77, 73, 78]) = true := by rw [hs]; rfl
 clear hs
 go_enter Tryz.func175, Tryz.ntmps175
 go_wp2_with fail
 (try simp only [Exit.inBlock, Exit.then])
 refine bodyPost_ret (results_cell_row rfl _ _ w.heap.size _ _ _ _ rfl (heap_alloc_new _ _) Tryz.underlying196 rfl (by kernel_rfl)) rfl ?_
 exact ⟨rfl, (Gr.refl _).alloc _⟩
set_option maxRecDepth 100000 in
set_option maxHeartbeats 4000000 in
theorem takes_43 (s : ByteArray) (w : World) (hs : s.toList = [77, 79, 68, 69]) :
    Calls Tryz.prog 175 #[.string s] w fun e w' => e = .returned (.agg #[.int .i64 1, .int .i64 256]) ∧ Gr w w' := by
 have f0 : (s.toList == [78, 65]) = false := by rw [hs]; rfl
 have f1 : (s.toList == [65, 66, 83]) = false := by rw [hs]; rfl
 have f2 : (s.toList == [73, 78, 84]) = false := by rw [hs]; rfl
 have f3 : (s.toList == [73, 83, 66, 76, 65, 78, 75]) = false := by rw [hs]; rfl
 have f4 : (s.toList == [73, 83, 69, 82, 82, 79, 82]) = false := by rw [hs]; rfl
 have f5 : (s.toList == [73, 83, 78, 85, 77, 66, 69, 82]) = false := by rw [hs]; rfl
 have f6 : (s.toList == [73, 83, 84, 69, 88, 84]) = false := by rw [hs]; rfl
 have f7 : (s.toList == [76, 69, 78]) = false := by rw [hs]; rfl
 have f8 : (s.toList == [78, 79, 84]) = false := by rw [hs]; rfl
 have f9 : (s.toList == [83, 73, 71, 78]) = false := by rw [hs]; rfl
 have f10 : (s.toList == [83, 73, 78, 71, 76, 69]) = false := by rw [hs]; rfl
 have f11 : (s.toList == [83, 81, 82, 84]) = false := by rw [hs]; rfl
 have f12 : (s.toList == [84, 82, 85, 78, 67]) = false := by rw [hs]; rfl
 have f13 : (s.toList == [86, 65, 76, 85, 69]) = false := by rw [hs]; rfl
 have f14 : (s.toList == [69, 88, 65, 67, 84]) = false := by rw [hs]; rfl
 have f15 : (s.toList == [73, 70, 69, 82, 82, 79, 82]) = false := by rw [hs]; rfl
 have f16 : (s.toList == [76, 65, 82, 71, 69]) = false := by rw [hs]; rfl
 have f17 : (s.toList == [76, 69, 70, 84]) = false := by rw [hs]; rfl
 have f18 : (s.toList == [77, 79, 68]) = false := by rw [hs]; rfl
 have f19 : (s.toList == [80, 69, 82, 67, 69, 78, 84, 73, 76, 69]) = false := by rw [hs]; rfl
 have f20 : (s.toList == [80, 79, 87, 69, 82]) = false := by rw [hs]; rfl
 have f21 : (s.toList == [82, 69, 80, 84]) = false := by rw [hs]; rfl
 have f22 : (s.toList == [82, 73, 71, 72, 84]) = false := by rw [hs]; rfl
 have f23 : (s.toList == [82, 79, 85, 78, 68]) = false := by rw [hs]; rfl
 have f24 : (s.toList == [82, 79, 85, 78, 68, 68, 79, 87, 78]) = false := by rw [hs]; rfl
 have f25 : (s.toList == [82, 79, 85, 78, 68, 69, 86, 69, 78]) = false := by rw [hs]; rfl
 have f26 : (s.toList == [82, 79, 85, 78, 68, 85, 80]) = false := by rw [hs]; rfl
 have f27 : (s.toList == [83, 77, 65, 76, 76]) = false := by rw [hs]; rfl
 have f28 : (s.toList == [83, 85, 77, 80, 82, 79, 68, 85, 67, 84]) = false := by rw [hs]; rfl
 have f29 : (s.toList == [84, 69, 88, 84]) = false := by rw [hs]; rfl
 have f30 : (s.toList == [73, 70]) = false := by rw [hs]; rfl
 have f31 : (s.toList == [82, 65, 78, 75]) = false := by rw [hs]; rfl
 have f32 : (s.toList == [67, 79, 85, 78, 84, 73, 70]) = false := by rw [hs]; rfl
 have f33 : (s.toList == [70, 85, 83, 69, 68]) = false := by rw [hs]; rfl
 have f34 : (s.toList == [77, 73, 68]) = false := by rw [hs]; rfl
 have f35 : (s.toList == [65, 78, 68]) = false := by rw [hs]; rfl
 have f36 : (s.toList == [65, 86, 69, 82, 65, 71, 69]) = false := by rw [hs]; rfl
 have f37 : (s.toList == [67, 79, 85, 78, 84]) = false := by rw [hs]; rfl
 have f38 : (s.toList == [67, 79, 85, 78, 84, 65]) = false := by rw [hs]; rfl
 have f39 : (s.toList == [74, 79, 73, 78]) = false := by rw [hs]; rfl
 have f40 : (s.toList == [77, 65, 88]) = false := by rw [hs]; rfl
 have f41 : (s.toList == [77, 69, 68, 73, 65, 78]) = false := by rw [hs]; rfl
 have f42 : (s.toList == [77, 73, 78]) = false := by rw [hs]; rfl
 have f43 : (s.toList == [77, 79, 68, 69]) = true := by rw [hs]; rfl
 clear hs
 go_enter Tryz.func175, Tryz.ntmps175
 go_wp2_with fail
 (try simp only [Exit.inBlock, Exit.then])
 refine bodyPost_ret (results_cell_row rfl _ _ w.heap.size _ _ _ _ rfl (heap_alloc_new _ _) Tryz.underlying196 rfl (by kernel_rfl)) rfl ?_
 exact ⟨rfl, (Gr.refl _).alloc _⟩
set_option maxRecDepth 100000 in
set_option maxHeartbeats 4000000 in
theorem takes_44 (s : ByteArray) (w : World) (hs : s.toList = [79, 82]) :
    Calls Tryz.prog 175 #[.string s] w fun e w' => e = .returned (.agg #[.int .i64 1, .int .i64 256]) ∧ Gr w w' := by
 have f0 : (s.toList == [78, 65]) = false := by rw [hs]; rfl
 have f1 : (s.toList == [65, 66, 83]) = false := by rw [hs]; rfl
 have f2 : (s.toList == [73, 78, 84]) = false := by rw [hs]; rfl
 have f3 : (s.toList == [73, 83, 66, 76, 65, 78, 75]) = false := by rw [hs]; rfl
 have f4 : (s.toList == [73, 83, 69, 82, 82, 79, 82]) = false := by rw [hs]; rfl
 have f5 : (s.toList == [73, 83, 78, 85, 77, 66, 69, 82]) = false := by rw [hs]; rfl
 have f6 : (s.toList == [73, 83, 84, 69, 88, 84]) = false := by rw [hs]; rfl
 have f7 : (s.toList == [76, 69, 78]) = false := by rw [hs]; rfl
 have f8 : (s.toList == [78, 79, 84]) = false := by rw [hs]; rfl
 have f9 : (s.toList == [83, 73, 71, 78]) = false := by rw [hs]; rfl
 have f10 : (s.toList == [83, 73, 78, 71, 76, 69]) = false := by rw [hs]; rfl
 have f11 : (s.toList == [83, 81, 82, 84]) = false := by rw [hs]; rfl
 have f12 : (s.toList == [84, 82, 85, 78, 67]) = false := by rw [hs]; rfl
 have f13 : (s.toList == [86, 65, 76, 85, 69]) = false := by rw [hs]; rfl
 have f14 : (s.toList == [69, 88, 65, 67, 84]) = false := by rw [hs]; rfl
 have f15 : (s.toList == [73, 70, 69, 82, 82, 79, 82]) = false := by rw [hs]; rfl
 have f16 : (s.toList == [76, 65, 82, 71, 69]) = false := by rw [hs]; rfl
 have f17 : (s.toList == [76, 69, 70, 84]) = false := by rw [hs]; rfl
 have f18 : (s.toList == [77, 79, 68]) = false := by rw [hs]; rfl
 have f19 : (s.toList == [80, 69, 82, 67, 69, 78, 84, 73, 76, 69]) = false := by rw [hs]; rfl
 have f20 : (s.toList == [80, 79, 87, 69, 82]) = false := by rw [hs]; rfl
 have f21 : (s.toList == [82, 69, 80, 84]) = false := by rw [hs]; rfl
 have f22 : (s.toList == [82, 73, 71, 72, 84]) = false := by rw [hs]; rfl
 have f23 : (s.toList == [82, 79, 85, 78, 68]) = false := by rw [hs]; rfl
 have f24 : (s.toList == [82, 79, 85, 78, 68, 68, 79, 87, 78]) = false := by rw [hs]; rfl
 have f25 : (s.toList == [82, 79, 85, 78, 68, 69, 86, 69, 78]) = false := by rw [hs]; rfl
 have f26 : (s.toList == [82, 79, 85, 78, 68, 85, 80]) = false := by rw [hs]; rfl
 have f27 : (s.toList == [83, 77, 65, 76, 76]) = false := by rw [hs]; rfl
 have f28 : (s.toList == [83, 85, 77, 80, 82, 79, 68, 85, 67, 84]) = false := by rw [hs]; rfl
 have f29 : (s.toList == [84, 69, 88, 84]) = false := by rw [hs]; rfl
 have f30 : (s.toList == [73, 70]) = false := by rw [hs]; rfl
 have f31 : (s.toList == [82, 65, 78, 75]) = false := by rw [hs]; rfl
 have f32 : (s.toList == [67, 79, 85, 78, 84, 73, 70]) = false := by rw [hs]; rfl
 have f33 : (s.toList == [70, 85, 83, 69, 68]) = false := by rw [hs]; rfl
 have f34 : (s.toList == [77, 73, 68]) = false := by rw [hs]; rfl
 have f35 : (s.toList == [65, 78, 68]) = false := by rw [hs]; rfl
 have f36 : (s.toList == [65, 86, 69, 82, 65, 71, 69]) = false := by rw [hs]; rfl
 have f37 : (s.toList == [67, 79, 85, 78, 84]) = false := by rw [hs]; rfl
 have f38 : (s.toList == [67, 79, 85, 78, 84, 65]) = false := by rw [hs]; rfl
 have f39 : (s.toList == [74, 79, 73, 78]) = false := by rw [hs]; rfl
 have f40 : (s.toList == [77, 65, 88]) = false := by rw [hs]; rfl
 have f41 : (s.toList == [77, 69, 68, 73, 65, 78]) = false := by rw [hs]; rfl
 have f42 : (s.toList == [77, 73, 78]) = false := by rw [hs]; rfl
 have f43 : (s.toList == [77, 79, 68, 69]) = false := by rw [hs]; rfl
 have f44 : (s.toList == [79, 82]) = true := by rw [hs]; rfl
 clear hs
 go_enter Tryz.func175, Tryz.ntmps175
 go_wp2_with fail
 (try simp only [Exit.inBlock, Exit.then])
 refine bodyPost_ret (results_cell_row rfl _ _ w.heap.size _ _ _ _ rfl (heap_alloc_new _ _) Tryz.underlying196 rfl (by kernel_rfl)) rfl ?_
 exact ⟨rfl, (Gr.refl _).alloc _⟩
set_option maxRecDepth 100000 in
set_option maxHeartbeats 4000000 in
theorem takes_45 (s : ByteArray) (w : World) (hs : s.toList = [83, 84, 68, 69, 86]) :
    Calls Tryz.prog 175 #[.string s] w fun e w' => e = .returned (.agg #[.int .i64 1, .int .i64 256]) ∧ Gr w w' := by
 have f0 : (s.toList == [78, 65]) = false := by rw [hs]; rfl
 have f1 : (s.toList == [65, 66, 83]) = false := by rw [hs]; rfl
 have f2 : (s.toList == [73, 78, 84]) = false := by rw [hs]; rfl
 have f3 : (s.toList == [73, 83, 66, 76, 65, 78, 75]) = false := by rw [hs]; rfl
 have f4 : (s.toList == [73, 83, 69, 82, 82, 79, 82]) = false := by rw [hs]; rfl
 have f5 : (s.toList == [73, 83, 78, 85, 77, 66, 69, 82]) = false := by rw [hs]; rfl
 have f6 : (s.toList == [73, 83, 84, 69, 88, 84]) = false := by rw [hs]; rfl
 have f7 : (s.toList == [76, 69, 78]) = false := by rw [hs]; rfl
 have f8 : (s.toList == [78, 79, 84]) = false := by rw [hs]; rfl
 have f9 : (s.toList == [83, 73, 71, 78]) = false := by rw [hs]; rfl
 have f10 : (s.toList == [83, 73, 78, 71, 76, 69]) = false := by rw [hs]; rfl
 have f11 : (s.toList == [83, 81, 82, 84]) = false := by rw [hs]; rfl
 have f12 : (s.toList == [84, 82, 85, 78, 67]) = false := by rw [hs]; rfl
 have f13 : (s.toList == [86, 65, 76, 85, 69]) = false := by rw [hs]; rfl
 have f14 : (s.toList == [69, 88, 65, 67, 84]) = false := by rw [hs]; rfl
 have f15 : (s.toList == [73, 70, 69, 82, 82, 79, 82]) = false := by rw [hs]; rfl
 have f16 : (s.toList == [76, 65, 82, 71, 69]) = false := by rw [hs]; rfl
 have f17 : (s.toList == [76, 69, 70, 84]) = false := by rw [hs]; rfl
 have f18 : (s.toList == [77, 79, 68]) = false := by rw [hs]; rfl
 have f19 : (s.toList == [80, 69, 82, 67, 69, 78, 84, 73, 76, 69]) = false := by rw [hs]; rfl
 have f20 : (s.toList == [80, 79, 87, 69, 82]) = false := by rw [hs]; rfl
 have f21 : (s.toList == [82, 69, 80, 84]) = false := by rw [hs]; rfl
 have f22 : (s.toList == [82, 73, 71, 72, 84]) = false := by rw [hs]; rfl
 have f23 : (s.toList == [82, 79, 85, 78, 68]) = false := by rw [hs]; rfl
 have f24 : (s.toList == [82, 79, 85, 78, 68, 68, 79, 87, 78]) = false := by rw [hs]; rfl
 have f25 : (s.toList == [82, 79, 85, 78, 68, 69, 86, 69, 78]) = false := by rw [hs]; rfl
 have f26 : (s.toList == [82, 79, 85, 78, 68, 85, 80]) = false := by rw [hs]; rfl
 have f27 : (s.toList == [83, 77, 65, 76, 76]) = false := by rw [hs]; rfl
 have f28 : (s.toList == [83, 85, 77, 80, 82, 79, 68, 85, 67, 84]) = false := by rw [hs]; rfl
 have f29 : (s.toList == [84, 69, 88, 84]) = false := by rw [hs]; rfl
 have f30 : (s.toList == [73, 70]) = false := by rw [hs]; rfl
 have f31 : (s.toList == [82, 65, 78, 75]) = false := by rw [hs]; rfl
 have f32 : (s.toList == [67, 79, 85, 78, 84, 73, 70]) = false := by rw [hs]; rfl
 have f33 : (s.toList == [70, 85, 83, 69, 68]) = false := by rw [hs]; rfl
 have f34 : (s.toList == [77, 73, 68]) = false := by rw [hs]; rfl
 have f35 : (s.toList == [65, 78, 68]) = false := by rw [hs]; rfl
 have f36 : (s.toList == [65, 86, 69, 82, 65, 71, 69]) = false := by rw [hs]; rfl
 have f37 : (s.toList == [67, 79, 85, 78, 84]) = false := by rw [hs]; rfl
 have f38 : (s.toList == [67, 79, 85, 78, 84, 65]) = false := by rw [hs]; rfl
 have f39 : (s.toList == [74, 79, 73, 78]) = false := by rw [hs]; rfl
 have f40 : (s.toList == [77, 65, 88]) = false := by rw [hs]; rfl
 have f41 : (s.toList == [77, 69, 68, 73, 65, 78]) = false := by rw [hs]; rfl
 have f42 : (s.toList == [77, 73, 78]) = false := by rw [hs]; rfl
 have f43 : (s.toList == [77, 79, 68, 69]) = false := by rw [hs]; rfl
 have f44 : (s.toList == [79, 82]) = false := by rw [hs]; rfl
 have f45 : (s.toList == [83, 84, 68, 69, 86]) = true := by rw [hs]; rfl
 clear hs
 go_enter Tryz.func175, Tryz.ntmps175
 go_wp2_with fail
 (try simp only [Exit.inBlock, Exit.then])
 refine bodyPost_ret (results_cell_row rfl _ _ w.heap.size _ _ _ _ rfl (heap_alloc_new _ _) Tryz.underlying196 rfl (by kernel_rfl)) rfl ?_
 exact ⟨rfl, (Gr.refl _).alloc _⟩
set_option maxRecDepth 100000 in
set_option maxHeartbeats 4000000 in
theorem takes_46 (s : ByteArray) (w : World) (hs : s.toList = [83, 84, 68, 69, 86, 80]) :
    Calls Tryz.prog 175 #[.string s] w fun e w' => e = .returned (.agg #[.int .i64 1, .int .i64 256]) ∧ Gr w w' := by
 have f0 : (s.toList == [78, 65]) = false := by rw [hs]; rfl
 have f1 : (s.toList == [65, 66, 83]) = false := by rw [hs]; rfl
 have f2 : (s.toList == [73, 78, 84]) = false := by rw [hs]; rfl
 have f3 : (s.toList == [73, 83, 66, 76, 65, 78, 75]) = false := by rw [hs]; rfl
 have f4 : (s.toList == [73, 83, 69, 82, 82, 79, 82]) = false := by rw [hs]; rfl
 have f5 : (s.toList == [73, 83, 78, 85, 77, 66, 69, 82]) = false := by rw [hs]; rfl
 have f6 : (s.toList == [73, 83, 84, 69, 88, 84]) = false := by rw [hs]; rfl
 have f7 : (s.toList == [76, 69, 78]) = false := by rw [hs]; rfl
 have f8 : (s.toList == [78, 79, 84]) = false := by rw [hs]; rfl
 have f9 : (s.toList == [83, 73, 71, 78]) = false := by rw [hs]; rfl
 have f10 : (s.toList == [83, 73, 78, 71, 76, 69]) = false := by rw [hs]; rfl
 have f11 : (s.toList == [83, 81, 82, 84]) = false := by rw [hs]; rfl
 have f12 : (s.toList == [84, 82, 85, 78, 67]) = false := by rw [hs]; rfl
 have f13 : (s.toList == [86, 65, 76, 85, 69]) = false := by rw [hs]; rfl
 have f14 : (s.toList == [69, 88, 65, 67, 84]) = false := by rw [hs]; rfl
 have f15 : (s.toList == [73, 70, 69, 82, 82, 79, 82]) = false := by rw [hs]; rfl
 have f16 : (s.toList == [76, 65, 82, 71, 69]) = false := by rw [hs]; rfl
 have f17 : (s.toList == [76, 69, 70, 84]) = false := by rw [hs]; rfl
 have f18 : (s.toList == [77, 79, 68]) = false := by rw [hs]; rfl
 have f19 : (s.toList == [80, 69, 82, 67, 69, 78, 84, 73, 76, 69]) = false := by rw [hs]; rfl
 have f20 : (s.toList == [80, 79, 87, 69, 82]) = false := by rw [hs]; rfl
 have f21 : (s.toList == [82, 69, 80, 84]) = false := by rw [hs]; rfl
 have f22 : (s.toList == [82, 73, 71, 72, 84]) = false := by rw [hs]; rfl
 have f23 : (s.toList == [82, 79, 85, 78, 68]) = false := by rw [hs]; rfl
 have f24 : (s.toList == [82, 79, 85, 78, 68, 68, 79, 87, 78]) = false := by rw [hs]; rfl
 have f25 : (s.toList == [82, 79, 85, 78, 68, 69, 86, 69, 78]) = false := by rw [hs]; rfl
 have f26 : (s.toList == [82, 79, 85, 78, 68, 85, 80]) = false := by rw [hs]; rfl
 have f27 : (s.toList == [83, 77, 65, 76, 76]) = false := by rw [hs]; rfl
 have f28 : (s.toList == [83, 85, 77, 80, 82, 79, 68, 85, 67, 84]) = false := by rw [hs]; rfl
 have f29 : (s.toList == [84, 69, 88, 84]) = false := by rw [hs]; rfl
 have f30 : (s.toList == [73, 70]) = false := by rw [hs]; rfl
 have f31 : (s.toList == [82, 65, 78, 75]) = false := by rw [hs]; rfl
 have f32 : (s.toList == [67, 79, 85, 78, 84, 73, 70]) = false := by rw [hs]; rfl
 have f33 : (s.toList == [70, 85, 83, 69, 68]) = false := by rw [hs]; rfl
 have f34 : (s.toList == [77, 73, 68]) = false := by rw [hs]; rfl
 have f35 : (s.toList == [65, 78, 68]) = false := by rw [hs]; rfl
 have f36 : (s.toList == [65, 86, 69, 82, 65, 71, 69]) = false := by rw [hs]; rfl
 have f37 : (s.toList == [67, 79, 85, 78, 84]) = false := by rw [hs]; rfl
 have f38 : (s.toList == [67, 79, 85, 78, 84, 65]) = false := by rw [hs]; rfl
 have f39 : (s.toList == [74, 79, 73, 78]) = false := by rw [hs]; rfl
 have f40 : (s.toList == [77, 65, 88]) = false := by rw [hs]; rfl
 have f41 : (s.toList == [77, 69, 68, 73, 65, 78]) = false := by rw [hs]; rfl
 have f42 : (s.toList == [77, 73, 78]) = false := by rw [hs]; rfl
 have f43 : (s.toList == [77, 79, 68, 69]) = false := by rw [hs]; rfl
 have f44 : (s.toList == [79, 82]) = false := by rw [hs]; rfl
 have f45 : (s.toList == [83, 84, 68, 69, 86]) = false := by rw [hs]; rfl
 have f46 : (s.toList == [83, 84, 68, 69, 86, 80]) = true := by rw [hs]; rfl
 clear hs
 go_enter Tryz.func175, Tryz.ntmps175
 go_wp2_with fail
 (try simp only [Exit.inBlock, Exit.then])
 refine bodyPost_ret (results_cell_row rfl _ _ w.heap.size _ _ _ _ rfl (heap_alloc_new _ _) Tryz.underlying196 rfl (by kernel_rfl)) rfl ?_
 exact ⟨rfl, (Gr.refl _).alloc _⟩
set_option maxRecDepth 100000 in
set_option maxHeartbeats 4000000 in
theorem takes_47 (s : ByteArray) (w : World) (hs : s.toList = [83, 85, 77]) :
    Calls Tryz.prog 175 #[.string s] w fun e w' => e = .returned (.agg #[.int .i64 1, .int .i64 256]) ∧ Gr w w' := by
 have f0 : (s.toList == [78, 65]) = false := by rw [hs]; rfl
 have f1 : (s.toList == [65, 66, 83]) = false := by rw [hs]; rfl
 have f2 : (s.toList == [73, 78, 84]) = false := by rw [hs]; rfl
 have f3 : (s.toList == [73, 83, 66, 76, 65, 78, 75]) = false := by rw [hs]; rfl
 have f4 : (s.toList == [73, 83, 69, 82, 82, 79, 82]) = false := by rw [hs]; rfl
 have f5 : (s.toList == [73, 83, 78, 85, 77, 66, 69, 82]) = false := by rw [hs]; rfl
 have f6 : (s.toList == [73, 83, 84, 69, 88, 84]) = false := by rw [hs]; rfl
 have f7 : (s.toList == [76, 69, 78]) = false := by rw [hs]; rfl
 have f8 : (s.toList == [78, 79, 84]) = false := by rw [hs]; rfl
 have f9 : (s.toList == [83, 73, 71, 78]) = false := by rw [hs]; rfl
 have f10 : (s.toList == [83, 73, 78, 71, 76, 69]) = false := by rw [hs]; rfl
 have f11 : (s.toList == [83, 81, 82, 84]) = false := by rw [hs]; rfl
 have f12 : (s.toList == [84, 82, 85, 78, 67]) = false := by rw [hs]; rfl
 have f13 : (s.toList == [86, 65, 76, 85, 69]) = false := by rw [hs]; rfl
 have f14 : (s.toList == [69, 88, 65, 67, 84]) = false := by rw [hs]; rfl
 have f15 : (s.toList == [73, 70, 69, 82, 82, 79, 82]) = false := by rw [hs]; rfl
 have f16 : (s.toList == [76, 65, 82, 71, 69]) = false := by rw [hs]; rfl
 have f17 : (s.toList == [76, 69, 70, 84]) = false := by rw [hs]; rfl
 have f18 : (s.toList == [77, 79, 68]) = false := by rw [hs]; rfl
 have f19 : (s.toList == [80, 69, 82, 67, 69, 78, 84, 73, 76, 69]) = false := by rw [hs]; rfl
 have f20 : (s.toList == [80, 79, 87, 69, 82]) = false := by rw [hs]; rfl
 have f21 : (s.toList == [82, 69, 80, 84]) = false := by rw [hs]; rfl
 have f22 : (s.toList == [82, 73, 71, 72, 84]) = false := by rw [hs]; rfl
 have f23 : (s.toList == [82, 79, 85, 78, 68]) = false := by rw [hs]; rfl
 have f24 : (s.toList == [82, 79, 85, 78, 68, 68, 79, 87, 78]) = false := by rw [hs]; rfl
 have f25 : (s.toList == [82, 79, 85, 78, 68, 69, 86, 69, 78]) = false := by rw [hs]; rfl
 have f26 : (s.toList == [82, 79, 85, 78, 68, 85, 80]) = false := by rw [hs]; rfl
 have f27 : (s.toList == [83, 77, 65, 76, 76]) = false := by rw [hs]; rfl
 have f28 : (s.toList == [83, 85, 77, 80, 82, 79, 68, 85, 67, 84]) = false := by rw [hs]; rfl
 have f29 : (s.toList == [84, 69, 88, 84]) = false := by rw [hs]; rfl
 have f30 : (s.toList == [73, 70]) = false := by rw [hs]; rfl
 have f31 : (s.toList == [82, 65, 78, 75]) = false := by rw [hs]; rfl
 have f32 : (s.toList == [67, 79, 85, 78, 84, 73, 70]) = false := by rw [hs]; rfl
 have f33 : (s.toList == [70, 85, 83, 69, 68]) = false := by rw [hs]; rfl
 have f34 : (s.toList == [77, 73, 68]) = false := by rw [hs]; rfl
 have f35 : (s.toList == [65, 78, 68]) = false := by rw [hs]; rfl
 have f36 : (s.toList == [65, 86, 69, 82, 65, 71, 69]) = false := by rw [hs]; rfl
 have f37 : (s.toList == [67, 79, 85, 78, 84]) = false := by rw [hs]; rfl
 have f38 : (s.toList == [67, 79, 85, 78, 84, 65]) = false := by rw [hs]; rfl
 have f39 : (s.toList == [74, 79, 73, 78]) = false := by rw [hs]; rfl
 have f40 : (s.toList == [77, 65, 88]) = false := by rw [hs]; rfl
 have f41 : (s.toList == [77, 69, 68, 73, 65, 78]) = false := by rw [hs]; rfl
 have f42 : (s.toList == [77, 73, 78]) = false := by rw [hs]; rfl
 have f43 : (s.toList == [77, 79, 68, 69]) = false := by rw [hs]; rfl
 have f44 : (s.toList == [79, 82]) = false := by rw [hs]; rfl
 have f45 : (s.toList == [83, 84, 68, 69, 86]) = false := by rw [hs]; rfl
 have f46 : (s.toList == [83, 84, 68, 69, 86, 80]) = false := by rw [hs]; rfl
 have f47 : (s.toList == [83, 85, 77]) = true := by rw [hs]; rfl
 clear hs
 go_enter Tryz.func175, Tryz.ntmps175
 go_wp2_with fail
 (try simp only [Exit.inBlock, Exit.then])
 refine bodyPost_ret (results_cell_row rfl _ _ w.heap.size _ _ _ _ rfl (heap_alloc_new _ _) Tryz.underlying196 rfl (by kernel_rfl)) rfl ?_
 exact ⟨rfl, (Gr.refl _).alloc _⟩
set_option maxRecDepth 100000 in
set_option maxHeartbeats 4000000 in
theorem takes_48 (s : ByteArray) (w : World) (hs : s.toList = [83, 85, 77, 83, 81]) :
    Calls Tryz.prog 175 #[.string s] w fun e w' => e = .returned (.agg #[.int .i64 1, .int .i64 256]) ∧ Gr w w' := by
 have f0 : (s.toList == [78, 65]) = false := by rw [hs]; rfl
 have f1 : (s.toList == [65, 66, 83]) = false := by rw [hs]; rfl
 have f2 : (s.toList == [73, 78, 84]) = false := by rw [hs]; rfl
 have f3 : (s.toList == [73, 83, 66, 76, 65, 78, 75]) = false := by rw [hs]; rfl
 have f4 : (s.toList == [73, 83, 69, 82, 82, 79, 82]) = false := by rw [hs]; rfl
 have f5 : (s.toList == [73, 83, 78, 85, 77, 66, 69, 82]) = false := by rw [hs]; rfl
 have f6 : (s.toList == [73, 83, 84, 69, 88, 84]) = false := by rw [hs]; rfl
 have f7 : (s.toList == [76, 69, 78]) = false := by rw [hs]; rfl
 have f8 : (s.toList == [78, 79, 84]) = false := by rw [hs]; rfl
 have f9 : (s.toList == [83, 73, 71, 78]) = false := by rw [hs]; rfl
 have f10 : (s.toList == [83, 73, 78, 71, 76, 69]) = false := by rw [hs]; rfl
 have f11 : (s.toList == [83, 81, 82, 84]) = false := by rw [hs]; rfl
 have f12 : (s.toList == [84, 82, 85, 78, 67]) = false := by rw [hs]; rfl
 have f13 : (s.toList == [86, 65, 76, 85, 69]) = false := by rw [hs]; rfl
 have f14 : (s.toList == [69, 88, 65, 67, 84]) = false := by rw [hs]; rfl
 have f15 : (s.toList == [73, 70, 69, 82, 82, 79, 82]) = false := by rw [hs]; rfl
 have f16 : (s.toList == [76, 65, 82, 71, 69]) = false := by rw [hs]; rfl
 have f17 : (s.toList == [76, 69, 70, 84]) = false := by rw [hs]; rfl
 have f18 : (s.toList == [77, 79, 68]) = false := by rw [hs]; rfl
 have f19 : (s.toList == [80, 69, 82, 67, 69, 78, 84, 73, 76, 69]) = false := by rw [hs]; rfl
 have f20 : (s.toList == [80, 79, 87, 69, 82]) = false := by rw [hs]; rfl
 have f21 : (s.toList == [82, 69, 80, 84]) = false := by rw [hs]; rfl
 have f22 : (s.toList == [82, 73, 71, 72, 84]) = false := by rw [hs]; rfl
 have f23 : (s.toList == [82, 79, 85, 78, 68]) = false := by rw [hs]; rfl
 have f24 : (s.toList == [82, 79, 85, 78, 68, 68, 79, 87, 78]) = false := by rw [hs]; rfl
 have f25 : (s.toList == [82, 79, 85, 78, 68, 69, 86, 69, 78]) = false := by rw [hs]; rfl
 have f26 : (s.toList == [82, 79, 85, 78, 68, 85, 80]) = false := by rw [hs]; rfl
 have f27 : (s.toList == [83, 77, 65, 76, 76]) = false := by rw [hs]; rfl
 have f28 : (s.toList == [83, 85, 77, 80, 82, 79, 68, 85, 67, 84]) = false := by rw [hs]; rfl
 have f29 : (s.toList == [84, 69, 88, 84]) = false := by rw [hs]; rfl
 have f30 : (s.toList == [73, 70]) = false := by rw [hs]; rfl
 have f31 : (s.toList == [82, 65, 78, 75]) = false := by rw [hs]; rfl
 have f32 : (s.toList == [67, 79, 85, 78, 84, 73, 70]) = false := by rw [hs]; rfl
 have f33 : (s.toList == [70, 85, 83, 69, 68]) = false := by rw [hs]; rfl
 have f34 : (s.toList == [77, 73, 68]) = false := by rw [hs]; rfl
 have f35 : (s.toList == [65, 78, 68]) = false := by rw [hs]; rfl
 have f36 : (s.toList == [65, 86, 69, 82, 65, 71, 69]) = false := by rw [hs]; rfl
 have f37 : (s.toList == [67, 79, 85, 78, 84]) = false := by rw [hs]; rfl
 have f38 : (s.toList == [67, 79, 85, 78, 84, 65]) = false := by rw [hs]; rfl
 have f39 : (s.toList == [74, 79, 73, 78]) = false := by rw [hs]; rfl
 have f40 : (s.toList == [77, 65, 88]) = false := by rw [hs]; rfl
 have f41 : (s.toList == [77, 69, 68, 73, 65, 78]) = false := by rw [hs]; rfl
 have f42 : (s.toList == [77, 73, 78]) = false := by rw [hs]; rfl
 have f43 : (s.toList == [77, 79, 68, 69]) = false := by rw [hs]; rfl
 have f44 : (s.toList == [79, 82]) = false := by rw [hs]; rfl
 have f45 : (s.toList == [83, 84, 68, 69, 86]) = false := by rw [hs]; rfl
 have f46 : (s.toList == [83, 84, 68, 69, 86, 80]) = false := by rw [hs]; rfl
 have f47 : (s.toList == [83, 85, 77]) = false := by rw [hs]; rfl
 have f48 : (s.toList == [83, 85, 77, 83, 81]) = true := by rw [hs]; rfl
 clear hs
 go_enter Tryz.func175, Tryz.ntmps175
 go_wp2_with fail
 (try simp only [Exit.inBlock, Exit.then])
 refine bodyPost_ret (results_cell_row rfl _ _ w.heap.size _ _ _ _ rfl (heap_alloc_new _ _) Tryz.underlying196 rfl (by kernel_rfl)) rfl ?_
 exact ⟨rfl, (Gr.refl _).alloc _⟩
set_option maxRecDepth 100000 in
set_option maxHeartbeats 4000000 in
theorem takes_49 (s : ByteArray) (w : World) (hs : s.toList = [86, 65, 82]) :
    Calls Tryz.prog 175 #[.string s] w fun e w' => e = .returned (.agg #[.int .i64 1, .int .i64 256]) ∧ Gr w w' := by
 have f0 : (s.toList == [78, 65]) = false := by rw [hs]; rfl
 have f1 : (s.toList == [65, 66, 83]) = false := by rw [hs]; rfl
 have f2 : (s.toList == [73, 78, 84]) = false := by rw [hs]; rfl
 have f3 : (s.toList == [73, 83, 66, 76, 65, 78, 75]) = false := by rw [hs]; rfl
 have f4 : (s.toList == [73, 83, 69, 82, 82, 79, 82]) = false := by rw [hs]; rfl
 have f5 : (s.toList == [73, 83, 78, 85, 77, 66, 69, 82]) = false := by rw [hs]; rfl
 have f6 : (s.toList == [73, 83, 84, 69, 88, 84]) = false := by rw [hs]; rfl
 have f7 : (s.toList == [76, 69, 78]) = false := by rw [hs]; rfl
 have f8 : (s.toList == [78, 79, 84]) = false := by rw [hs]; rfl
 have f9 : (s.toList == [83, 73, 71, 78]) = false := by rw [hs]; rfl
 have f10 : (s.toList == [83, 73, 78, 71, 76, 69]) = false := by rw [hs]; rfl
 have f11 : (s.toList == [83, 81, 82, 84]) = false := by rw [hs]; rfl
 have f12 : (s.toList == [84, 82, 85, 78, 67]) = false := by rw [hs]; rfl
 have f13 : (s.toList == [86, 65, 76, 85, 69]) = false := by rw [hs]; rfl
 have f14 : (s.toList == [69, 88, 65, 67, 84]) = false := by rw [hs]; rfl
 have f15 : (s.toList == [73, 70, 69, 82, 82, 79, 82]) = false := by rw [hs]; rfl
 have f16 : (s.toList == [76, 65, 82, 71, 69]) = false := by rw [hs]; rfl
 have f17 : (s.toList == [76, 69, 70, 84]) = false := by rw [hs]; rfl
 have f18 : (s.toList == [77, 79, 68]) = false := by rw [hs]; rfl
 have f19 : (s.toList == [80, 69, 82, 67, 69, 78, 84, 73, 76, 69]) = false := by rw [hs]; rfl
 have f20 : (s.toList == [80, 79, 87, 69, 82]) = false := by rw [hs]; rfl
 have f21 : (s.toList == [82, 69, 80, 84]) = false := by rw [hs]; rfl
 have f22 : (s.toList == [82, 73, 71, 72, 84]) = false := by rw [hs]; rfl
 have f23 : (s.toList == [82, 79, 85, 78, 68]) = false := by rw [hs]; rfl
 have f24 : (s.toList == [82, 79, 85, 78, 68, 68, 79, 87, 78]) = false := by rw [hs]; rfl
 have f25 : (s.toList == [82, 79, 85, 78, 68, 69, 86, 69, 78]) = false := by rw [hs]; rfl
 have f26 : (s.toList == [82, 79, 85, 78, 68, 85, 80]) = false := by rw [hs]; rfl
 have f27 : (s.toList == [83, 77, 65, 76, 76]) = false := by rw [hs]; rfl
 have f28 : (s.toList == [83, 85, 77, 80, 82, 79, 68, 85, 67, 84]) = false := by rw [hs]; rfl
 have f29 : (s.toList == [84, 69, 88, 84]) = false := by rw [hs]; rfl
 have f30 : (s.toList == [73, 70]) = false := by rw [hs]; rfl
 have f31 : (s.toList == [82, 65, 78, 75]) = false := by rw [hs]; rfl
 have f32 : (s.toList == [67, 79, 85, 78, 84, 73, 70]) = false := by rw [hs]; rfl
 have f33 : (s.toList == [70, 85, 83, 69, 68]) = false := by rw [hs]; rfl
 have f34 : (s.toList == [77, 73, 68]) = false := by rw [hs]; rfl
 have f35 : (s.toList == [65, 78, 68]) = false := by rw [hs]; rfl
 have f36 : (s.toList == [65, 86, 69, 82, 65, 71, 69]) = false := by rw [hs]; rfl
 have f37 : (s.toList == [67, 79, 85, 78, 84]) = false := by rw [hs]; rfl
 have f38 : (s.toList == [67, 79, 85, 78, 84, 65]) = false := by rw [hs]; rfl
 have f39 : (s.toList == [74, 79, 73, 78]) = false := by rw [hs]; rfl
 have f40 : (s.toList == [77, 65, 88]) = false := by rw [hs]; rfl
 have f41 : (s.toList == [77, 69, 68, 73, 65, 78]) = false := by rw [hs]; rfl
 have f42 : (s.toList == [77, 73, 78]) = false := by rw [hs]; rfl
 have f43 : (s.toList == [77, 79, 68, 69]) = false := by rw [hs]; rfl
 have f44 : (s.toList == [79, 82]) = false := by rw [hs]; rfl
 have f45 : (s.toList == [83, 84, 68, 69, 86]) = false := by rw [hs]; rfl
 have f46 : (s.toList == [83, 84, 68, 69, 86, 80]) = false := by rw [hs]; rfl
 have f47 : (s.toList == [83, 85, 77]) = false := by rw [hs]; rfl
 have f48 : (s.toList == [83, 85, 77, 83, 81]) = false := by rw [hs]; rfl
 have f49 : (s.toList == [86, 65, 82]) = true := by rw [hs]; rfl
 clear hs
 go_enter Tryz.func175, Tryz.ntmps175
 go_wp2_with fail
 (try simp only [Exit.inBlock, Exit.then])
 refine bodyPost_ret (results_cell_row rfl _ _ w.heap.size _ _ _ _ rfl (heap_alloc_new _ _) Tryz.underlying196 rfl (by kernel_rfl)) rfl ?_
 exact ⟨rfl, (Gr.refl _).alloc _⟩
set_option maxRecDepth 100000 in
set_option maxHeartbeats 4000000 in
theorem takes_50 (s : ByteArray) (w : World) (hs : s.toList = [86, 65, 82, 80]) :
    Calls Tryz.prog 175 #[.string s] w fun e w' => e = .returned (.agg #[.int .i64 1, .int .i64 256]) ∧ Gr w w' := by
 have f0 : (s.toList == [78, 65]) = false := by rw [hs]; rfl
 have f1 : (s.toList == [65, 66, 83]) = false := by rw [hs]; rfl
 have f2 : (s.toList == [73, 78, 84]) = false := by rw [hs]; rfl
 have f3 : (s.toList == [73, 83, 66, 76, 65, 78, 75]) = false := by rw [hs]; rfl
 have f4 : (s.toList == [73, 83, 69, 82, 82, 79, 82]) = false := by rw [hs]; rfl
 have f5 : (s.toList == [73, 83, 78, 85, 77, 66, 69, 82]) = false := by rw [hs]; rfl
 have f6 : (s.toList == [73, 83, 84, 69, 88, 84]) = false := by rw [hs]; rfl
 have f7 : (s.toList == [76, 69, 78]) = false := by rw [hs]; rfl
 have f8 : (s.toList == [78, 79, 84]) = false := by rw [hs]; rfl
 have f9 : (s.toList == [83, 73, 71, 78]) = false := by rw [hs]; rfl
 have f10 : (s.toList == [83, 73, 78, 71, 76, 69]) = false := by rw [hs]; rfl
 have f11 : (s.toList == [83, 81, 82, 84]) = false := by rw [hs]; rfl
 have f12 : (s.toList == [84, 82, 85, 78, 67]) = false := by rw [hs]; rfl
 have f13 : (s.toList == [86, 65, 76, 85, 69]) = false := by rw [hs]; rfl
 have f14 : (s.toList == [69, 88, 65, 67, 84]) = false := by rw [hs]; rfl
 have f15 : (s.toList == [73, 70, 69, 82, 82, 79, 82]) = false := by rw [hs]; rfl
 have f16 : (s.toList == [76, 65, 82, 71, 69]) = false := by rw [hs]; rfl
 have f17 : (s.toList == [76, 69, 70, 84]) = false := by rw [hs]; rfl
 have f18 : (s.toList == [77, 79, 68]) = false := by rw [hs]; rfl
 have f19 : (s.toList == [80, 69, 82, 67, 69, 78, 84, 73, 76, 69]) = false := by rw [hs]; rfl
 have f20 : (s.toList == [80, 79, 87, 69, 82]) = false := by rw [hs]; rfl
 have f21 : (s.toList == [82, 69, 80, 84]) = false := by rw [hs]; rfl
 have f22 : (s.toList == [82, 73, 71, 72, 84]) = false := by rw [hs]; rfl
 have f23 : (s.toList == [82, 79, 85, 78, 68]) = false := by rw [hs]; rfl
 have f24 : (s.toList == [82, 79, 85, 78, 68, 68, 79, 87, 78]) = false := by rw [hs]; rfl
 have f25 : (s.toList == [82, 79, 85, 78, 68, 69, 86, 69, 78]) = false := by rw [hs]; rfl
 have f26 : (s.toList == [82, 79, 85, 78, 68, 85, 80]) = false := by rw [hs]; rfl
 have f27 : (s.toList == [83, 77, 65, 76, 76]) = false := by rw [hs]; rfl
 have f28 : (s.toList == [83, 85, 77, 80, 82, 79, 68, 85, 67, 84]) = false := by rw [hs]; rfl
 have f29 : (s.toList == [84, 69, 88, 84]) = false := by rw [hs]; rfl
 have f30 : (s.toList == [73, 70]) = false := by rw [hs]; rfl
 have f31 : (s.toList == [82, 65, 78, 75]) = false := by rw [hs]; rfl
 have f32 : (s.toList == [67, 79, 85, 78, 84, 73, 70]) = false := by rw [hs]; rfl
 have f33 : (s.toList == [70, 85, 83, 69, 68]) = false := by rw [hs]; rfl
 have f34 : (s.toList == [77, 73, 68]) = false := by rw [hs]; rfl
 have f35 : (s.toList == [65, 78, 68]) = false := by rw [hs]; rfl
 have f36 : (s.toList == [65, 86, 69, 82, 65, 71, 69]) = false := by rw [hs]; rfl
 have f37 : (s.toList == [67, 79, 85, 78, 84]) = false := by rw [hs]; rfl
 have f38 : (s.toList == [67, 79, 85, 78, 84, 65]) = false := by rw [hs]; rfl
 have f39 : (s.toList == [74, 79, 73, 78]) = false := by rw [hs]; rfl
 have f40 : (s.toList == [77, 65, 88]) = false := by rw [hs]; rfl
 have f41 : (s.toList == [77, 69, 68, 73, 65, 78]) = false := by rw [hs]; rfl
 have f42 : (s.toList == [77, 73, 78]) = false := by rw [hs]; rfl
 have f43 : (s.toList == [77, 79, 68, 69]) = false := by rw [hs]; rfl
 have f44 : (s.toList == [79, 82]) = false := by rw [hs]; rfl
 have f45 : (s.toList == [83, 84, 68, 69, 86]) = false := by rw [hs]; rfl
 have f46 : (s.toList == [83, 84, 68, 69, 86, 80]) = false := by rw [hs]; rfl
 have f47 : (s.toList == [83, 85, 77]) = false := by rw [hs]; rfl
 have f48 : (s.toList == [83, 85, 77, 83, 81]) = false := by rw [hs]; rfl
 have f49 : (s.toList == [86, 65, 82]) = false := by rw [hs]; rfl
 have f50 : (s.toList == [86, 65, 82, 80]) = true := by rw [hs]; rfl
 clear hs
 go_enter Tryz.func175, Tryz.ntmps175
 go_wp2_with fail
 (try simp only [Exit.inBlock, Exit.then])
 refine bodyPost_ret (results_cell_row rfl _ _ w.heap.size _ _ _ _ rfl (heap_alloc_new _ _) Tryz.underlying196 rfl (by kernel_rfl)) rfl ?_
 exact ⟨rfl, (Gr.refl _).alloc _⟩
set_option maxRecDepth 100000 in
set_option maxHeartbeats 4000000 in
theorem takes_51 (s : ByteArray) (w : World) (hs : s.toList = [67, 72, 79, 79, 83, 69]) :
    Calls Tryz.prog 175 #[.string s] w fun e w' => e = .returned (.agg #[.int .i64 2, .int .i64 256]) ∧ Gr w w' := by
 have f0 : (s.toList == [78, 65]) = false := by rw [hs]; rfl
 have f1 : (s.toList == [65, 66, 83]) = false := by rw [hs]; rfl
 have f2 : (s.toList == [73, 78, 84]) = false := by rw [hs]; rfl
 have f3 : (s.toList == [73, 83, 66, 76, 65, 78, 75]) = false := by rw [hs]; rfl
 have f4 : (s.toList == [73, 83, 69, 82, 82, 79, 82]) = false := by rw [hs]; rfl
 have f5 : (s.toList == [73, 83, 78, 85, 77, 66, 69, 82]) = false := by rw [hs]; rfl
 have f6 : (s.toList == [73, 83, 84, 69, 88, 84]) = false := by rw [hs]; rfl
 have f7 : (s.toList == [76, 69, 78]) = false := by rw [hs]; rfl
 have f8 : (s.toList == [78, 79, 84]) = false := by rw [hs]; rfl
 have f9 : (s.toList == [83, 73, 71, 78]) = false := by rw [hs]; rfl
 have f10 : (s.toList == [83, 73, 78, 71, 76, 69]) = false := by rw [hs]; rfl
 have f11 : (s.toList == [83, 81, 82, 84]) = false := by rw [hs]; rfl
 have f12 : (s.toList == [84, 82, 85, 78, 67]) = false := by rw [hs]; rfl
 have f13 : (s.toList == [86, 65, 76, 85, 69]) = false := by rw [hs]; rfl
 have f14 : (s.toList == [69, 88, 65, 67, 84]) = false := by rw [hs]; rfl
 have f15 : (s.toList == [73, 70, 69, 82, 82, 79, 82]) = false := by rw [hs]; rfl
 have f16 : (s.toList == [76, 65, 82, 71, 69]) = false := by rw [hs]; rfl
 have f17 : (s.toList == [76, 69, 70, 84]) = false := by rw [hs]; rfl
 have f18 : (s.toList == [77, 79, 68]) = false := by rw [hs]; rfl
 have f19 : (s.toList == [80, 69, 82, 67, 69, 78, 84, 73, 76, 69]) = false := by rw [hs]; rfl
 have f20 : (s.toList == [80, 79, 87, 69, 82]) = false := by rw [hs]; rfl
 have f21 : (s.toList == [82, 69, 80, 84]) = false := by rw [hs]; rfl
 have f22 : (s.toList == [82, 73, 71, 72, 84]) = false := by rw [hs]; rfl
 have f23 : (s.toList == [82, 79, 85, 78, 68]) = false := by rw [hs]; rfl
 have f24 : (s.toList == [82, 79, 85, 78, 68, 68, 79, 87, 78]) = false := by rw [hs]; rfl
 have f25 : (s.toList == [82, 79, 85, 78, 68, 69, 86, 69, 78]) = false := by rw [hs]; rfl
 have f26 : (s.toList == [82, 79, 85, 78, 68, 85, 80]) = false := by rw [hs]; rfl
 have f27 : (s.toList == [83, 77, 65, 76, 76]) = false := by rw [hs]; rfl
 have f28 : (s.toList == [83, 85, 77, 80, 82, 79, 68, 85, 67, 84]) = false := by rw [hs]; rfl
 have f29 : (s.toList == [84, 69, 88, 84]) = false := by rw [hs]; rfl
 have f30 : (s.toList == [73, 70]) = false := by rw [hs]; rfl
 have f31 : (s.toList == [82, 65, 78, 75]) = false := by rw [hs]; rfl
 have f32 : (s.toList == [67, 79, 85, 78, 84, 73, 70]) = false := by rw [hs]; rfl
 have f33 : (s.toList == [70, 85, 83, 69, 68]) = false := by rw [hs]; rfl
 have f34 : (s.toList == [77, 73, 68]) = false := by rw [hs]; rfl
 have f35 : (s.toList == [65, 78, 68]) = false := by rw [hs]; rfl
 have f36 : (s.toList == [65, 86, 69, 82, 65, 71, 69]) = false := by rw [hs]; rfl
 have f37 : (s.toList == [67, 79, 85, 78, 84]) = false := by rw [hs]; rfl
 have f38 : (s.toList == [67, 79, 85, 78, 84, 65]) = false := by rw [hs]; rfl
 have f39 : (s.toList == [74, 79, 73, 78]) = false := by rw [hs]; rfl
 have f40 : (s.toList == [77, 65, 88]) = false := by rw [hs]; rfl
 have f41 : (s.toList == [77, 69, 68, 73, 65, 78]) = false := by rw [hs]; rfl
 have f42 : (s.toList == [77, 73, 78]) = false := by rw [hs]; rfl
 have f43 : (s.toList == [77, 79, 68, 69]) = false := by rw [hs]; rfl
 have f44 : (s.toList == [79, 82]) = false := by rw [hs]; rfl
 have f45 : (s.toList == [83, 84, 68, 69, 86]) = false := by rw [hs]; rfl
 have f46 : (s.toList == [83, 84, 68, 69, 86, 80]) = false := by rw [hs]; rfl
 have f47 : (s.toList == [83, 85, 77]) = false := by rw [hs]; rfl
 have f48 : (s.toList == [83, 85, 77, 83, 81]) = false := by rw [hs]; rfl
 have f49 : (s.toList == [86, 65, 82]) = false := by rw [hs]; rfl
 have f50 : (s.toList == [86, 65, 82, 80]) = false := by rw [hs]; rfl
 have f51 : (s.toList == [67, 72, 79, 79, 83, 69]) = true := by rw [hs]; rfl
 clear hs
 go_enter Tryz.func175, Tryz.ntmps175
 go_wp2_with fail
 (try simp only [Exit.inBlock, Exit.then])
 refine bodyPost_ret (results_cell_row rfl _ _ w.heap.size _ _ _ _ rfl (heap_alloc_new _ _) Tryz.underlying196 rfl (by kernel_rfl)) rfl ?_
 exact ⟨rfl, (Gr.refl _).alloc _⟩
set_option maxRecDepth 100000 in
set_option maxHeartbeats 4000000 in
theorem takes_none (s : ByteArray) (w : World) (f0 : (s.toList == [78, 65]) = false) (f1 : (s.toList == [65, 66, 83]) = false) (f2 : (s.toList == [73, 78, 84]) = false) (f3 : (s.toList == [73, 83, 66, 76, 65, 78, 75]) = false) (f4 : (s.toList == [73, 83, 69, 82, 82, 79, 82]) = false) (f5 : (s.toList == [73, 83, 78, 85, 77, 66, 69, 82]) = false) (f6 : (s.toList == [73, 83, 84, 69, 88, 84]) = false) (f7 : (s.toList == [76, 69, 78]) = false) (f8 : (s.toList == [78, 79, 84]) = false) (f9 : (s.toList == [83, 73, 71, 78]) = false) (f10 : (s.toList == [83, 73, 78, 71, 76, 69]) = false) (f11 : (s.toList == [83, 81, 82, 84]) = false) (f12 : (s.toList == [84, 82, 85, 78, 67]) = false) (f13 : (s.toList == [86, 65, 76, 85, 69]) = false) (f14 : (s.toList == [69, 88, 65, 67, 84]) = false) (f15 : (s.toList == [73, 70, 69, 82, 82, 79, 82]) = false) (f16 : (s.toList == [76, 65, 82, 71, 69]) = false) (f17 : (s.toList == [76, 69, 70, 84]) = false) (f18 : (s.toList == [77, 79, 68]) = false) (f19 : (s.toList == [80, 69, 82, 67, 69, 78, 84, 73, 76, 69]) = false) (f20 : (s.toList == [80, 79, 87, 69, 82]) = false) (f21 : (s.toList == [82, 69, 80, 84]) = false) (f22 : (s.toList == [82, 73, 71, 72, 84]) = false) (f23 : (s.toList == [82, 79, 85, 78, 68]) = false) (f24 : (s.toList == [82, 79, 85, 78, 68, 68, 79, 87, 78]) = false) (f25 : (s.toList == [82, 79, 85, 78, 68, 69, 86, 69, 78]) = false) (f26 : (s.toList == [82, 79, 85, 78, 68, 85, 80]) = false) (f27 : (s.toList == [83, 77, 65, 76, 76]) = false) (f28 : (s.toList == [83, 85, 77, 80, 82, 79, 68, 85, 67, 84]) = false) (f29 : (s.toList == [84, 69, 88, 84]) = false) (f30 : (s.toList == [73, 70]) = false) (f31 : (s.toList == [82, 65, 78, 75]) = false) (f32 : (s.toList == [67, 79, 85, 78, 84, 73, 70]) = false) (f33 : (s.toList == [70, 85, 83, 69, 68]) = false) (f34 : (s.toList == [77, 73, 68]) = false) (f35 : (s.toList == [65, 78, 68]) = false) (f36 : (s.toList == [65, 86, 69, 82, 65, 71, 69]) = false) (f37 : (s.toList == [67, 79, 85, 78, 84]) = false) (f38 : (s.toList == [67, 79, 85, 78, 84, 65]) = false) (f39 : (s.toList == [74, 79, 73, 78]) = false) (f40 : (s.toList == [77, 65, 88]) = false) (f41 : (s.toList == [77, 69, 68, 73, 65, 78]) = false) (f42 : (s.toList == [77, 73, 78]) = false) (f43 : (s.toList == [77, 79, 68, 69]) = false) (f44 : (s.toList == [79, 82]) = false) (f45 : (s.toList == [83, 84, 68, 69, 86]) = false) (f46 : (s.toList == [83, 84, 68, 69, 86, 80]) = false) (f47 : (s.toList == [83, 85, 77]) = false) (f48 : (s.toList == [83, 85, 77, 83, 81]) = false) (f49 : (s.toList == [86, 65, 82]) = false) (f50 : (s.toList == [86, 65, 82, 80]) = false) (f51 : (s.toList == [67, 72, 79, 79, 83, 69]) = false)  :
    Calls Tryz.prog 175 #[.string s] w fun e w' => e = .returned (.agg #[.int .i64 (-1), .int .i64 (-1)]) ∧ Gr w w' := by
 go_enter Tryz.func175, Tryz.ntmps175
 go_wp2_with fail
 (try simp only [Exit.inBlock, Exit.then])
 refine bodyPost_ret (results_cell_row rfl _ _ w.heap.size _ _ _ _ rfl (heap_alloc_new _ _) Tryz.underlying196 rfl (by kernel_rfl)) rfl ?_
 exact ⟨rfl, (Gr.refl _).alloc _⟩
end Go.Proofs.YtdoeejhdenifpaaGreatDoor
namespace Go.Proofs.YtdoeejhdenifpaaGreatDoor
open Go.RowKit Go.Sort
def takesF (s : List UInt8) : Int × Int :=
 if s = [78, 65] then (0, 0) else
 if s = [65, 66, 83] then (1, 1) else
 if s = [73, 78, 84] then (1, 1) else
 if s = [73, 83, 66, 76, 65, 78, 75] then (1, 1) else
 if s = [73, 83, 69, 82, 82, 79, 82] then (1, 1) else
 if s = [73, 83, 78, 85, 77, 66, 69, 82] then (1, 1) else
 if s = [73, 83, 84, 69, 88, 84] then (1, 1) else
 if s = [76, 69, 78] then (1, 1) else
 if s = [78, 79, 84] then (1, 1) else
 if s = [83, 73, 71, 78] then (1, 1) else
 if s = [83, 73, 78, 71, 76, 69] then (1, 1) else
 if s = [83, 81, 82, 84] then (1, 1) else
 if s = [84, 82, 85, 78, 67] then (1, 1) else
 if s = [86, 65, 76, 85, 69] then (1, 1) else
 if s = [69, 88, 65, 67, 84] then (2, 2) else
 if s = [73, 70, 69, 82, 82, 79, 82] then (2, 2) else
 if s = [76, 65, 82, 71, 69] then (2, 2) else
 if s = [76, 69, 70, 84] then (2, 2) else
 if s = [77, 79, 68] then (2, 2) else
 if s = [80, 69, 82, 67, 69, 78, 84, 73, 76, 69] then (2, 2) else
 if s = [80, 79, 87, 69, 82] then (2, 2) else
 if s = [82, 69, 80, 84] then (2, 2) else
 if s = [82, 73, 71, 72, 84] then (2, 2) else
 if s = [82, 79, 85, 78, 68] then (2, 2) else
 if s = [82, 79, 85, 78, 68, 68, 79, 87, 78] then (2, 2) else
 if s = [82, 79, 85, 78, 68, 69, 86, 69, 78] then (2, 2) else
 if s = [82, 79, 85, 78, 68, 85, 80] then (2, 2) else
 if s = [83, 77, 65, 76, 76] then (2, 2) else
 if s = [83, 85, 77, 80, 82, 79, 68, 85, 67, 84] then (2, 2) else
 if s = [84, 69, 88, 84] then (2, 2) else
 if s = [73, 70] then (2, 3) else
 if s = [82, 65, 78, 75] then (2, 3) else
 if s = [67, 79, 85, 78, 84, 73, 70] then (3, 3) else
 if s = [70, 85, 83, 69, 68] then (3, 3) else
 if s = [77, 73, 68] then (3, 3) else
 if s = [65, 78, 68] then (1, 256) else
 if s = [65, 86, 69, 82, 65, 71, 69] then (1, 256) else
 if s = [67, 79, 85, 78, 84] then (1, 256) else
 if s = [67, 79, 85, 78, 84, 65] then (1, 256) else
 if s = [74, 79, 73, 78] then (1, 256) else
 if s = [77, 65, 88] then (1, 256) else
 if s = [77, 69, 68, 73, 65, 78] then (1, 256) else
 if s = [77, 73, 78] then (1, 256) else
 if s = [77, 79, 68, 69] then (1, 256) else
 if s = [79, 82] then (1, 256) else
 if s = [83, 84, 68, 69, 86] then (1, 256) else
 if s = [83, 84, 68, 69, 86, 80] then (1, 256) else
 if s = [83, 85, 77] then (1, 256) else
 if s = [83, 85, 77, 83, 81] then (1, 256) else
 if s = [86, 65, 82] then (1, 256) else
 if s = [86, 65, 82, 80] then (1, 256) else
 if s = [67, 72, 79, 79, 83, 69] then (2, 256) else
 (-1, -1)
set_option maxRecDepth 100000 in
set_option maxHeartbeats 4000000 in
theorem takes_any (s : ByteArray) (w : World) : Calls Tryz.prog 175 #[.string s] w fun e w' => e = .returned (.agg #[.int .i64 (takesF s.toList).1, .int .i64 (takesF s.toList).2]) ∧ Gr w w' := by
 by_cases h0 : s.toList = [78, 65]
 · have e : takesF s.toList = (0, 0) := by rw [h0]; rfl
   rw [e]; exact takes_0 s w h0
 by_cases h1 : s.toList = [65, 66, 83]
 · have e : takesF s.toList = (1, 1) := by rw [h1]; rfl
   rw [e]; exact takes_1 s w h1
 by_cases h2 : s.toList = [73, 78, 84]
 · have e : takesF s.toList = (1, 1) := by rw [h2]; rfl
   rw [e]; exact takes_2 s w h2
 by_cases h3 : s.toList = [73, 83, 66, 76, 65, 78, 75]
 · have e : takesF s.toList = (1, 1) := by rw [h3]; rfl
   rw [e]; exact takes_3 s w h3
 by_cases h4 : s.toList = [73, 83, 69, 82, 82, 79, 82]
 · have e : takesF s.toList = (1, 1) := by rw [h4]; rfl
   rw [e]; exact takes_4 s w h4
 by_cases h5 : s.toList = [73, 83, 78, 85, 77, 66, 69, 82]
 · have e : takesF s.toList = (1, 1) := by rw [h5]; rfl
   rw [e]; exact takes_5 s w h5
 by_cases h6 : s.toList = [73, 83, 84, 69, 88, 84]
 · have e : takesF s.toList = (1, 1) := by rw [h6]; rfl
   rw [e]; exact takes_6 s w h6
 by_cases h7 : s.toList = [76, 69, 78]
 · have e : takesF s.toList = (1, 1) := by rw [h7]; rfl
   rw [e]; exact takes_7 s w h7
 by_cases h8 : s.toList = [78, 79, 84]
 · have e : takesF s.toList = (1, 1) := by rw [h8]; rfl
   rw [e]; exact takes_8 s w h8
 by_cases h9 : s.toList = [83, 73, 71, 78]
 · have e : takesF s.toList = (1, 1) := by rw [h9]; rfl
   rw [e]; exact takes_9 s w h9
 by_cases h10 : s.toList = [83, 73, 78, 71, 76, 69]
 · have e : takesF s.toList = (1, 1) := by rw [h10]; rfl
   rw [e]; exact takes_10 s w h10
 by_cases h11 : s.toList = [83, 81, 82, 84]
 · have e : takesF s.toList = (1, 1) := by rw [h11]; rfl
   rw [e]; exact takes_11 s w h11
 by_cases h12 : s.toList = [84, 82, 85, 78, 67]
 · have e : takesF s.toList = (1, 1) := by rw [h12]; rfl
   rw [e]; exact takes_12 s w h12
 by_cases h13 : s.toList = [86, 65, 76, 85, 69]
 · have e : takesF s.toList = (1, 1) := by rw [h13]; rfl
   rw [e]; exact takes_13 s w h13
 by_cases h14 : s.toList = [69, 88, 65, 67, 84]
 · have e : takesF s.toList = (2, 2) := by rw [h14]; rfl
   rw [e]; exact takes_14 s w h14
 by_cases h15 : s.toList = [73, 70, 69, 82, 82, 79, 82]
 · have e : takesF s.toList = (2, 2) := by rw [h15]; rfl
   rw [e]; exact takes_15 s w h15
 by_cases h16 : s.toList = [76, 65, 82, 71, 69]
 · have e : takesF s.toList = (2, 2) := by rw [h16]; rfl
   rw [e]; exact takes_16 s w h16
 by_cases h17 : s.toList = [76, 69, 70, 84]
 · have e : takesF s.toList = (2, 2) := by rw [h17]; rfl
   rw [e]; exact takes_17 s w h17
 by_cases h18 : s.toList = [77, 79, 68]
 · have e : takesF s.toList = (2, 2) := by rw [h18]; rfl
   rw [e]; exact takes_18 s w h18
 by_cases h19 : s.toList = [80, 69, 82, 67, 69, 78, 84, 73, 76, 69]
 · have e : takesF s.toList = (2, 2) := by rw [h19]; rfl
   rw [e]; exact takes_19 s w h19
 by_cases h20 : s.toList = [80, 79, 87, 69, 82]
 · have e : takesF s.toList = (2, 2) := by rw [h20]; rfl
   rw [e]; exact takes_20 s w h20
 by_cases h21 : s.toList = [82, 69, 80, 84]
 · have e : takesF s.toList = (2, 2) := by rw [h21]; rfl
   rw [e]; exact takes_21 s w h21
 by_cases h22 : s.toList = [82, 73, 71, 72, 84]
 · have e : takesF s.toList = (2, 2) := by rw [h22]; rfl
   rw [e]; exact takes_22 s w h22
 by_cases h23 : s.toList = [82, 79, 85, 78, 68]
 · have e : takesF s.toList = (2, 2) := by rw [h23]; rfl
   rw [e]; exact takes_23 s w h23
 by_cases h24 : s.toList = [82, 79, 85, 78, 68, 68, 79, 87, 78]
 · have e : takesF s.toList = (2, 2) := by rw [h24]; rfl
   rw [e]; exact takes_24 s w h24
 by_cases h25 : s.toList = [82, 79, 85, 78, 68, 69, 86, 69, 78]
 · have e : takesF s.toList = (2, 2) := by rw [h25]; rfl
   rw [e]; exact takes_25 s w h25
 by_cases h26 : s.toList = [82, 79, 85, 78, 68, 85, 80]
 · have e : takesF s.toList = (2, 2) := by rw [h26]; rfl
   rw [e]; exact takes_26 s w h26
 by_cases h27 : s.toList = [83, 77, 65, 76, 76]
 · have e : takesF s.toList = (2, 2) := by rw [h27]; rfl
   rw [e]; exact takes_27 s w h27
 by_cases h28 : s.toList = [83, 85, 77, 80, 82, 79, 68, 85, 67, 84]
 · have e : takesF s.toList = (2, 2) := by rw [h28]; rfl
   rw [e]; exact takes_28 s w h28
 by_cases h29 : s.toList = [84, 69, 88, 84]
 · have e : takesF s.toList = (2, 2) := by rw [h29]; rfl
   rw [e]; exact takes_29 s w h29
 by_cases h30 : s.toList = [73, 70]
 · have e : takesF s.toList = (2, 3) := by rw [h30]; rfl
   rw [e]; exact takes_30 s w h30
 by_cases h31 : s.toList = [82, 65, 78, 75]
 · have e : takesF s.toList = (2, 3) := by rw [h31]; rfl
   rw [e]; exact takes_31 s w h31
 by_cases h32 : s.toList = [67, 79, 85, 78, 84, 73, 70]
 · have e : takesF s.toList = (3, 3) := by rw [h32]; rfl
   rw [e]; exact takes_32 s w h32
 by_cases h33 : s.toList = [70, 85, 83, 69, 68]
 · have e : takesF s.toList = (3, 3) := by rw [h33]; rfl
   rw [e]; exact takes_33 s w h33
 by_cases h34 : s.toList = [77, 73, 68]
 · have e : takesF s.toList = (3, 3) := by rw [h34]; rfl
   rw [e]; exact takes_34 s w h34
 by_cases h35 : s.toList = [65, 78, 68]
 · have e : takesF s.toList = (1, 256) := by rw [h35]; rfl
   rw [e]; exact takes_35 s w h35
 by_cases h36 : s.toList = [65, 86, 69, 82, 65, 71, 69]
 · have e : takesF s.toList = (1, 256) := by rw [h36]; rfl
   rw [e]; exact takes_36 s w h36
 by_cases h37 : s.toList = [67, 79, 85, 78, 84]
 · have e : takesF s.toList = (1, 256) := by rw [h37]; rfl
   rw [e]; exact takes_37 s w h37
 by_cases h38 : s.toList = [67, 79, 85, 78, 84, 65]
 · have e : takesF s.toList = (1, 256) := by rw [h38]; rfl
   rw [e]; exact takes_38 s w h38
 by_cases h39 : s.toList = [74, 79, 73, 78]
 · have e : takesF s.toList = (1, 256) := by rw [h39]; rfl
   rw [e]; exact takes_39 s w h39
 by_cases h40 : s.toList = [77, 65, 88]
 · have e : takesF s.toList = (1, 256) := by rw [h40]; rfl
   rw [e]; exact takes_40 s w h40
 by_cases h41 : s.toList = [77, 69, 68, 73, 65, 78]
 · have e : takesF s.toList = (1, 256) := by rw [h41]; rfl
   rw [e]; exact takes_41 s w h41
 by_cases h42 : s.toList = [77, 73, 78]
 · have e : takesF s.toList = (1, 256) := by rw [h42]; rfl
   rw [e]; exact takes_42 s w h42
 by_cases h43 : s.toList = [77, 79, 68, 69]
 · have e : takesF s.toList = (1, 256) := by rw [h43]; rfl
   rw [e]; exact takes_43 s w h43
 by_cases h44 : s.toList = [79, 82]
 · have e : takesF s.toList = (1, 256) := by rw [h44]; rfl
   rw [e]; exact takes_44 s w h44
 by_cases h45 : s.toList = [83, 84, 68, 69, 86]
 · have e : takesF s.toList = (1, 256) := by rw [h45]; rfl
   rw [e]; exact takes_45 s w h45
 by_cases h46 : s.toList = [83, 84, 68, 69, 86, 80]
 · have e : takesF s.toList = (1, 256) := by rw [h46]; rfl
   rw [e]; exact takes_46 s w h46
 by_cases h47 : s.toList = [83, 85, 77]
 · have e : takesF s.toList = (1, 256) := by rw [h47]; rfl
   rw [e]; exact takes_47 s w h47
 by_cases h48 : s.toList = [83, 85, 77, 83, 81]
 · have e : takesF s.toList = (1, 256) := by rw [h48]; rfl
   rw [e]; exact takes_48 s w h48
 by_cases h49 : s.toList = [86, 65, 82]
 · have e : takesF s.toList = (1, 256) := by rw [h49]; rfl
   rw [e]; exact takes_49 s w h49
 by_cases h50 : s.toList = [86, 65, 82, 80]
 · have e : takesF s.toList = (1, 256) := by rw [h50]; rfl
   rw [e]; exact takes_50 s w h50
 by_cases h51 : s.toList = [67, 72, 79, 79, 83, 69]
 · have e : takesF s.toList = (2, 256) := by rw [h51]; rfl
   rw [e]; exact takes_51 s w h51
 have e : takesF s.toList = (-1, -1) := by unfold takesF; rw [if_neg h0, if_neg h1, if_neg h2, if_neg h3, if_neg h4, if_neg h5, if_neg h6, if_neg h7, if_neg h8, if_neg h9, if_neg h10, if_neg h11, if_neg h12, if_neg h13, if_neg h14, if_neg h15, if_neg h16, if_neg h17, if_neg h18, if_neg h19, if_neg h20, if_neg h21, if_neg h22, if_neg h23, if_neg h24, if_neg h25, if_neg h26, if_neg h27, if_neg h28, if_neg h29, if_neg h30, if_neg h31, if_neg h32, if_neg h33, if_neg h34, if_neg h35, if_neg h36, if_neg h37, if_neg h38, if_neg h39, if_neg h40, if_neg h41, if_neg h42, if_neg h43, if_neg h44, if_neg h45, if_neg h46, if_neg h47, if_neg h48, if_neg h49, if_neg h50, if_neg h51]
 rw [e]; exact takes_none s w (beq_eq_false_iff_ne.2 h0) (beq_eq_false_iff_ne.2 h1) (beq_eq_false_iff_ne.2 h2) (beq_eq_false_iff_ne.2 h3) (beq_eq_false_iff_ne.2 h4) (beq_eq_false_iff_ne.2 h5) (beq_eq_false_iff_ne.2 h6) (beq_eq_false_iff_ne.2 h7) (beq_eq_false_iff_ne.2 h8) (beq_eq_false_iff_ne.2 h9) (beq_eq_false_iff_ne.2 h10) (beq_eq_false_iff_ne.2 h11) (beq_eq_false_iff_ne.2 h12) (beq_eq_false_iff_ne.2 h13) (beq_eq_false_iff_ne.2 h14) (beq_eq_false_iff_ne.2 h15) (beq_eq_false_iff_ne.2 h16) (beq_eq_false_iff_ne.2 h17) (beq_eq_false_iff_ne.2 h18) (beq_eq_false_iff_ne.2 h19) (beq_eq_false_iff_ne.2 h20) (beq_eq_false_iff_ne.2 h21) (beq_eq_false_iff_ne.2 h22) (beq_eq_false_iff_ne.2 h23) (beq_eq_false_iff_ne.2 h24) (beq_eq_false_iff_ne.2 h25) (beq_eq_false_iff_ne.2 h26) (beq_eq_false_iff_ne.2 h27) (beq_eq_false_iff_ne.2 h28) (beq_eq_false_iff_ne.2 h29) (beq_eq_false_iff_ne.2 h30) (beq_eq_false_iff_ne.2 h31) (beq_eq_false_iff_ne.2 h32) (beq_eq_false_iff_ne.2 h33) (beq_eq_false_iff_ne.2 h34) (beq_eq_false_iff_ne.2 h35) (beq_eq_false_iff_ne.2 h36) (beq_eq_false_iff_ne.2 h37) (beq_eq_false_iff_ne.2 h38) (beq_eq_false_iff_ne.2 h39) (beq_eq_false_iff_ne.2 h40) (beq_eq_false_iff_ne.2 h41) (beq_eq_false_iff_ne.2 h42) (beq_eq_false_iff_ne.2 h43) (beq_eq_false_iff_ne.2 h44) (beq_eq_false_iff_ne.2 h45) (beq_eq_false_iff_ne.2 h46) (beq_eq_false_iff_ne.2 h47) (beq_eq_false_iff_ne.2 h48) (beq_eq_false_iff_ne.2 h49) (beq_eq_false_iff_ne.2 h50) (beq_eq_false_iff_ne.2 h51)
end Go.Proofs.YtdoeejhdenifpaaGreatDoor
namespace Go.Proofs.YtdoeejhdenifpaaGreatDoor
open Go.RowKit Go.Sort
def knownF (s : List UInt8) : Int × Int × Bool := if (takesF s).1 < 0 then (0, 0, false) else ((takesF s).1, (takesF s).2, true)
set_option maxRecDepth 100000 in
set_option maxHeartbeats 2000000 in
theorem Known_any (s : ByteArray) (w : World) :
    Calls Tryz.prog 161 #[.string s] w fun e w' => e = .returned (.tuple #[.int .i64 (knownF s.toList).1, .int .i64 (knownF s.toList).2.1, .bool (knownF s.toList).2.2]) ∧ Gr w w' := by
 have hc := takes_any s w
 have HC := Lib.hid hc
 generalize hn : knownF s.toList = ans
 have HA := Lib.hid hn
 unfold knownF at HA
 generalize takesF s.toList = tk at HC HA
 obtain ⟨t1, t2⟩ := tk
 simp only at HA
 clear hc hn
 go_enter Tryz.func161, Tryz.ntmps161
 go_wp2_with fail
 refine (HC.out).mono ?_
 rintro e w1 ⟨rfl, hg1⟩
 obtain ⟨w2, hw2⟩ : ∃ w2, w1.alloc (.cells #[.int .i64 t1, .int .i64 t2] 196) = w2 := ⟨_, rfl⟩
 have hg2 : Gr w1 w2 := by rw [← hw2]; exact (Gr.refl _).alloc _
 have e0 : w2.cell? ⟨w1.heap.size, 0, none⟩ = some (.int .i64 t1) := by rw [← hw2]; simp
 have e1 : w2.cell? ⟨w1.heap.size, 1, none⟩ = some (.int .i64 t2) := by rw [← hw2]; simp
 have HG2 := Lib.hid (hg1.trans hg2)
 clear hg2 hg1
 go_wp2_with fail
 · go_ret3
   refine ⟨?_, HG2.out⟩
   rw [← HA.out, if_pos (by assumption)]
   rfl
 · have i0 : (0 : Int) < (2 : Int) := by decide
   have i1 : (1 : Int) < (2 : Int) := by decide
   go_quiet (fail)
   go_wp2_with fail
   go_ret3
   refine ⟨?_, HG2.out.drewN _⟩
   rw [← HA.out, if_neg (by omega)]
   rfl
theorem valid_gr (c r : Int) (w : World) : Calls Tryz.prog 63 #[.agg #[.int .i64 c, .int .i64 r]] w fun e w' => e = .returned (.bool (validB c r)) ∧ Gr w w' :=
 (valid_any c r w).mono fun _ _ ⟨h1, h2⟩ => ⟨h1, h2 ▸ (Gr.refl _).alloc _⟩
set_option maxRecDepth 100000 in
set_option maxHeartbeats 2000000 in
theorem ValidArea_any (a1 a2 b1 b2 : Int) (w : World) :
    Calls Tryz.prog 40 #[.agg #[.int .i64 a1, .int .i64 a2, .int .i64 b1, .int .i64 b2]] w fun e w' => e = .returned (.bool (validB a1 a2 && validB b1 b2 && decide (a1 ≤ b1) && decide (a2 ≤ b2))) ∧ Gr w w' := by
 generalize hn : (validB a1 a2 && validB b1 b2 && decide (a1 ≤ b1) && decide (a2 ≤ b2)) = ans
 have HA := Lib.hid hn
 clear hn
 obtain ⟨w0, hw0⟩ : ∃ w0, w.alloc (.cells #[.int .i64 a1, .int .i64 a2, .int .i64 b1, .int .i64 b2] 26) = w0 := ⟨_, rfl⟩
 have hg0 : Gr w w0 := by rw [← hw0]; exact (Gr.refl _).alloc _
 have hs0 : w0.heap.size = w.heap.size + 1 := by rw [← hw0]; simp
 have c0 : w0.cell? ⟨w.heap.size, 0, none⟩ = some (.int .i64 a1) := by rw [← hw0]; simp
 have c1 : w0.cell? ⟨w.heap.size, 1, none⟩ = some (.int .i64 a2) := by rw [← hw0]; simp
 have c2 : w0.cell? ⟨w.heap.size, 2, none⟩ = some (.int .i64 b1) := by rw [← hw0]; simp
 have c3 : w0.cell? ⟨w.heap.size, 3, none⟩ = some (.int .i64 b2) := by rw [← hw0]; simp
 have HG0 := Lib.hid hg0
 have H1 := Lib.hid (valid_gr a1 a2)
 have H2 := Lib.hid (valid_gr b1 b2)
 clear hg0
 generalize hv1 : validB a1 a2 = v1 at H1 HA
 generalize hv2 : validB b1 b2 = v2 at H2 HA
 clear hv1 hv2
 go_enter Tryz.func40, Tryz.ntmps40
 go_wp2_with fail
 refine (H1.out _).mono ?_
 rintro e w1 ⟨rfl, hg1⟩
 have kk := fun o => (hg1.xt.cells).1 w.heap.size o (by omega)
 have k0 := (kk 0).trans c0
 have k1 := (kk 1).trans c1
 have k2 := (kk 2).trans c2
 have k3 := (kk 3).trans c3
 have hs1 : w.heap.size < w1.heap.size := by have := hg1.xt.sz; omega
 have HG1 := Lib.hid hg1
 clear hg1 kk c0 c1 c2 c3 hw0
 cases v1 with
 | false =>
  go_wp2_with fail
  go_ret
  exact ⟨by rw [← HA.out]; simp, HG0.out.trans HG1.out⟩
 | true =>
  go_wp2_with fail
  refine (H2.out _).mono ?_
  rintro e w2 ⟨rfl, hg2⟩
  have kk := fun o => (hg2.xt.cells).1 w.heap.size o (by omega)
  have l0 := (kk 0).trans k0
  have l1 := (kk 1).trans k1
  have l2 := (kk 2).trans k2
  have l3 := (kk 3).trans k3
  have HG2 := Lib.hid hg2
  clear hg2 kk k0 k1 k2 k3
  cases v2 with
  | false =>
   go_wp2_with fail
   go_ret
   exact ⟨by rw [← HA.out]; simp, (HG0.out.trans HG1.out).trans HG2.out⟩
  | true =>
   go_wp2_with fail
   all_goals (go_ret; exact ⟨by rw [← HA.out]; first | (simp [*]; done) | (simp [*]; omega), (HG0.out.trans HG1.out).trans HG2.out⟩)
end Go.Proofs.YtdoeejhdenifpaaGreatDoor
