import Derived.Test.YtideclfpbpjebaaGreatDoorB1
import Derived.Laws.Bits64b
namespace Go.Proofs.YtideclfpbpjebaaGreatDoor
section
open Go.RowKit Go.Sort

def refB (r q : RefT) : Bool := decide (r.a.1 = q.a.1) && decide (r.a.2 = q.a.2) && r.cf == q.cf && r.rf == q.rf
theorem run_eqRef (w : World) (r q : RefT) : (binOp .eql 41 (.agg #[.int .i64 r.a.1, .int .i64 r.a.2, .bool r.cf, .bool r.rf]) (.agg #[.int .i64 q.a.1, .int .i64 q.a.2, .bool q.cf, .bool q.rf])).run Tryz.prog w = .ok (.bool (refB r q)) w := by
  go_simp
  unfold refB
  (repeat' split) <;> simp [*]
attribute [go_sem high] run_eqRef
def alikeB (a b : NodeT) : Bool := decide (a.kind = b.kind) && decide (a.op = b.op) && decide (((oneX a.x : Nat) : Int) = ((oneX b.x : Nat) : Int)) && decide (a.s.toList = b.s.toList) && decide (a.b = b.b) && decide (a.f = b.f) && refB a.ref b.ref && refB a.to b.to
set_option maxRecDepth 100000 in
set_option maxHeartbeats 8000000 in
theorem alike_any (a b : NodeT) (aa ba : Option Addr) (ac bc : Nat) (w : World) :
    Calls Tryz.prog 100 #[nodeV a aa a.args.length ac, nodeV b ba b.args.length bc] w fun e w' => e = .returned (.bool (alikeB a b)) ∧ Gr w w' := by
  obtain ⟨w0, hw0, hg0, hs0, hN⟩ := boxN w a aa a.args.length ac 44
  obtain ⟨c0, c1, c2, c3, c4, c5, c6, c7, c8, c9, c10, c11, c12, c13, c14⟩ := hN
  obtain ⟨w1, hw1, hg1, hs1, hM⟩ := boxN w0 b ba b.args.length bc 44
  rw [hs0] at hM hs1
  obtain ⟨d0, d1, d2, d3, d4, d5, d6, d7, d8, d9, d10, d11, d12, d13, d14⟩ := hM
  simp only [Nat.zero_add] at c0 c1 c2 c3 c4 c5 c6 c7 c8 c9 c10 c11 c12 c13 c14 d0 d1 d2 d3 d4 d5 d6 d7 d8 d9 d10 d11 d12 d13 d14
  have cc := fun o => (hg1.xt.cells).1 w.heap.size o (by omega)
  have k0 := (cc 0).trans c0
  have k1 := (cc 1).trans c1
  have k2 := (cc 2).trans c2
  have k3 := (cc 3).trans c3
  have k4 := (cc 4).trans c4
  have k5 := (cc 5).trans c5
  have k6 := (cc 6).trans c6
  have k7 := (cc 7).trans c7
  have k8 := (cc 8).trans c8
  have k9 := (cc 9).trans c9
  have k10 := (cc 10).trans c10
  have k11 := (cc 11).trans c11
  have k12 := (cc 12).trans c12
  have k13 := (cc 13).trans c13
  have k14 := (cc 14).trans c14
  clear c0 c1 c2 c3 c4 c5 c6 c7 c8 c9 c10 c11 c12 c13 c14 cc
  have HG := Lib.hid (hg0.trans hg1)
  have hca := One_any a.x
  have hcb := One_any b.x
  have HCA := Lib.hid hca
  have HCB := Lib.hid hcb
  clear hg0 hg1 hca hcb
  generalize hn : alikeB a b = ans
  have HA := Lib.hid hn
  clear hn
  unfold alikeB at HA
  by_cases h0 : a.kind = b.kind
  rotate_left
  · have g0 : (a.kind == b.kind) = false := by simpa using h0
    have e0 : decide (a.kind = b.kind) = false := by simpa using h0
    go_enter Tryz.func100, Tryz.ntmps100
    go_wp2_with fail
    go_quiet (first | ((go_at_call 89; exact Calls.quiet_of_same ((HCA.out _).mono fun _ _ h => ⟨h.1, h.2.symm⟩))) | ((go_at_call 89; exact Calls.quiet_of_same ((HCB.out _).mono fun _ _ h => ⟨h.1, h.2.symm⟩))))
    go_wp2_with fail
    go_ret
    exact ⟨by rw [← HA.out]; simp [e0], by first | exact HG.out.drewN _ | exact (((Gr.refl _).alloc _).alloc _).drewN _⟩
  have g0 : (a.kind == b.kind) = true := by simpa using h0
  have E0 := Lib.hid h0
  clear h0
  by_cases h1 : a.op = b.op
  rotate_left
  · have g1 : (a.op == b.op) = false := by simpa using h1
    have e1 : decide (a.op = b.op) = false := by simpa using h1
    go_enter Tryz.func100, Tryz.ntmps100
    go_wp2_with fail
    go_quiet (first | ((go_at_call 89; exact Calls.quiet_of_same ((HCA.out _).mono fun _ _ h => ⟨h.1, h.2.symm⟩))) | ((go_at_call 89; exact Calls.quiet_of_same ((HCB.out _).mono fun _ _ h => ⟨h.1, h.2.symm⟩))))
    go_wp2_with fail
    go_ret
    exact ⟨by rw [← HA.out]; simp [E0.out, e1], by first | exact HG.out.drewN _ | exact (((Gr.refl _).alloc _).alloc _).drewN _⟩
  have g1 : (a.op == b.op) = true := by simpa using h1
  have E1 := Lib.hid h1
  clear h1
  by_cases h2 : ((oneX a.x : Nat) : Int) = ((oneX b.x : Nat) : Int)
  rotate_left
  · have g2 : (((oneX a.x : Nat) : Int) == ((oneX b.x : Nat) : Int)) = false := by simpa using h2
    have e2 : decide (((oneX a.x : Nat) : Int) = ((oneX b.x : Nat) : Int)) = false := by simpa using h2
    go_enter Tryz.func100, Tryz.ntmps100
    go_wp2_with fail
    go_quiet (first | ((go_at_call 89; exact Calls.quiet_of_same ((HCA.out _).mono fun _ _ h => ⟨h.1, h.2.symm⟩))) | ((go_at_call 89; exact Calls.quiet_of_same ((HCB.out _).mono fun _ _ h => ⟨h.1, h.2.symm⟩))))
    go_wp2_with fail
    go_ret
    exact ⟨by rw [← HA.out]; simp [E0.out, E1.out, e2], by first | exact HG.out.drewN _ | exact (((Gr.refl _).alloc _).alloc _).drewN _⟩
  have g2 : (((oneX a.x : Nat) : Int) == ((oneX b.x : Nat) : Int)) = true := by simpa using h2
  have E2 := Lib.hid h2
  clear h2
  by_cases h3 : a.s.toList = b.s.toList
  rotate_left
  · have g3 : (a.s.toList == b.s.toList) = false := by simpa using h3
    have e3 : decide (a.s.toList = b.s.toList) = false := by simpa using h3
    go_enter Tryz.func100, Tryz.ntmps100
    go_wp2_with fail
    go_quiet (first | ((go_at_call 89; exact Calls.quiet_of_same ((HCA.out _).mono fun _ _ h => ⟨h.1, h.2.symm⟩))) | ((go_at_call 89; exact Calls.quiet_of_same ((HCB.out _).mono fun _ _ h => ⟨h.1, h.2.symm⟩))))
    go_wp2_with fail
    go_ret
    exact ⟨by rw [← HA.out]; simp [E0.out, E1.out, E2.out, e3], by first | exact HG.out.drewN _ | exact (((Gr.refl _).alloc _).alloc _).drewN _⟩
  have g3 : (a.s.toList == b.s.toList) = true := by simpa using h3
  have E3 := Lib.hid h3
  clear h3
  by_cases h4 : a.b = b.b
  rotate_left
  · have g4 : (a.b == b.b) = false := by simpa using h4
    have e4 : decide (a.b = b.b) = false := by simpa using h4
    go_enter Tryz.func100, Tryz.ntmps100
    go_wp2_with fail
    go_quiet (first | ((go_at_call 89; exact Calls.quiet_of_same ((HCA.out _).mono fun _ _ h => ⟨h.1, h.2.symm⟩))) | ((go_at_call 89; exact Calls.quiet_of_same ((HCB.out _).mono fun _ _ h => ⟨h.1, h.2.symm⟩))))
    go_wp2_with fail
    go_ret
    exact ⟨by rw [← HA.out]; simp [E0.out, E1.out, E2.out, E3.out, e4], by first | exact HG.out.drewN _ | exact (((Gr.refl _).alloc _).alloc _).drewN _⟩
  have g4 : (a.b == b.b) = true := by simpa using h4
  have E4 := Lib.hid h4
  clear h4
  by_cases h5 : a.f = b.f
  rotate_left
  · have g5 : (a.f == b.f) = false := by simpa using h5
    have e5 : decide (a.f = b.f) = false := by simpa using h5
    go_enter Tryz.func100, Tryz.ntmps100
    go_wp2_with fail
    go_quiet (first | ((go_at_call 89; exact Calls.quiet_of_same ((HCA.out _).mono fun _ _ h => ⟨h.1, h.2.symm⟩))) | ((go_at_call 89; exact Calls.quiet_of_same ((HCB.out _).mono fun _ _ h => ⟨h.1, h.2.symm⟩))))
    go_wp2_with fail
    go_ret
    exact ⟨by rw [← HA.out]; simp [E0.out, E1.out, E2.out, E3.out, E4.out, e5], by first | exact HG.out.drewN _ | exact (((Gr.refl _).alloc _).alloc _).drewN _⟩
  have g5 : (a.f == b.f) = true := by simpa using h5
  have E5 := Lib.hid h5
  clear h5
  cases h6 : refB a.ref b.ref
  · go_enter Tryz.func100, Tryz.ntmps100
    go_wp2_with fail
    go_quiet (first | ((go_at_call 89; exact Calls.quiet_of_same ((HCA.out _).mono fun _ _ h => ⟨h.1, h.2.symm⟩))) | ((go_at_call 89; exact Calls.quiet_of_same ((HCB.out _).mono fun _ _ h => ⟨h.1, h.2.symm⟩))))
    go_wp2_with fail
    go_ret
    exact ⟨by rw [← HA.out]; simp [E0.out, E1.out, E2.out, E3.out, E4.out, E5.out, h6], by first | exact HG.out.drewN _ | exact (((Gr.refl _).alloc _).alloc _).drewN _⟩
  · go_enter Tryz.func100, Tryz.ntmps100
    go_wp2_with fail
    go_quiet (first | ((go_at_call 89; exact Calls.quiet_of_same ((HCA.out _).mono fun _ _ h => ⟨h.1, h.2.symm⟩))) | ((go_at_call 89; exact Calls.quiet_of_same ((HCB.out _).mono fun _ _ h => ⟨h.1, h.2.symm⟩))))
    go_wp2_with fail
    go_ret
    exact ⟨by rw [← HA.out]; simp [E0.out, E1.out, E2.out, E3.out, E4.out, E5.out, h6], by first | exact HG.out.drewN _ | exact (((Gr.refl _).alloc _).alloc _).drewN _⟩

/-! ### what is not heavy has short lists -/
mutual
def smallT : NodeT → Prop
  | .mk _ _ _ _ _ _ _ _ args => args.length ≤ 1099511627744 ∧ smallL args
def smallL : List NodeT → Prop
  | [] => True
  | t :: r => smallT t ∧ smallL r
end
mutual
theorem weightT_small : ∀ (t : NodeT) (m : Int), weightT t m ≤ m → 0 ≤ m → m ≤ 1048576 → smallT t
  | .mk _ _ _ _ _ _ _ _ args, m, h, h0, h1 => by
    simp only [weightT] at h
    obtain ⟨q1, q2⟩ := weightL_small args 1 m h (by omega) h1
    simp only [smallT]
    exact ⟨by omega, q1⟩
theorem weightL_small : ∀ (l : List NodeT) (all m : Int), weightL l all m ≤ m → 1 ≤ all → m ≤ 1048576 → smallL l ∧ all + l.length ≤ m
  | [], all, m, h, h0, h1 => by simp only [weightL] at h; simp only [smallL]; simp; omega
  | t :: r, all, m, h, h0, h1 => by
    simp only [weightL] at h
    by_cases hc : all ≤ m
    · rw [if_pos hc] at h
      have hw := weightT_le t (m - all) (by omega)
      obtain ⟨q1, q2⟩ := weightL_small r _ m h (by omega) h1
      have q3 := weightT_small t (m - all) (by omega) (by omega) (by omega)
      simp only [smallL, List.length_cons]
      exact ⟨⟨q3, q1⟩, by omega⟩
    · rw [if_neg hc] at h; omega
end
theorem smallL_at : ∀ {l : List NodeT} {k : Nat} {t : NodeT}, smallL l → l[k]? = some t → smallT t
  | _ :: _, 0, _, h, e => by simp only [smallL] at h; cases e; exact h.1
  | _ :: _, k + 1, _, h, e => by simp only [smallL] at h; exact smallL_at (k := k) h.2 e
theorem smallT_args {t : NodeT} (h : smallT t) : t.args.length ≤ 1099511627744 ∧ smallL t.args := by cases t; simp only [smallT] at h; exact h

def nanX (x : Nat) : Bool := decide (9218868437227405312 < x % 9223372036854775808)
theorem compare_self (i : Int) : compare i i = Ordering.eq := Int.compare_eq_eq.2 rfl
theorem order_self (x : Nat) : ((FloatKind.format .f64).order x x != some .eq) = nanX x := by
  have e : (FloatKind.format .f64).signWeight = 9223372036854775808 := by decide
  have e2 : (FloatKind.format .f64).infRung = 9218868437227405312 := by decide
  have e3 : (FloatKind.format .f64).binade ≤ 9218868437227405312 := by decide
  unfold Ieee.Format.order Ieee.Format.read nanX
  simp only [e, e2]
  generalize x % 9223372036854775808 = r
  by_cases h1 : r < (FloatKind.format .f64).binade
  · rw [if_pos h1]
    simp only [Ieee.Datum.order, compare_self]
    have : ¬ 9218868437227405312 < r := by omega
    simp [this]
  · rw [if_neg h1]
    by_cases h2 : r < 9218868437227405312
    · rw [if_pos h2]
      simp only [Ieee.Datum.order, compare_self]
      have : ¬ 9218868437227405312 < r := by omega
      simp [this]
    · rw [if_neg h2]
      by_cases h3 : r = 9218868437227405312
      · rw [if_pos h3]
        have : ¬ 9218868437227405312 < r := by omega
        simp [this, Ieee.Datum.order]
      · rw [if_neg h3]
        have : 9218868437227405312 < r := by omega
        simp [this, Ieee.Datum.order]
theorem oneX_eq (x : Nat) : oneX x = if nanX x = true then 9221120237041090560 else x := by
  unfold oneX; rw [order_self]
theorem andNot_sign (x : Nat) : bits .andNot .u64 (x : Int) 9223372036854775808 = ((x % 9223372036854775808 : Nat) : Int) := by
  show IntKind.u64.wrap ((BitVec.ofInt 64 (x : Int) &&& ~~~BitVec.ofInt 64 9223372036854775808).toNat : Int) = _
  have h1 : (~~~BitVec.ofInt 64 9223372036854775808).toNat = 2 ^ 63 - 1 := by decide
  have h2 : (BitVec.ofInt 64 (x : Int)).toNat = x % 18446744073709551616 := by
    rw [BitVec.ofInt_natCast, BitVec.toNat_ofNat]
  rw [BitVec.toNat_and, h1, h2, Nat.and_two_pow_sub_one_eq_mod, IntKind.wrap_u64]
  omega
theorem finite01_any (x : Nat) (w : World) : Calls Tryz.prog 141 #[.int .u64 x] w fun e w' => e = .returned (.bool (decide (x % 9223372036854775808 < 9218868437227405312))) ∧ w = w' := by
  have h := Lib.hid (andNot_sign x)
  go_enter Tryz.func141, Tryz.ntmps141
  go_wp2
  go_ret
  refine ⟨?_, rfl⟩
  rw [h.out]
  show Ending.returned (Value.bool _) = _
  exact congrArg (fun b => Ending.returned (Value.bool b)) (decide_eq_decide.2 (by omega))
end
end Go.Proofs.YtideclfpbpjebaaGreatDoor
