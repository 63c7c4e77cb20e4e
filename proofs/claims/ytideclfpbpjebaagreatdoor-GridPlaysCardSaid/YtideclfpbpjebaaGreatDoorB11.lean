import Derived.Test.YtideclfpbpjebaaGreatDoorB5
import Derived.Deep.Cut
namespace Go.Proofs.YtideclfpbpjebaaGreatDoor
section
open Go.RowKit Go.Sort

def bareB (o x s b f r q g : Bool) (t : NodeT) : Bool := (o || decide (t.op = 0)) && (x || decide ((t.x : Int) = 0)) && (s || decide (t.s.toList = [])) && (b || !t.b) && (f || decide (t.f = 0)) &&
  (r || (decide (t.ref.a.1 = 0) && decide (t.ref.a.2 = 0) && !t.ref.cf && !t.ref.rf)) && (q || (decide (t.to.a.1 = 0) && decide (t.to.a.2 = 0) && !t.to.cf && !t.to.rf)) && (g || ((t.args.length : Int) == 0))
set_option maxRecDepth 100000 in
set_option maxHeartbeats 4000000 in
theorem bare_2 (t : NodeT) (a : Option Addr) (cap : Nat) (w : World) :
    Calls Tryz.prog 142 #[nodeV t a t.args.length cap, .int .i64 2] w fun e w' => e = .returned (.bool (bareB false true false false false false false false t)) ∧ Gr w w' := by
  obtain ⟨w0, hw0, hg0, hs0, hN⟩ := boxN w t a t.args.length cap 44
  obtain ⟨c0, c1, c2, c3, c4, c5, c6, c7, c8, c9, c10, c11, c12, c13, c14⟩ := hN
  simp only [Nat.zero_add] at c0 c1 c2 c3 c4 c5 c6 c7 c8 c9 c10 c11 c12 c13 c14
  have HG0 := Lib.hid hg0
  clear hg0
  generalize hn : bareB false true false false false false false false t = ans
  have HA := Lib.hid hn
  clear hn
  have m0 : bits .and .i64 2 1 = 0 := by decide
  have m1 : bits .and .i64 2 2 = 2 := by decide
  have m2 : bits .and .i64 2 4 = 0 := by decide
  have m3 : bits .and .i64 2 8 = 0 := by decide
  have m4 : bits .and .i64 2 16 = 0 := by decide
  have m5 : bits .and .i64 2 32 = 0 := by decide
  have m6 : bits .and .i64 2 64 = 0 := by decide
  have m7 : bits .and .i64 2 128 = 0 := by decide
  go_enter Tryz.func142, Tryz.ntmps142
  go_upto_region 2 with fail
  simp only [List.append_eq, List.cons_append, List.nil_append]
  clear hw0
  go_wp2_with fail
  all_goals (go_ret; refine ⟨?_, HG0.out.alloc _⟩; rw [← HA.out]; simp [bareB, *]; done)
set_option maxRecDepth 100000 in
set_option maxHeartbeats 4000000 in
theorem bare_4 (t : NodeT) (a : Option Addr) (cap : Nat) (w : World) :
    Calls Tryz.prog 142 #[nodeV t a t.args.length cap, .int .i64 4] w fun e w' => e = .returned (.bool (bareB false false true false false false false false t)) ∧ Gr w w' := by
  obtain ⟨w0, hw0, hg0, hs0, hN⟩ := boxN w t a t.args.length cap 44
  obtain ⟨c0, c1, c2, c3, c4, c5, c6, c7, c8, c9, c10, c11, c12, c13, c14⟩ := hN
  simp only [Nat.zero_add] at c0 c1 c2 c3 c4 c5 c6 c7 c8 c9 c10 c11 c12 c13 c14
  have HG0 := Lib.hid hg0
  clear hg0
  generalize hn : bareB false false true false false false false false t = ans
  have HA := Lib.hid hn
  clear hn
  have m0 : bits .and .i64 4 1 = 0 := by decide
  have m1 : bits .and .i64 4 2 = 0 := by decide
  have m2 : bits .and .i64 4 4 = 4 := by decide
  have m3 : bits .and .i64 4 8 = 0 := by decide
  have m4 : bits .and .i64 4 16 = 0 := by decide
  have m5 : bits .and .i64 4 32 = 0 := by decide
  have m6 : bits .and .i64 4 64 = 0 := by decide
  have m7 : bits .and .i64 4 128 = 0 := by decide
  go_enter Tryz.func142, Tryz.ntmps142
  go_upto_region 2 with fail
  simp only [List.append_eq, List.cons_append, List.nil_append]
  clear hw0
  go_wp2_with fail
  all_goals (go_ret; refine ⟨?_, HG0.out.alloc _⟩; rw [← HA.out]; simp [bareB, *]; done)
set_option maxRecDepth 100000 in
set_option maxHeartbeats 4000000 in
theorem bare_8 (t : NodeT) (a : Option Addr) (cap : Nat) (w : World) :
    Calls Tryz.prog 142 #[nodeV t a t.args.length cap, .int .i64 8] w fun e w' => e = .returned (.bool (bareB false false false true false false false false t)) ∧ Gr w w' := by
  obtain ⟨w0, hw0, hg0, hs0, hN⟩ := boxN w t a t.args.length cap 44
  obtain ⟨c0, c1, c2, c3, c4, c5, c6, c7, c8, c9, c10, c11, c12, c13, c14⟩ := hN
  simp only [Nat.zero_add] at c0 c1 c2 c3 c4 c5 c6 c7 c8 c9 c10 c11 c12 c13 c14
  have HG0 := Lib.hid hg0
  clear hg0
  generalize hn : bareB false false false true false false false false t = ans
  have HA := Lib.hid hn
  clear hn
  have m0 : bits .and .i64 8 1 = 0 := by decide
  have m1 : bits .and .i64 8 2 = 0 := by decide
  have m2 : bits .and .i64 8 4 = 0 := by decide
  have m3 : bits .and .i64 8 8 = 8 := by decide
  have m4 : bits .and .i64 8 16 = 0 := by decide
  have m5 : bits .and .i64 8 32 = 0 := by decide
  have m6 : bits .and .i64 8 64 = 0 := by decide
  have m7 : bits .and .i64 8 128 = 0 := by decide
  go_enter Tryz.func142, Tryz.ntmps142
  go_upto_region 2 with fail
  simp only [List.append_eq, List.cons_append, List.nil_append]
  clear hw0
  go_wp2_with fail
  all_goals (go_ret; refine ⟨?_, HG0.out.alloc _⟩; rw [← HA.out]; simp [bareB, *]; done)
set_option maxRecDepth 100000 in
set_option maxHeartbeats 4000000 in
theorem bare_16 (t : NodeT) (a : Option Addr) (cap : Nat) (w : World) :
    Calls Tryz.prog 142 #[nodeV t a t.args.length cap, .int .i64 16] w fun e w' => e = .returned (.bool (bareB false false false false true false false false t)) ∧ Gr w w' := by
  obtain ⟨w0, hw0, hg0, hs0, hN⟩ := boxN w t a t.args.length cap 44
  obtain ⟨c0, c1, c2, c3, c4, c5, c6, c7, c8, c9, c10, c11, c12, c13, c14⟩ := hN
  simp only [Nat.zero_add] at c0 c1 c2 c3 c4 c5 c6 c7 c8 c9 c10 c11 c12 c13 c14
  have HG0 := Lib.hid hg0
  clear hg0
  generalize hn : bareB false false false false true false false false t = ans
  have HA := Lib.hid hn
  clear hn
  have m0 : bits .and .i64 16 1 = 0 := by decide
  have m1 : bits .and .i64 16 2 = 0 := by decide
  have m2 : bits .and .i64 16 4 = 0 := by decide
  have m3 : bits .and .i64 16 8 = 0 := by decide
  have m4 : bits .and .i64 16 16 = 16 := by decide
  have m5 : bits .and .i64 16 32 = 0 := by decide
  have m6 : bits .and .i64 16 64 = 0 := by decide
  have m7 : bits .and .i64 16 128 = 0 := by decide
  go_enter Tryz.func142, Tryz.ntmps142
  go_upto_region 2 with fail
  simp only [List.append_eq, List.cons_append, List.nil_append]
  clear hw0
  go_wp2_with fail
  all_goals (go_ret; refine ⟨?_, HG0.out.alloc _⟩; rw [← HA.out]; simp [bareB, *]; done)
set_option maxRecDepth 100000 in
set_option maxHeartbeats 4000000 in
theorem bare_32 (t : NodeT) (a : Option Addr) (cap : Nat) (w : World) :
    Calls Tryz.prog 142 #[nodeV t a t.args.length cap, .int .i64 32] w fun e w' => e = .returned (.bool (bareB false false false false false true false false t)) ∧ Gr w w' := by
  obtain ⟨w0, hw0, hg0, hs0, hN⟩ := boxN w t a t.args.length cap 44
  obtain ⟨c0, c1, c2, c3, c4, c5, c6, c7, c8, c9, c10, c11, c12, c13, c14⟩ := hN
  simp only [Nat.zero_add] at c0 c1 c2 c3 c4 c5 c6 c7 c8 c9 c10 c11 c12 c13 c14
  have HG0 := Lib.hid hg0
  clear hg0
  generalize hn : bareB false false false false false true false false t = ans
  have HA := Lib.hid hn
  clear hn
  have m0 : bits .and .i64 32 1 = 0 := by decide
  have m1 : bits .and .i64 32 2 = 0 := by decide
  have m2 : bits .and .i64 32 4 = 0 := by decide
  have m3 : bits .and .i64 32 8 = 0 := by decide
  have m4 : bits .and .i64 32 16 = 0 := by decide
  have m5 : bits .and .i64 32 32 = 32 := by decide
  have m6 : bits .and .i64 32 64 = 0 := by decide
  have m7 : bits .and .i64 32 128 = 0 := by decide
  go_enter Tryz.func142, Tryz.ntmps142
  go_upto_region 2 with fail
  simp only [List.append_eq, List.cons_append, List.nil_append]
  clear hw0
  go_wp2_with fail
  all_goals (go_ret; refine ⟨?_, HG0.out.alloc _⟩; rw [← HA.out]; simp [bareB, *]; done)
set_option maxRecDepth 100000 in
set_option maxHeartbeats 4000000 in
theorem bare_96 (t : NodeT) (a : Option Addr) (cap : Nat) (w : World) :
    Calls Tryz.prog 142 #[nodeV t a t.args.length cap, .int .i64 96] w fun e w' => e = .returned (.bool (bareB false false false false false true true false t)) ∧ Gr w w' := by
  obtain ⟨w0, hw0, hg0, hs0, hN⟩ := boxN w t a t.args.length cap 44
  obtain ⟨c0, c1, c2, c3, c4, c5, c6, c7, c8, c9, c10, c11, c12, c13, c14⟩ := hN
  simp only [Nat.zero_add] at c0 c1 c2 c3 c4 c5 c6 c7 c8 c9 c10 c11 c12 c13 c14
  have HG0 := Lib.hid hg0
  clear hg0
  generalize hn : bareB false false false false false true true false t = ans
  have HA := Lib.hid hn
  clear hn
  have m0 : bits .and .i64 96 1 = 0 := by decide
  have m1 : bits .and .i64 96 2 = 0 := by decide
  have m2 : bits .and .i64 96 4 = 0 := by decide
  have m3 : bits .and .i64 96 8 = 0 := by decide
  have m4 : bits .and .i64 96 16 = 0 := by decide
  have m5 : bits .and .i64 96 32 = 32 := by decide
  have m6 : bits .and .i64 96 64 = 64 := by decide
  have m7 : bits .and .i64 96 128 = 0 := by decide
  go_enter Tryz.func142, Tryz.ntmps142
  go_upto_region 2 with fail
  simp only [List.append_eq, List.cons_append, List.nil_append]
  clear hw0
  go_wp2_with fail
  all_goals (go_ret; refine ⟨?_, HG0.out.alloc _⟩; rw [← HA.out]; simp [bareB, *]; done)
set_option maxRecDepth 100000 in
set_option maxHeartbeats 4000000 in
theorem bare_129 (t : NodeT) (a : Option Addr) (cap : Nat) (w : World) :
    Calls Tryz.prog 142 #[nodeV t a t.args.length cap, .int .i64 129] w fun e w' => e = .returned (.bool (bareB true false false false false false false true t)) ∧ Gr w w' := by
  obtain ⟨w0, hw0, hg0, hs0, hN⟩ := boxN w t a t.args.length cap 44
  obtain ⟨c0, c1, c2, c3, c4, c5, c6, c7, c8, c9, c10, c11, c12, c13, c14⟩ := hN
  simp only [Nat.zero_add] at c0 c1 c2 c3 c4 c5 c6 c7 c8 c9 c10 c11 c12 c13 c14
  have HG0 := Lib.hid hg0
  clear hg0
  generalize hn : bareB true false false false false false false true t = ans
  have HA := Lib.hid hn
  clear hn
  have m0 : bits .and .i64 129 1 = 1 := by decide
  have m1 : bits .and .i64 129 2 = 0 := by decide
  have m2 : bits .and .i64 129 4 = 0 := by decide
  have m3 : bits .and .i64 129 8 = 0 := by decide
  have m4 : bits .and .i64 129 16 = 0 := by decide
  have m5 : bits .and .i64 129 32 = 0 := by decide
  have m6 : bits .and .i64 129 64 = 0 := by decide
  have m7 : bits .and .i64 129 128 = 128 := by decide
  go_enter Tryz.func142, Tryz.ntmps142
  go_upto_region 2 with fail
  simp only [List.append_eq, List.cons_append, List.nil_append]
  clear hw0
  go_wp2_with fail
  all_goals (go_ret; refine ⟨?_, HG0.out.alloc _⟩; rw [← HA.out]; simp [bareB, *]; done)
set_option maxRecDepth 100000 in
set_option maxHeartbeats 4000000 in
theorem bare_132 (t : NodeT) (a : Option Addr) (cap : Nat) (w : World) :
    Calls Tryz.prog 142 #[nodeV t a t.args.length cap, .int .i64 132] w fun e w' => e = .returned (.bool (bareB false false true false false false false true t)) ∧ Gr w w' := by
  obtain ⟨w0, hw0, hg0, hs0, hN⟩ := boxN w t a t.args.length cap 44
  obtain ⟨c0, c1, c2, c3, c4, c5, c6, c7, c8, c9, c10, c11, c12, c13, c14⟩ := hN
  simp only [Nat.zero_add] at c0 c1 c2 c3 c4 c5 c6 c7 c8 c9 c10 c11 c12 c13 c14
  have HG0 := Lib.hid hg0
  clear hg0
  generalize hn : bareB false false true false false false false true t = ans
  have HA := Lib.hid hn
  clear hn
  have m0 : bits .and .i64 132 1 = 0 := by decide
  have m1 : bits .and .i64 132 2 = 0 := by decide
  have m2 : bits .and .i64 132 4 = 4 := by decide
  have m3 : bits .and .i64 132 8 = 0 := by decide
  have m4 : bits .and .i64 132 16 = 0 := by decide
  have m5 : bits .and .i64 132 32 = 0 := by decide
  have m6 : bits .and .i64 132 64 = 0 := by decide
  have m7 : bits .and .i64 132 128 = 128 := by decide
  go_enter Tryz.func142, Tryz.ntmps142
  go_upto_region 2 with fail
  simp only [List.append_eq, List.cons_append, List.nil_append]
  clear hw0
  go_wp2_with fail
  all_goals (go_ret; refine ⟨?_, HG0.out.alloc _⟩; rw [← HA.out]; simp [bareB, *]; done)
end
end Go.Proofs.YtideclfpbpjebaaGreatDoor
