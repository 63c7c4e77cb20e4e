import Derived.Test.YtideclfpbpjebaaGreatDoorB3
import Derived.Laws.Rows
import Derived.Lib.ValidLaws
import Derived.Lib.Bytealg
import Derived.Lib.Hide
namespace Go.Proofs.YtideclfpbpjebaaGreatDoor
section
open Go.RowKit Go.Sort

def takesF (s : List UInt8) : Int × Int :=
  if s = [78, 65] then (0, 0) else
  if s = [65, 66, 83] then (1, 1) else
  if s = [73, 78, 84] then (1, 1) else
  if s = [73, 83, 66, 76, 65, 78, 75] then (1, 1) else
  if s = [73, 83, 69, 82, 82, 79, 82] then (1, 1) else
  if s = [73, 83, 78, 85, 77, 66, 69, 82] then (1, 1) else
  if s = [73, 83, 84, 69, 88, 84] then (1, 1) else
  if s = [76, 69, 78] then (1, 1) else
  if s = [78, 79, 84] then (1, 1) else
  if s = [83, 73, 71, 78] then (1, 1) else
  if s = [83, 73, 78, 71, 76, 69] then (1, 1) else
  if s = [83, 81, 82, 84] then (1, 1) else
  if s = [84, 82, 85, 78, 67] then (1, 1) else
  if s = [86, 65, 76, 85, 69] then (1, 1) else
  if s = [69, 88, 65, 67, 84] then (2, 2) else
  if s = [73, 70, 69, 82, 82, 79, 82] then (2, 2) else
  if s = [76, 65, 82, 71, 69] then (2, 2) else
  if s = [76, 69, 70, 84] then (2, 2) else
  if s = [77, 79, 68] then (2, 2) else
  if s = [80, 69, 82, 67, 69, 78, 84, 73, 76, 69] then (2, 2) else
  if s = [80, 79, 87, 69, 82] then (2, 2) else
  if s = [82, 69, 80, 84] then (2, 2) else
  if s = [82, 73, 71, 72, 84] then (2, 2) else
  if s = [82, 79, 85, 78, 68] then (2, 2) else
  if s = [82, 79, 85, 78, 68, 68, 79, 87, 78] then (2, 2) else
  if s = [82, 79, 85, 78, 68, 69, 86, 69, 78] then (2, 2) else
  if s = [82, 79, 85, 78, 68, 85, 80] then (2, 2) else
  if s = [83, 77, 65, 76, 76] then (2, 2) else
  if s = [83, 85, 77, 80, 82, 79, 68, 85, 67, 84] then (2, 2) else
  if s = [84, 69, 88, 84] then (2, 2) else
  if s = [73, 70] then (2, 3) else
  if s = [82, 65, 78, 75] then (2, 3) else
  if s = [67, 79, 85, 78, 84, 73, 70] then (3, 3) else
  if s = [70, 85, 83, 69, 68] then (3, 3) else
  if s = [77, 73, 68] then (3, 3) else
  if s = [65, 78, 68] then (1, 256) else
  if s = [65, 86, 69, 82, 65, 71, 69] then (1, 256) else
  if s = [67, 79, 85, 78, 84] then (1, 256) else
  if s = [67, 79, 85, 78, 84, 65] then (1, 256) else
  if s = [74, 79, 73, 78] then (1, 256) else
  if s = [77, 65, 88] then (1, 256) else
  if s = [77, 69, 68, 73, 65, 78] then (1, 256) else
  if s = [77, 73, 78] then (1, 256) else
  if s = [77, 79, 68, 69] then (1, 256) else
  if s = [79, 82] then (1, 256) else
  if s = [83, 84, 68, 69, 86] then (1, 256) else
  if s = [83, 84, 68, 69, 86, 80] then (1, 256) else
  if s = [83, 85, 77] then (1, 256) else
  if s = [83, 85, 77, 83, 81] then (1, 256) else
  if s = [86, 65, 82] then (1, 256) else
  if s = [86, 65, 82, 80] then (1, 256) else
  if s = [67, 72, 79, 79, 83, 69] then (2, 256) else
  (-1, -1)
set_option maxRecDepth 100000 in
set_option maxHeartbeats 64000000 in
theorem takes_any (s : ByteArray) (w : World) : Calls Tryz.prog 128 #[.string s] w fun e w' => e = .returned (.agg #[.int .i64 (takesF s.toList).1, .int .i64 (takesF s.toList).2]) ∧ Gr w w' := by
  cases f0 : s.toList == [78, 65];cases f1 : s.toList == [65, 66, 83];cases f2 : s.toList == [73, 78, 84];cases f3 : s.toList == [73, 83, 66, 76, 65, 78, 75];cases f4 : s.toList == [73, 83, 69, 82, 82, 79, 82];cases f5 : s.toList == [73, 83, 78, 85, 77, 66, 69, 82];cases f6 : s.toList == [73, 83, 84, 69, 88, 84];cases f7 : s.toList == [76, 69, 78];cases f8 : s.toList == [78, 79, 84];cases f9 : s.toList == [83, 73, 71, 78];cases f10 : s.toList == [83, 73, 78, 71, 76, 69];cases f11 : s.toList == [83, 81, 82, 84];cases f12 : s.toList == [84, 82, 85, 78, 67];cases f13 : s.toList == [86, 65, 76, 85, 69];cases f14 : s.toList == [69, 88, 65, 67, 84];cases f15 : s.toList == [73, 70, 69, 82, 82, 79, 82];cases f16 : s.toList == [76, 65, 82, 71, 69];cases f17 : s.toList == [76, 69, 70, 84];cases f18 : s.toList == [77, 79, 68];cases f19 : s.toList == [80, 69, 82, 67, 69, 78, 84, 73, 76, 69];cases f20 : s.toList == [80, 79, 87, 69, 82];cases f21 : s.toList == [82, 69, 80, 84];cases f22 : s.toList == [82, 73, 71, 72, 84];cases f23 : s.toList == [82, 79, 85, 78, 68];cases f24 : s.toList == [82, 79, 85, 78, 68, 68, 79, 87, 78];cases f25 : s.toList == [82, 79, 85, 78, 68, 69, 86, 69, 78];cases f26 : s.toList == [82, 79, 85, 78, 68, 85, 80];cases f27 : s.toList == [83, 77, 65, 76, 76];cases f28 : s.toList == [83, 85, 77, 80, 82, 79, 68, 85, 67, 84];cases f29 : s.toList == [84, 69, 88, 84];cases f30 : s.toList == [73, 70];cases f31 : s.toList == [82, 65, 78, 75];cases f32 : s.toList == [67, 79, 85, 78, 84, 73, 70];cases f33 : s.toList == [70, 85, 83, 69, 68];cases f34 : s.toList == [77, 73, 68];cases f35 : s.toList == [65, 78, 68];cases f36 : s.toList == [65, 86, 69, 82, 65, 71, 69];cases f37 : s.toList == [67, 79, 85, 78, 84];cases f38 : s.toList == [67, 79, 85, 78, 84, 65];cases f39 : s.toList == [74, 79, 73, 78];cases f40 : s.toList == [77, 65, 88];cases f41 : s.toList == [77, 69, 68, 73, 65, 78];cases f42 : s.toList == [77, 73, 78];cases f43 : s.toList == [77, 79, 68, 69];cases f44 : s.toList == [79, 82];cases f45 : s.toList == [83, 84, 68, 69, 86];cases f46 : s.toList == [83, 84, 68, 69, 86, 80];cases f47 : s.toList == [83, 85, 77];cases f48 : s.toList == [83, 85, 77, 83, 81];cases f49 : s.toList == [86, 65, 82];cases f50 : s.toList == [86, 65, 82, 80];cases f51 : s.toList == [67, 72, 79, 79, 83, 69]
  have e : takesF s.toList = (-1, -1) := by unfold takesF; (iterate 52 refine Eq.trans (if_neg (ne_of_beq_false (by assumption))) ?_); rfl
  rw [e]; clear e
  all_goals go_enter Tryz.func128, Tryz.ntmps128
  all_goals go_wp2_with fail
  all_goals (try simp only [Exit.inBlock, Exit.then])
  all_goals refine bodyPost_ret (results_cell_row rfl _ _ w.heap.size _ _ _ _ rfl (heap_alloc_new _ _) Tryz.underlying158 rfl (by kernel_rfl)) rfl ⟨?_, (Gr.refl _).alloc _⟩
  all_goals first | rfl | (rw [eq_of_beq ‹(s.toList == _) = true›]; rfl)

def knownF (s : List UInt8) : Int × Int × Bool := if (takesF s).1 < 0 then (0, 0, false) else ((takesF s).1, (takesF s).2, true)
set_option maxRecDepth 100000 in
set_option maxHeartbeats 2000000 in
theorem Known_any (s : ByteArray) (w : World) :
    Calls Tryz.prog 109 #[.string s] w fun e w' => e = .returned (.tuple #[.int .i64 (knownF s.toList).1, .int .i64 (knownF s.toList).2.1, .bool (knownF s.toList).2.2]) ∧ Gr w w' := by
  have hc := takes_any s w
  have HC := Lib.hid hc
  generalize hn : knownF s.toList = ans
  have HA := Lib.hid hn
  unfold knownF at HA
  generalize takesF s.toList = tk at HC HA
  obtain ⟨t1, t2⟩ := tk
  simp only at HA
  clear hc hn
  go_enter Tryz.func109, Tryz.ntmps109
  go_wp2_with fail
  refine (HC.out).mono ?_
  rintro e w1 ⟨rfl, hg1⟩
  obtain ⟨w2, hw2⟩ : ∃ w2, w1.alloc (.cells #[.int .i64 t1, .int .i64 t2] 158) = w2 := ⟨_, rfl⟩
  have hg2 : Gr w1 w2 := by rw [← hw2]; exact (Gr.refl _).alloc _
  have e0 : w2.cell? ⟨w1.heap.size, 0, none⟩ = some (.int .i64 t1) := by rw [← hw2]; simp
  have e1 : w2.cell? ⟨w1.heap.size, 1, none⟩ = some (.int .i64 t2) := by rw [← hw2]; simp
  have HG2 := Lib.hid (hg1.trans hg2)
  clear hg2 hg1
  go_wp2_with fail
  · go_ret3
    refine ⟨?_, HG2.out⟩
    rw [← HA.out, if_pos (by assumption)]
    rfl
  · have i0 : (0 : Int) < (2 : Int) := by decide
    have i1 : (1 : Int) < (2 : Int) := by decide
    go_quiet (fail)
    go_wp2_with fail
    go_ret3
    refine ⟨?_, HG2.out.drewN _⟩
    rw [← HA.out, if_neg (by omega)]
    rfl
theorem valid_gr (c r : Int) (w : World) : Calls Tryz.prog 37 #[.agg #[.int .i64 c, .int .i64 r]] w fun e w' => e = .returned (.bool (validB c r)) ∧ Gr w w' :=
  (valid_any c r w).mono fun _ _ ⟨h1, h2⟩ => ⟨h1, h2 ▸ (Gr.refl _).alloc _⟩
set_option maxRecDepth 100000 in
set_option maxHeartbeats 2000000 in
theorem ValidArea_any (a1 a2 b1 b2 : Int) (w : World) :
    Calls Tryz.prog 74 #[.agg #[.int .i64 a1, .int .i64 a2, .int .i64 b1, .int .i64 b2]] w fun e w' => e = .returned (.bool (validB a1 a2 && validB b1 b2 && decide (a1 ≤ b1) && decide (a2 ≤ b2))) ∧ Gr w w' := by
  generalize hn : (validB a1 a2 && validB b1 b2 && decide (a1 ≤ b1) && decide (a2 ≤ b2)) = ans
  have HA := Lib.hid hn
  clear hn
  obtain ⟨w0, hw0⟩ : ∃ w0, w.alloc (.cells #[.int .i64 a1, .int .i64 a2, .int .i64 b1, .int .i64 b2] 48) = w0 := ⟨_, rfl⟩
  have hg0 : Gr w w0 := by rw [← hw0]; exact (Gr.refl _).alloc _
  have hs0 : w0.heap.size = w.heap.size + 1 := by rw [← hw0]; simp
  have c0 : w0.cell? ⟨w.heap.size, 0, none⟩ = some (.int .i64 a1) := by rw [← hw0]; simp
  have c1 : w0.cell? ⟨w.heap.size, 1, none⟩ = some (.int .i64 a2) := by rw [← hw0]; simp
  have c2 : w0.cell? ⟨w.heap.size, 2, none⟩ = some (.int .i64 b1) := by rw [← hw0]; simp
  have c3 : w0.cell? ⟨w.heap.size, 3, none⟩ = some (.int .i64 b2) := by rw [← hw0]; simp
  have HG0 := Lib.hid hg0
  have H1 := Lib.hid (valid_gr a1 a2)
  have H2 := Lib.hid (valid_gr b1 b2)
  clear hg0
  generalize hv1 : validB a1 a2 = v1 at H1 HA
  generalize hv2 : validB b1 b2 = v2 at H2 HA
  clear hv1 hv2
  go_enter Tryz.func74, Tryz.ntmps74
  go_wp2_with fail
  refine (H1.out _).mono ?_
  rintro e w1 ⟨rfl, hg1⟩
  have kk := fun o => (hg1.xt.cells).1 w.heap.size o (by omega)
  have k0 := (kk 0).trans c0
  have k1 := (kk 1).trans c1
  have k2 := (kk 2).trans c2
  have k3 := (kk 3).trans c3
  have hs1 : w.heap.size < w1.heap.size := by have := hg1.xt.sz; omega
  have HG1 := Lib.hid hg1
  clear hg1 kk c0 c1 c2 c3 hw0
  cases v1 with
  | false =>
    go_wp2_with fail
    go_ret
    exact ⟨by rw [← HA.out]; simp, HG0.out.trans HG1.out⟩
  | true =>
    go_wp2_with fail
    refine (H2.out _).mono ?_
    rintro e w2 ⟨rfl, hg2⟩
    have kk := fun o => (hg2.xt.cells).1 w.heap.size o (by omega)
    have l0 := (kk 0).trans k0
    have l1 := (kk 1).trans k1
    have l2 := (kk 2).trans k2
    have l3 := (kk 3).trans k3
    have HG2 := Lib.hid hg2
    clear hg2 kk k0 k1 k2 k3
    cases v2 with
    | false =>
      go_wp2_with fail
      go_ret
      exact ⟨by rw [← HA.out]; simp, (HG0.out.trans HG1.out).trans HG2.out⟩
    | true =>
      go_wp2_with fail
      all_goals (go_ret; exact ⟨by rw [← HA.out]; first | (simp [*]; done) | (simp [*]; omega), (HG0.out.trans HG1.out).trans HG2.out⟩)

@[go_sem] theorem run_store_float {P : Program} (w : World) (a : Addr) (m : Mode) (k : FloatKind) (b : Nat) : (store a (.float k b) m).run P w = stored P w a (.float k b) m := run_store P w a _ m rfl
/-! ### measure -/
mutual
def measT : NodeT → Int × Int
  | .mk _ _ _ _ _ _ _ _ args => (wrap64 ((measL args 0 0).1 + 1), wrap64 ((measL args 0 0).2 + 1))
def measL : List NodeT → Int → Int → Int × Int
  | [], n, d => (n, d)
  | t :: r, n, d => measL r (wrap64 (n + (measT t).1)) (max d (measT t).2)
end
theorem measT_eq (t : NodeT) : measT t = (wrap64 ((measL t.args 0 0).1 + 1), wrap64 ((measL t.args 0 0).2 + 1)) := by cases t; simp [measT, NodeT.args]
set_option maxRecDepth 100000 in
set_option maxHeartbeats 4000000 in
theorem measure_any : ∀ (n : Nat) (t : NodeT) (a : Option Addr) (cap : Nat) (w : World), ArgsIn w n (.slice a t.args.length cap) t.args →
    Calls Tryz.prog 87 #[nodeV t a t.args.length cap] w fun e w' => e = .returned (.tuple #[.int .i64 (measT t).1, .int .i64 (measT t).2]) ∧ Gr w w' := by
  intro n
  induction n using Nat.strongRecOn with
  | ind n ih =>
    intro t a cap w hin
    have HIN := Lib.hid hin
    obtain ⟨_, _, he, q1, q2⟩ := hin.shape
    cases he
    have IH := Lib.hid ih
    obtain ⟨w0, hw0, hg0, hs0, hN⟩ := boxN w t a t.args.length cap 44
    have HG0 := Lib.hid hg0
    have HN := Lib.hid hN
    have c14 := hN.c14
    rw [Nat.zero_add] at c14
    generalize hmt : measT t = mt
    have HM := Lib.hid hmt
    have HW : Hid (measL (t.args.drop 0) 0 0 = measL t.args 0 0) := by rw [List.drop_zero]; rfl
    clear hin hN hg0 ih hmt
    go_enter Tryz.func87, Tryz.ntmps87
    go_wp2_with fail
    clear hw0
    go_loopw [2, 3, 11] (fun s2 s3 s11 wr => ∃ (i : Nat) (x y : Int), i ≤ t.args.length ∧ s11 = .int .i64 i ∧ s2 = .int .i64 x ∧ s3 = .int .i64 y ∧ Hid (measL (t.args.drop i) x y = measL t.args 0 0) ∧ Hid (Gr w0 wr)) (fun _ _ s11 _ => t.args.length - (intOf s11).toNat)
    case atStart => exact ⟨0, 0, 0, Nat.zero_le _, rfl, rfl, rfl, HW, Gr.refl _⟩
    case round =>
      obtain ⟨i, x, y, hi, rfl, rfl, rfl, HWi, HG⟩ := hrel
      by_cases hlt : i < t.args.length
      · have hii : (i : Int) < (t.args.length : Int) := by omega
        obtain ⟨u, hx⟩ : ∃ u, t.args[i]? = some u := ⟨t.args[i], by simp [hlt]⟩
        have hdr := drop_at hx
        obtain ⟨n', b, off, a', c', hn, rfl, hA, hI⟩ := HIN.out.at hx
        have hxw : Xt w wr := HG0.out.xt.trans HG.out.xt
        obtain ⟨d0, d1, d2, d3, d4, d5, d6, d7, d8, d9, d10, d11, d12, d13, d14⟩ := hA.xt hxw
        obtain ⟨w1, hw1, hg1, hs1, hB⟩ := boxN wr u a' u.args.length c' 44
        obtain ⟨e0, e1, e2, e3, e4, e5, e6, e7, e8, e9, e10, e11, e12, e13, e14⟩ := hB
        simp only [Nat.zero_add] at e0 e1 e2 e3 e4 e5 e6 e7 e8 e9 e10 e11 e12 e13 e14
        have hcall := IH.out n' (by omega) u a' c' w1 ((hI.xt hxw).xt hg1.xt)
        have HSTEP : Hid (measL (t.args.drop (i + 1)) (wrap64 (x + (measT u).1)) (max y (measT u).2) = measL t.args 0 0) := by
          have h := HWi.out
          rw [hdr] at h
          simp only [measL] at h
          exact h
        have HCALL := Lib.hid hcall
        have HG1 := Lib.hid hg1
        generalize measT u = mu at HSTEP HCALL
        obtain ⟨m1, m2⟩ := mu
        simp only at HSTEP HCALL
        clear hx hdr hA hI hn hcall hxw hg1
        go_wp2_with fail
        refine (HCALL.out).mono ?_
        rintro e w2 ⟨rfl, hg2⟩
        have HG2 := Lib.hid hg2
        clear hg2 d0 d1 d2 d3 d4 d5 d6 d7 d8 d9 d10 d11 d12 d13 d14 e0 e1 e2 e3 e4 e5 e6 e7 e8 e9 e10 e11 e12 e13 e14
        go_wp2_with fail
        go_roundw
        case rel => exact ⟨i + 1, _, _, by omega, by go_num, rfl, rfl, (by first | exact HSTEP | (rw [show (if y < m2 then m2 else y) = max y m2 from by omega]; exact HSTEP)), (HG.out.trans HG1.out).trans HG2.out⟩
        case measure => simp [intOf]; omega
      · have HE : Hid ((x, y) = measL t.args 0 0) := by
          have h := HWi.out
          rw [List.drop_eq_nil_of_le (by omega)] at h
          simp only [measL] at h
          exact h
        go_wp2_with fail
        go_ret2
        refine ⟨?_, HG0.out.trans HG.out⟩
        rw [← HM.out, measT_eq, ← HE.out]
        rfl

theorem Tabs.xt {w w' : World} (h : Tabs w) (hx : Xt w w') : Tabs w' := by
  refine ⟨fun c hc => ?_, fun i hi => ⟨?_, ?_⟩⟩
  · exact ((hx.cells).1 _ _ (World.block_lt_of_cell? w _ (h.1 c hc))).trans (h.1 c hc)
  · exact ((hx.cells).1 _ _ (World.block_lt_of_cell? w _ (h.2 i hi).1)).trans (h.2 i hi).1
  · exact ((hx.cells).1 _ _ (World.block_lt_of_cell? w _ (h.2 i hi).2)).trans (h.2 i hi).2
/-! ### made -/
abbrev nodeW (k op : Int) (x : Nat) (s : ByteArray) (b : Bool) (f : Int) (r q : RefT) (a : Option Addr) (n cap : Nat) : Value :=
  .agg #[.int .i64 k, .int .i64 op, .float .f64 x, .string s, .bool b, .int .i64 f, .int .i64 r.a.1, .int .i64 r.a.2, .bool r.cf, .bool r.rf, .int .i64 q.a.1, .int .i64 q.a.2, .bool q.cf, .bool q.rf, .slice a n cap]
abbrev zR : RefT := ⟨(0, 0), false, false⟩

set_option maxRecDepth 100000 in
set_option maxHeartbeats 2000000 in
theorem OfNumber_any (x : Nat) (w : World) :
    Calls Tryz.prog 64 #[.float .f64 x] w fun e w' => e = .returned (.agg #[.int .i64 1, .float .f64 (oneX x), .string ⟨#[]⟩, .bool false, .int .i64 0]) ∧ Gr w w' := by
  have H1 := Lib.hid (One_any x)
  generalize oneX x = ox at H1 ⊢
  go_enter Tryz.func64, Tryz.ntmps64
  go_wp2_with (refine (H1.out _).mono ?_; rintro e w' ⟨rfl, rfl⟩)
  (try simp only [Exit.inBlock, Exit.then])
  refine bodyPost_ret (results_cell_row rfl _ _ w.heap.size _ _ _ _ rfl (heap_alloc_new _ _) Tryz.underlying39 rfl (by kernel_rfl)) rfl ?_
  exact ⟨rfl, (Gr.refl _).alloc _⟩
set_option maxRecDepth 100000 in
set_option maxHeartbeats 2000000 in
theorem ClipNode_any (a : Option Addr) (n cap : Nat) (w : World) (h : n ≤ cap) (_hc : cap ≤ 9223372036854775807) :
    Calls Tryz.prog 90 #[.slice a n cap] w fun e w' => e = .returned (.slice a n n) ∧ w = w' := by
  have h0 : (0 : Int) ≤ (n : Int) := by omega
  have h1 : (n : Int) ≤ (cap : Int) := by omega
  have h2 : (n : Int) ≤ (n : Int) := by omega
  go_enter Tryz.func90, Tryz.ntmps90
  go_wp2_with fail
  go_ret
  exact ⟨rfl, rfl⟩

theorem isNaN01_any (x : Nat) (w : World) : Calls Tryz.prog 112 #[.int .u64 x] w fun e w' => e = .returned (.bool (nanX x)) ∧ w = w' := by
  have h := Lib.hid (andNot_sign x)
  go_enter Tryz.func112, Tryz.ntmps112
  go_wp2
  go_ret
  refine ⟨?_, rfl⟩
  rw [h.out]
  show Ending.returned (Value.bool _) = _
  unfold nanX
  exact congrArg (fun b => Ending.returned (Value.bool b)) (decide_eq_decide.2 (by omega))
theorem one01_any (x : Nat) (w : World) : Calls Tryz.prog 98 #[.int .u64 x] w fun e w' => e = .returned (.int .u64 (oneX x)) ∧ w = w' := by
  have HC := Lib.hid (isNaN01_any x w)
  have HO := Lib.hid (oneX_eq x)
  generalize nanX x = b at HC HO
  go_enter Tryz.func98, Tryz.ntmps98
  cases b
  all_goals
    go_wp2_with (refine (HC.out).mono ?_; rintro e w' ⟨rfl, rfl⟩)
    go_ret
    refine ⟨?_, rfl⟩
    rw [HO.out]
    rfl
theorem bits14_any (x : Nat) (w : World) : Calls Tryz.prog 96 #[.float .f64 x] w fun e w' => e = .returned (.int .u64 (oneX x)) ∧ w = w' := by
  have HC := Lib.hid (one01_any x w)
  go_enter Tryz.func96, Tryz.ntmps96
  go_wp2_with (refine (HC.out).mono ?_; rintro e w' ⟨rfl, rfl⟩)
  go_ret
  exact ⟨rfl, rfl⟩
theorem number14_any (x : Nat) (w : World) : Calls Tryz.prog 95 #[.int .u64 x] w fun e w' => e = .returned (.float .f64 x) ∧ w = w' := by
  go_enter Tryz.func95, Tryz.ntmps95
  go_wp2
  go_ret
  exact ⟨rfl, rfl⟩
theorem sameX12_any (x y : Nat) (w : World) : Calls Tryz.prog 106 #[.float .f64 x, .float .f64 y] w fun e w' => e = .returned (.bool (decide (oneX x = oneX y))) ∧ w = w' := by
  have HC := Lib.hid (one01_any x w)
  have HD := Lib.hid (one01_any y w)
  generalize oneX x = u at HC ⊢
  generalize oneX y = v at HD ⊢
  go_enter Tryz.func106, Tryz.ntmps106
  go_wp2_with (first | (refine (HC.out).mono ?_; clear HC; rintro e w' ⟨rfl, rfl⟩) | (refine (HD.out).mono ?_; rintro e w' ⟨rfl, rfl⟩))
  go_ret
  refine ⟨?_, rfl⟩
  show Ending.returned (Value.bool _) = _
  refine congrArg (fun b => Ending.returned (Value.bool b)) ?_
  rw [Bool.eq_iff_iff]
  simp
  try omega

set_option maxHeartbeats 400000 in
theorem valid10_any (c r : Int) (w : World) :
    Calls Tryz.prog 43 #[.agg #[.int .i64 c, .int .i64 r]] w fun e w' => e = .returned (.bool (validB c r)) ∧ w' = w.alloc (.cells #[.int .i64 c, .int .i64 r] 36) := by
  unfold validB
  go_enter Tryz.func43, Tryz.ntmps43
  go_wp2
  all_goals (go_ret; refine ⟨?_, rfl⟩; congr 2; simp [*])
  all_goals omega

set_option maxHeartbeats 400000 in
theorem validArea10_any (a b c d : Int) (w : World) :
    Calls Tryz.prog 73 #[.agg #[.int .i64 a, .int .i64 b, .int .i64 c, .int .i64 d]] w fun e w' => e = .returned (.bool (validA a b c d)) ∧ Gr w w' := by
  unfold validA
  cases h1 : validB a b <;> cases h2 : validB c d
  all_goals
    go_enter Tryz.func73, Tryz.ntmps73
    go_wp2_with (go_at_call 43; refine (valid10_any _ _ _).mono ?_; rintro e w' ⟨rfl, rfl⟩)
    all_goals (go_ret; refine ⟨by congr 2; try (simp [*]; try omega), by repeat (first | exact Gr.refl _ | refine Gr.alloc ?_ _)⟩)

set_option maxRecDepth 100000 in
set_option maxHeartbeats 2000000 in
theorem noValue17_any (v : ValT) (w : World) :
    Calls Tryz.prog 67 #[valV v] w fun e w' => e = .returned (.bool (noValB v)) ∧ Gr w w' := by
  obtain ⟨w0, hw0, hg0, hs0, c0, c1, c2, c3, c4⟩ := boxV w v 39
  have HG0 := Lib.hid hg0
  clear hg0
  go_enter Tryz.func67, Tryz.ntmps67
  go_wp2_with fail
  all_goals (go_ret; refine ⟨?_, HG0.out⟩; first | (simp [noValB, *]; done) | (by_cases hx : v.x = 0 <;> by_cases hf : v.f = 0 <;> simp_all [noValB]; done))
set_option maxRecDepth 100000 in
set_option maxHeartbeats 4000000 in
theorem noNode17_any (t : NodeT) (a : Option Addr) (cap : Nat) (w : World) :
    Calls Tryz.prog 68 #[nodeV t a t.args.length cap] w fun e w' => e = .returned (.bool (noNodeB t)) ∧ Gr w w' := by
  obtain ⟨w0, hw0, hg0, hs0, hN⟩ := boxN w t a t.args.length cap 44
  obtain ⟨c0, c1, c2, c3, c4, c5, c6, c7, c8, c9, c10, c11, c12, c13, c14⟩ := hN
  simp only [Nat.zero_add] at c0 c1 c2 c3 c4 c5 c6 c7 c8 c9 c10 c11 c12 c13 c14
  have HG0 := Lib.hid hg0
  clear hg0
  generalize hn : noNodeB t = ans
  have HA := Lib.hid hn
  clear hn
  go_enter Tryz.func68, Tryz.ntmps68
  go_wp2_with fail
  all_goals (go_ret; refine ⟨?_, HG0.out⟩; rw [← HA.out]; simp [noNodeB, *]; done)

theorem less10_any (a b : Int) (w : World) : Calls Tryz.prog 83 #[.int .i64 a, .int .i64 b] w fun e w' => e = .returned (.int .i64 (cmpI a b)) ∧ w = w' := by
  go_enter Tryz.func83, Tryz.ntmps83
  go_wp2
  all_goals (go_ret; refine ⟨?_, rfl⟩; first | (simp [cmpI, *]; done) | (unfold cmpI; rw [if_neg (by omega), if_neg (by omega)]; rfl))
theorem order10_any (a b x y : Int) (w : World) :
    Calls Tryz.prog 57 #[.agg #[.int .i64 a, .int .i64 b], .agg #[.int .i64 x, .int .i64 y]] w fun e w' => e = .returned (.int .i64 (orI (cmpI b y) (cmpI a x))) ∧ Gr w w' := by
  have H1 := Lib.hid (less10_any b y)
  have H2 := Lib.hid (less10_any a x)
  by_cases h : cmpI b y = 0
  all_goals
    rw [show orI (cmpI b y) (cmpI a x) = _ from by first | exact if_pos h | exact if_neg h]
    generalize cmpI b y = p at H1 h
    generalize cmpI a x = q at H2
    go_enter Tryz.func57, Tryz.ntmps57
    go_wp2_with (first | (refine (H1.out _).mono ?_; clear H1; rintro e w' ⟨rfl, rfl⟩) | (refine (H2.out _).mono ?_; rintro e w' ⟨rfl, rfl⟩))
    all_goals (go_ret; exact ⟨rfl, ((Gr.refl _).alloc _).alloc _⟩)

def oneR (n cur : List UInt8) : List UInt8 → Bool
  | [] => (cur == n) && !(n == [])
  | c :: r => if c = 32 then ((cur == n) && !(n == [])) || oneR n [] r else oneR n (cur ++ [c]) r
def oneAt (n L : List UInt8) (f i : Nat) : Bool := if i ≤ L.length then oneR n ((L.drop f).take (i - f)) (L.drop i) else false
theorem oneAt_end (n L : List UInt8) (f : Nat) : oneAt n L f L.length = (((L.drop f).take (L.length - f) == n) && !(n == [])) := by
  unfold oneAt; rw [if_pos (Nat.le_refl _), List.drop_length]; rfl
theorem oneAt_step {L : List UInt8} {i : Nat} {c : UInt8} (n : List UInt8) (f : Nat) (hc : L[i]? = some c) (hf : f ≤ i) (h : c ≠ 32) : oneAt n L f i = oneAt n L f (i + 1) := by
  have hi : i < L.length := (List.getElem?_eq_some_iff.1 hc).1
  unfold oneAt
  rw [if_pos (by omega), if_pos (by omega), drop_at hc, oneR, if_neg h]
  congr 1
  rw [show i + 1 - f = (i - f) + 1 by omega, List.take_add_one, List.getElem?_drop, show f + (i - f) = i by omega, hc]
  rfl
theorem oneAt_cut {L : List UInt8} {i : Nat} (n : List UInt8) (f : Nat) (hc : L[i]? = some 32) : oneAt n L f i = ((((L.drop f).take (i - f) == n) && !(n == [])) || oneAt n L (i + 1) (i + 1)) := by
  have hi : i < L.length := (List.getElem?_eq_some_iff.1 hc).1
  unfold oneAt
  rw [if_pos (by omega), if_pos (by omega), drop_at hc, oneR, if_pos rfl]
  simp
theorem cut_list (L : List UInt8) (f i : Nat) : ((⟨L.toArray⟩ : ByteArray).extract f i).toList = (L.drop f).take (i - f) := by
  rw [ByteArray.extract_mk]; simp
theorem empty_not (s : List UInt8) : (!s.isEmpty) = !(s == []) := by cases s <;> rfl
set_option maxRecDepth 100000 in
set_option maxHeartbeats 2000000 in
theorem one_any (s : ByteArray) (L : List UInt8) (hL : L.length < 1000000) (w : World) : Calls Tryz.prog 143 #[.string s, .string ⟨L.toArray⟩] w fun e w' => e = .returned (.bool (oneR s.toList [] L)) ∧ w = w' := by
  have hsz : (⟨L.toArray⟩ : ByteArray).size = L.length := by simp [ByteArray.size]
  go_enter Tryz.func143, Tryz.ntmps143
  go_wp2_with fail
  go_loopw [5, 6] (fun s5 s6 wr => ∃ f i : Nat, f ≤ i ∧ i ≤ L.length + 1 ∧ f ≤ L.length + 1 ∧ s5 = .int .i64 f ∧ s6 = .int .i64 i ∧ wr = w ∧ Hid (oneR s.toList [] L = oneAt s.toList L f i)) (fun _ s6 _ => L.length + 1 - (intOf s6).toNat)
  case atStart => exact ⟨0, 0, Nat.le_refl _, by omega, by omega, rfl, rfl, rfl, by unfold Hid oneAt; simp⟩
  case round =>
    obtain ⟨f, i, hf, hi, hf2, rfl, rfl, rfl, HS⟩ := hrel
    by_cases h1 : i ≤ L.length
    · by_cases h2 : i = L.length
      · subst h2
        have HE := Lib.hid (oneAt_end s.toList L f)
        go_wp2_with fail
        · rename_i e1 e2
          go_ret
          refine ⟨?_, rfl⟩
          rw [HS.out, HE.out, ← cut_list, e1, ← empty_not, e2]
          simp
        · rename_i e1 e2
          refine ⟨⟨L.length + 1, L.length + 1, Nat.le_refl _, Nat.le_refl _, Nat.le_refl _, by go_num, by go_num, trivial, ?_⟩, by simp [intOf]⟩
          unfold Hid
          rw [HS.out, HE.out, ← empty_not, e2, Bool.and_false]
          unfold oneAt
          rw [if_neg (by omega)]
        · rename_i e1
          refine ⟨⟨L.length + 1, L.length + 1, Nat.le_refl _, Nat.le_refl _, Nat.le_refl _, by go_num, by go_num, trivial, ?_⟩, by simp [intOf]⟩
          unfold Hid
          rw [HS.out, HE.out, ← cut_list, beq_eq_false_iff_ne.2 e1, Bool.false_and]
          unfold oneAt
          rw [if_neg (by omega)]
      · obtain ⟨c, hc⟩ : ∃ c, L[i]? = some c := ⟨L[i]'(by omega), by simp⟩
        have hil : (i : Int) < (L.length : Int) := by omega
        have hne : ((i : Int) == (L.length : Int)) = false := by simp; omega
        have hby : ((⟨L.toArray⟩ : ByteArray)[i]'(by rw [hsz]; omega)) = c := by
          have := (List.getElem?_eq_some_iff.1 hc).2
          rw [← this]; rfl
        by_cases h3 : c = 32
        · subst h3
          have hb : ((((⟨L.toArray⟩ : ByteArray)[i]'(by rw [hsz]; omega)).toNat : Int) == 32) = true := by rw [hby]; rfl
          have HE := Lib.hid (oneAt_cut s.toList f hc)
          clear hby hc
          go_wp2_with fail
          · rename_i e1 e2
            go_ret
            refine ⟨?_, rfl⟩
            rw [HS.out, HE.out, ← cut_list, e1, ← empty_not, e2]
            simp
          · rename_i e1 e2
            refine ⟨⟨i + 1, i + 1, Nat.le_refl _, by omega, by omega, by go_num, by go_num, trivial, ?_⟩, by simp [intOf]; omega⟩
            unfold Hid
            rw [HS.out, HE.out, ← empty_not, e2, Bool.and_false, Bool.false_or]
          · rename_i e1
            refine ⟨⟨i + 1, i + 1, Nat.le_refl _, by omega, by omega, by go_num, by go_num, trivial, ?_⟩, by simp [intOf]; omega⟩
            unfold Hid
            rw [HS.out, HE.out, ← cut_list, beq_eq_false_iff_ne.2 e1, Bool.false_and, Bool.false_or]
        · have hb : ((((⟨L.toArray⟩ : ByteArray)[i]'(by rw [hsz]; omega)).toNat : Int) == 32) = false := by
            rw [hby, beq_eq_false_iff_ne]
            intro h
            exact h3 (UInt8.toNat_inj.1 (by have : (32 : UInt8).toNat = 32 := rfl; omega))
          have HE := Lib.hid (oneAt_step s.toList f hc hf h3)
          clear hby hc
          go_wp2_with fail
          all_goals
            refine ⟨⟨f, i + 1, by omega, by omega, by omega, by go_num, by go_num, trivial, ?_⟩, by simp [intOf]; omega⟩
            unfold Hid
            rw [HS.out, HE.out]
    · have he : i = L.length + 1 := by omega
      subst he
      have HE : Hid (oneAt s.toList L f (L.length + 1) = false) := by unfold Hid oneAt; rw [if_neg (by omega)]
      go_wp2_with fail
      go_ret
      exact ⟨by rw [HS.out, HE.out]; rfl, rfl⟩

/-- The byte at a place, 0 behind the end. -/
def bAt (L : List UInt8) (i : Nat) : Nat := (L.getD i 0).toNat
theorem bAt_lt (L : List UInt8) (i : Nat) : bAt L i < 256 := (L.getD i 0).toNat_lt
theorem bAt_eq {L : List UInt8} {i : Nat} (h : i < (⟨L.toArray⟩ : ByteArray).size) : ((⟨L.toArray⟩ : ByteArray)[i]'h).toNat = bAt L i := by
  have hl : i < L.length := by simpa [ByteArray.size] using h
  unfold bAt
  rw [List.getD_eq_getElem?_getD, List.getElem?_eq_getElem hl]
  rfl
theorem valid_at {L : List UInt8} {i : Nat} (hi : i < L.length) : Lib.validD (L.drop i) =
    if (Lib.decodeN (L.length - i) (bAt L i) (bAt L (i + 1)) (bAt L (i + 2)) (bAt L (i + 3))).1 = 65533 ∧ (Lib.decodeN (L.length - i) (bAt L i) (bAt L (i + 1)) (bAt L (i + 2)) (bAt L (i + 3))).2 = 1 then false
    else Lib.validD (L.drop (i + (Lib.decodeN (L.length - i) (bAt L i) (bAt L (i + 1)) (bAt L (i + 2)) (bAt L (i + 3))).2)) := by
  have hne : L.drop i ≠ [] := by intro h; have := congrArg List.length h; simp at this; omega
  have g : ∀ k, (L.drop i).getD k 0 = L.getD (i + k) 0 := fun k => by simp [List.getD_eq_getElem?_getD]
  have hd : Lib.decodeL (L.drop i) = Lib.decodeN (L.length - i) (bAt L i) (bAt L (i + 1)) (bAt L (i + 2)) (bAt L (i + 3)) := by
    rw [Lib.decodeL_N, List.length_drop, g, g, g, g]; rfl
  rw [Lib.validD_step _ hne, hd, List.drop_drop]
/-- The value that so many bytes behind the lead make. -/
def contU (b : Nat → Nat) (c : Nat) : Nat → Nat
  | 0 => c
  | k + 1 => contU b c k * 64 + b (k + 1) - 128
/-- The way out: a lead byte that is none; a byte that does not continue; a value that is none; or passed over. -/
structure Lead (b0 m least c : Nat) : Prop where
  out : (m = 1 ∧ least = 128 ∧ 194 ≤ b0 ∧ b0 < 224 ∧ c = b0 - 192) ∨ (m = 2 ∧ least = 2048 ∧ 224 ≤ b0 ∧ b0 < 240 ∧ c = b0 - 224) ∨ (m = 3 ∧ least = 65536 ∧ 240 ≤ b0 ∧ b0 < 245 ∧ c = b0 - 240)
theorem valid_low {L : List UInt8} {i : Nat} (hi : i < L.length) (h : bAt L i < 128) : Lib.validD (L.drop i) = Lib.validD (L.drop (i + 1)) := by
  rw [valid_at hi]
  unfold Lib.decodeN
  rw [if_pos h]
  simp only
  rw [if_neg (by omega)]
theorem valid_none {L : List UInt8} {i : Nat} (hi : i < L.length) (h : 128 ≤ bAt L i) (h2 : ¬ (194 ≤ bAt L i ∧ bAt L i < 245)) : Lib.validD (L.drop i) = false := by
  have hb := bAt_lt L i
  rw [valid_at hi, if_pos]
  generalize bAt L i = b0 at *
  unfold Lib.decodeN
  repeat' split
  all_goals first | exact ⟨rfl, rfl⟩ | (exfalso; omega)
set_option maxRecDepth 100000 in
set_option maxHeartbeats 4000000 in
theorem valid_cont {L : List UInt8} {i m least c k : Nat} (hi : i < L.length) (hl : Lead (bAt L i) m least c) (hk : 1 ≤ k) (hkm : k ≤ m) (h : L.length ≤ i + k ∨ bAt L (i + k) < 128 ∨ 191 < bAt L (i + k)) : Lib.validD (L.drop i) = false := by
  rw [valid_at hi, if_pos]
  have hkk : k = 1 ∨ k = 2 ∨ k = 3 := by rcases hl.out with h | h | h <;> omega
  have hb1 := bAt_lt L (i + 1)
  have hb2 := bAt_lt L (i + 2)
  have hb3 := bAt_lt L (i + 3)
  have hlo := hl.out
  clear hl
  rcases hkk with rfl | rfl | rfl
  all_goals
    generalize bAt L i = b0 at *
    generalize bAt L (i + 1) = b1 at *
    generalize bAt L (i + 2) = b2 at *
    generalize bAt L (i + 3) = b3 at *
    unfold Lib.decodeN
    repeat' split
    all_goals first | exact ⟨rfl, rfl⟩ | (exfalso; omega)
set_option maxRecDepth 100000 in
set_option maxHeartbeats 4000000 in
theorem dec1 {n b0 b1 b2 b3 : Nat} (h0 : 194 ≤ b0) (h0' : b0 < 224) (hn : 1 < n) (h1 : 128 ≤ b1) (h1' : b1 ≤ 191) :
    (((b0 - 192) * 64 + b1 - 128 < 128 ∨ 1114111 < (b0 - 192) * 64 + b1 - 128 ∨ (55296 ≤ (b0 - 192) * 64 + b1 - 128 ∧ (b0 - 192) * 64 + b1 - 128 < 57344)) ∧ Lib.decodeN n b0 b1 b2 b3 = (65533, 1)) ∨
    (¬ ((b0 - 192) * 64 + b1 - 128 < 128 ∨ 1114111 < (b0 - 192) * 64 + b1 - 128 ∨ (55296 ≤ (b0 - 192) * 64 + b1 - 128 ∧ (b0 - 192) * 64 + b1 - 128 < 57344)) ∧ (Lib.decodeN n b0 b1 b2 b3).2 = 2) := by
  unfold Lib.decodeN
  repeat' split
  all_goals first | (exfalso; omega) | exact Or.inr ⟨by omega, rfl⟩ | exact Or.inl ⟨by omega, rfl⟩
set_option maxRecDepth 100000 in
set_option maxHeartbeats 4000000 in
theorem dec2 {n b0 b1 b2 b3 : Nat} (h0 : 224 ≤ b0) (h0' : b0 < 240) (hn : 2 < n) (h1 : 128 ≤ b1) (h1' : b1 ≤ 191) (h2 : 128 ≤ b2) (h2' : b2 ≤ 191) :
    ((((b0 - 224) * 64 + b1 - 128) * 64 + b2 - 128 < 2048 ∨ 1114111 < ((b0 - 224) * 64 + b1 - 128) * 64 + b2 - 128 ∨ (55296 ≤ ((b0 - 224) * 64 + b1 - 128) * 64 + b2 - 128 ∧ ((b0 - 224) * 64 + b1 - 128) * 64 + b2 - 128 < 57344)) ∧ Lib.decodeN n b0 b1 b2 b3 = (65533, 1)) ∨
    (¬ (((b0 - 224) * 64 + b1 - 128) * 64 + b2 - 128 < 2048 ∨ 1114111 < ((b0 - 224) * 64 + b1 - 128) * 64 + b2 - 128 ∨ (55296 ≤ ((b0 - 224) * 64 + b1 - 128) * 64 + b2 - 128 ∧ ((b0 - 224) * 64 + b1 - 128) * 64 + b2 - 128 < 57344)) ∧ (Lib.decodeN n b0 b1 b2 b3).2 = 3) := by
  unfold Lib.decodeN
  repeat' split
  all_goals first | (exfalso; omega) | exact Or.inr ⟨by omega, rfl⟩ | exact Or.inl ⟨by omega, rfl⟩
set_option maxRecDepth 100000 in
set_option maxHeartbeats 4000000 in
theorem dec3 {n b0 b1 b2 b3 : Nat} (h0 : 240 ≤ b0) (h0' : b0 < 245) (hn : 3 < n) (h1 : 128 ≤ b1) (h1' : b1 ≤ 191) (h2 : 128 ≤ b2) (h2' : b2 ≤ 191) (h3 : 128 ≤ b3) (h3' : b3 ≤ 191) :
    (((((b0 - 240) * 64 + b1 - 128) * 64 + b2 - 128) * 64 + b3 - 128 < 65536 ∨ 1114111 < (((b0 - 240) * 64 + b1 - 128) * 64 + b2 - 128) * 64 + b3 - 128 ∨ (55296 ≤ (((b0 - 240) * 64 + b1 - 128) * 64 + b2 - 128) * 64 + b3 - 128 ∧ (((b0 - 240) * 64 + b1 - 128) * 64 + b2 - 128) * 64 + b3 - 128 < 57344)) ∧ Lib.decodeN n b0 b1 b2 b3 = (65533, 1)) ∨
    (¬ ((((b0 - 240) * 64 + b1 - 128) * 64 + b2 - 128) * 64 + b3 - 128 < 65536 ∨ 1114111 < (((b0 - 240) * 64 + b1 - 128) * 64 + b2 - 128) * 64 + b3 - 128 ∨ (55296 ≤ (((b0 - 240) * 64 + b1 - 128) * 64 + b2 - 128) * 64 + b3 - 128 ∧ (((b0 - 240) * 64 + b1 - 128) * 64 + b2 - 128) * 64 + b3 - 128 < 57344)) ∧ (Lib.decodeN n b0 b1 b2 b3).2 = 4) := by
  unfold Lib.decodeN
  repeat' split
  all_goals first | (exfalso; omega) | exact Or.inr ⟨by omega, rfl⟩ | exact Or.inl ⟨by omega, rfl⟩
set_option maxRecDepth 100000 in
set_option maxHeartbeats 4000000 in
theorem valid_val {L : List UInt8} {i m least c : Nat} (hi : i < L.length) (hl : Lead (bAt L i) m least c) (hc : ∀ k, 1 ≤ k → k ≤ m → i + k < L.length ∧ 128 ≤ bAt L (i + k) ∧ bAt L (i + k) ≤ 191) :
    Lib.validD (L.drop i) = if contU (fun k => bAt L (i + k)) c m < least ∨ 1114111 < contU (fun k => bAt L (i + k)) c m ∨ (55296 ≤ contU (fun k => bAt L (i + k)) c m ∧ contU (fun k => bAt L (i + k)) c m < 57344) then false else Lib.validD (L.drop (i + 1 + m)) := by
  rw [valid_at hi]
  have key : ∀ {p : Prop} [Decidable p] (d : Nat × Nat), ((p ∧ d = (65533, 1)) ∨ (¬ p ∧ d.2 = m + 1)) → 1 ≤ m → (if d.1 = 65533 ∧ d.2 = 1 then false else Lib.validD (L.drop (i + d.2))) = if p then false else Lib.validD (L.drop (i + 1 + m)) := by
    rintro p _ d (⟨hp, rfl⟩ | ⟨hp, hd⟩) hm
    · rw [if_pos hp, if_pos ⟨rfl, rfl⟩]
    · rw [if_neg hp, if_neg (by omega), hd, show i + (m + 1) = i + 1 + m by omega]
  rcases hl.out with ⟨rfl, rfl, q1, q2, rfl⟩ | ⟨rfl, rfl, q1, q2, rfl⟩ | ⟨rfl, rfl, q1, q2, rfl⟩
  · have h1 := hc 1 (by omega) (by omega)
    exact key _ (dec1 q1 q2 (by omega) h1.2.1 h1.2.2) (by omega)
  · have h1 := hc 1 (by omega) (by omega)
    have h2 := hc 2 (by omega) (by omega)
    exact key _ (dec2 q1 q2 (by omega) h1.2.1 h1.2.2 h2.2.1 h2.2.2) (by omega)
  · have h1 := hc 1 (by omega) (by omega)
    have h2 := hc 2 (by omega) (by omega)
    have h3 := hc 3 (by omega) (by omega)
    exact key _ (dec3 q1 q2 (by omega) h1.2.1 h1.2.2 h2.2.1 h2.2.2 h3.2.1 h3.2.2) (by omega)

/-! ### value.Same -/
theorem compare_0 : ∀ (a b : List UInt8), Lib.compareBytes a b = 0 ↔ a = b
  | [], [] => by simp [Lib.compareBytes]
  | [], _ :: _ => by simp [Lib.compareBytes]
  | _ :: _, [] => by simp [Lib.compareBytes]
  | x :: a, y :: b => by
    unfold Lib.compareBytes
    by_cases h1 : x < y
    · simp only [h1, if_true]
      refine ⟨fun h => by simp at h, fun h => ?_⟩
      cases h; exact absurd h1 (UInt8.lt_irrefl _)
    · by_cases h2 : y < x
      · simp only [h1, h2, if_false, if_true]
        refine ⟨fun h => by simp at h, fun h => ?_⟩
        cases h; exact absurd h2 (UInt8.lt_irrefl _)
      · have h3 : x = y := by
          rw [UInt8.not_lt] at h1 h2
          exact UInt8.le_antisymm h2 h1
        subst h3
        simp only [h1, if_false, compare_0 a b, List.cons.injEq, true_and]
set_option maxRecDepth 100000 in
theorem bytesCompare_any (a b : ByteArray) (w : World) : Calls Tryz.prog 132 #[.string a, .string b] w fun e w' => e = .returned (.int .i64 (Lib.compareBytes a.data.toList b.data.toList)) ∧ w = w' := by
  go_enter Tryz.func132, Tryz.ntmps132
  go_wp2
  rw [run_callFunc_extern Tryz.func144 (by kernel_rfl) (by kernel_rfl) (by kernel_rfl) (e := Extern.BytealgCompare.compare) (by kernel_rfl), Lib.run_compareString]
  simp only [Result.andThen]
  rw [Oper.upon_value]
  go_wp2
  go_ret
  exact ⟨rfl, rfl⟩
theorem sCompare_any (a b : ByteArray) (w : World) : Calls Tryz.prog 114 #[.string a, .string b] w fun e w' => e = .returned (.int .i64 (Lib.compareBytes a.data.toList b.data.toList)) ∧ w = w' := by
  have HC := Lib.hid (bytesCompare_any a b w)
  go_enter Tryz.func114, Tryz.ntmps114
  go_wp2_with (refine (HC.out).mono ?_; rintro e w' ⟨rfl, rfl⟩)
  go_ret
  exact ⟨rfl, rfl⟩
def oneB (b : Bool) : Int := if b then 1 else 0
theorem vone_any (b : Bool) (w : World) : Calls Tryz.prog 115 #[.bool b] w fun e w' => e = .returned (.int .i64 (oneB b)) ∧ w = w' := by
  cases b <;> (go_enter Tryz.func115, Tryz.ntmps115; go_wp2; go_ret; exact ⟨rfl, rfl⟩)
def placeX (x : Nat) : Int := if ordX x x != some .eq then 9223372036854775807 else if signX x = true then wrap64 (wrap64 (-(wrap64 (absX x))) - 1) else wrap64 (absX x)
set_option maxHeartbeats 1000000 in
theorem place_any (x : Nat) (w : World) : Calls Tryz.prog 131 #[.float .f64 x] w fun e w' => e = .returned (.int .i64 (placeX x)) ∧ w = w' := by
  have HC := Lib.hid (Abs_any x w)
  have HS := Lib.hid (Signbit_any x w)
  generalize hn : placeX x = ans
  have HA := Lib.hid hn
  unfold placeX ordX at HA
  generalize absX x = ax at HC HA
  clear hn
  go_enter Tryz.func131, Tryz.ntmps131
  go_wp2_with (first | (go_at_call 138; refine (HC.out).mono ?_; rintro e w' ⟨rfl, rfl⟩) | (go_at_call 140; refine (HS.out).mono ?_; rintro e w' ⟨rfl, rfl⟩))
  all_goals (go_ret; refine ⟨?_, rfl⟩; rw [← HA.out]; simp [*]; done)
def pordX (a b : Nat) : Int := cmpI (placeX a) (placeX b)
theorem pOrder_any (a b : Nat) (w : World) : Calls Tryz.prog 113 #[.float .f64 a, .float .f64 b] w fun e w' => e = .returned (.int .i64 (pordX a b)) ∧ w = w' := by
  have HC := Lib.hid (place_any a w)
  have HS := Lib.hid (place_any b w)
  generalize hn : pordX a b = ans
  have HA := Lib.hid hn
  unfold pordX cmpI at HA
  generalize placeX a = pa at HC HA
  generalize placeX b = pb at HS HA
  clear hn
  go_enter Tryz.func113, Tryz.ntmps113
  go_wp2_with (first | (refine (HC.out).mono ?_; clear HC; rintro e w' ⟨rfl, rfl⟩) | (refine (HS.out).mono ?_; clear HS; rintro e w' ⟨rfl, rfl⟩))
  all_goals (go_ret; refine ⟨?_, rfl⟩; rw [← HA.out])
  all_goals (first | (have hq1 : pa < pb := by omega
                      rw [if_pos hq1]; rfl) | (have hq1 : ¬ pa < pb := by omega
                                               have hq2 : pb < pa := by omega
                                               rw [if_neg hq1, if_pos hq2]; rfl) | (have hq1 : ¬ pa < pb := by omega
                                                                                    have hq2 : ¬ pb < pa := by omega
                                                                                    rw [if_neg hq1, if_neg hq2]; rfl))
/-- How two values stand, their kinds being the same. -/
def restO (a b : ValT) : Int :=
  if (a.kind == 1) = true then pordX a.x b.x else if (a.kind == 2) = true then Lib.compareBytes a.s.data.toList b.s.data.toList
  else if (a.kind == 3) = true then cmpI (oneB a.b) (oneB b.b) else if (a.kind == 4) = true then cmpI a.f b.f else 0
def orderV (a b : ValT) : Int := if (cmpI a.kind b.kind == 0) = true then restO a b else cmpI a.kind b.kind
set_option maxRecDepth 100000 in
set_option maxHeartbeats 4000000 in
theorem vOrder_any (a b : ValT) (w : World) : Calls Tryz.prog 99 #[valV a, valV b] w fun e w' => e = .returned (.int .i64 (orderV a b)) ∧ Gr w w' := by
  obtain ⟨w0, hw0, hg0, hs0, c0, c1, c2, c3, c4⟩ := boxV w a 39
  obtain ⟨w1, hw1, hg1, hs1, d0, d1, d2, d3, d4⟩ := boxV w0 b 39
  rw [hs0] at d0 d1 d2 d3 d4
  have cc := fun o => (hg1.xt.cells).1 w.heap.size o (by omega)
  have k0 := (cc 0).trans c0
  have k1 := (cc 1).trans c1
  have k2 := (cc 2).trans c2
  have k3 := (cc 3).trans c3
  have k4 := (cc 4).trans c4
  clear c0 c1 c2 c3 c4 cc hs1
  have HG := Lib.hid (hg0.trans hg1)
  clear hg0 hg1
  have HK := Lib.hid (fun w => compare_any a.kind b.kind w)
  have HF := Lib.hid (fun w => compare_any a.f b.f w)
  have HO := Lib.hid (fun w => compare_any (oneB a.b) (oneB b.b) w)
  have HP := Lib.hid (fun w => pOrder_any a.x b.x w)
  have HS := Lib.hid (fun w => sCompare_any a.s b.s w)
  have H1 := Lib.hid (fun w => vone_any a.b w)
  have H2 := Lib.hid (fun w => vone_any b.b w)
  generalize hn : orderV a b = ans
  have HA := Lib.hid hn
  unfold orderV restO at HA
  clear hn
  generalize cmpI a.kind b.kind = ck at HK HA
  generalize cmpI a.f b.f = cf at HF HA
  generalize cmpI (oneB a.b) (oneB b.b) = co at HO HA
  generalize pordX a.x b.x = po at HP HA
  generalize Lib.compareBytes a.s.data.toList b.s.data.toList = so at HS HA
  generalize oneB a.b = oa at HO H1
  generalize oneB b.b = ob at HO H2
  cases hck : ck == 0
  · go_enter Tryz.func99, Tryz.ntmps99
    go_wp2_with (go_at_call 82; refine (HK.out _).mono ?_; rintro e w' ⟨rfl, rfl⟩)
    go_ret
    exact ⟨by rw [← HA.out]; simp [hck], HG.out⟩
  cases h1 : a.kind == 1
  rotate_left
  · go_enter Tryz.func99, Tryz.ntmps99
    go_wp2_with (first | (go_at_call 82; refine (HK.out _).mono ?_; rintro e w' ⟨rfl, rfl⟩) | (go_at_call 113; refine (HP.out _).mono ?_; rintro e w' ⟨rfl, rfl⟩))
    go_ret
    exact ⟨by rw [← HA.out]; simp [hck, h1], HG.out⟩
  cases h2 : a.kind == 2
  rotate_left
  · go_enter Tryz.func99, Tryz.ntmps99
    go_wp2_with (first | (go_at_call 82; refine (HK.out _).mono ?_; rintro e w' ⟨rfl, rfl⟩) | (go_at_call 114; refine (HS.out _).mono ?_; rintro e w' ⟨rfl, rfl⟩))
    go_ret
    exact ⟨by rw [← HA.out]; simp [hck, h1, h2], HG.out⟩
  cases h3 : a.kind == 3
  rotate_left
  · go_enter Tryz.func99, Tryz.ntmps99
    go_wp2_with (first | (go_at_call 82; refine (HK.out _).mono ?_; clear HK; rintro e w' ⟨rfl, rfl⟩))
    go_quiet (first
      | ((go_at_call 115; exact Calls.quiet_of_same ((H1.out _).mono fun _ _ h => ⟨h.1, h.2.symm⟩)))
      | ((go_at_call 115; exact Calls.quiet_of_same ((H2.out _).mono fun _ _ h => ⟨h.1, h.2.symm⟩)))
      | ((go_at_call 82; exact Calls.quiet_of_same ((HO.out _).mono fun _ _ h => ⟨h.1, h.2.symm⟩))))
    go_wp2_with fail
    go_ret
    exact ⟨by rw [← HA.out]; simp [hck, h1, h2, h3], HG.out.drewN _⟩
  cases h4 : a.kind == 4
  · go_enter Tryz.func99, Tryz.ntmps99
    go_wp2_with (first | (go_at_call 82; refine (HK.out _).mono ?_; clear HK; rintro e w' ⟨rfl, rfl⟩))
    go_ret
    exact ⟨by rw [← HA.out]; simp [hck, h1, h2, h3, h4], HG.out⟩
  · go_enter Tryz.func99, Tryz.ntmps99
    go_wp2_with (first | (go_at_call 82; refine (HK.out _).mono ?_; clear HK; rintro e w' ⟨rfl, rfl⟩) | (go_at_call 82; refine (HF.out _).mono ?_; clear HF; rintro e w' ⟨rfl, rfl⟩))
    go_ret
    exact ⟨by rw [← HA.out]; simp [hck, h1, h2, h3, h4], HG.out⟩
/-- What a value is the same by. -/
inductive KeyV where
  | n (p : Int) | s (l : List UInt8) | b (b : Bool) | f (f : Int) | o
def keyV (v : ValT) : Int × KeyV := (v.kind, if (v.kind == 1) = true then .n (placeX v.x) else if (v.kind == 2) = true then .s v.s.data.toList else if (v.kind == 3) = true then .b v.b else if (v.kind == 4) = true then .f v.f else .o)
theorem cmpI_0 (a b : Int) : cmpI a b = 0 ↔ a = b := by
  unfold cmpI
  split <;> (try split) <;> omega
theorem order_key (a b : ValT) : orderV a b = 0 ↔ keyV a = keyV b := by
  unfold orderV restO keyV
  cases hc : cmpI a.kind b.kind == 0
  · have h : ¬ a.kind = b.kind := by rw [← cmpI_0]; simpa using hc
    simp only [Bool.false_eq_true, if_false]
    refine ⟨fun h2 => absurd ((cmpI_0 _ _).1 h2) h, fun h2 => absurd (congrArg Prod.fst h2) h⟩
  · have h : a.kind = b.kind := by rw [← cmpI_0]; simpa using hc
    rw [h]
    simp only [if_true]
    by_cases h1 : (b.kind == 1) = true
    · simp only [h1, if_true]; unfold pordX; rw [cmpI_0]; simp
    · simp only [h1, Bool.false_eq_true, if_false]
      by_cases h2 : (b.kind == 2) = true
      · simp only [h2, if_true]; rw [compare_0]; simp
      · simp only [h2, Bool.false_eq_true, if_false]
        by_cases h3 : (b.kind == 3) = true
        · simp only [h3, if_true]; rw [cmpI_0]; cases a.b <;> cases b.b <;> simp [oneB]
        · simp only [h3, Bool.false_eq_true, if_false]
          by_cases h4 : (b.kind == 4) = true
          · simp only [h4, if_true]; rw [cmpI_0]; simp
          · simp [h4]
noncomputable def sameVB (a b : ValT) : Bool := @decide (keyV a = keyV b) (Classical.propDecidable _)
theorem vSame_any (a b : ValT) (w : World) : Calls Tryz.prog 76 #[valV a, valV b] w fun e w' => e = .returned (.bool (sameVB a b)) ∧ Gr w w' := by
  obtain ⟨w0, hw0, hg0, hs0, c0, c1, c2, c3, c4⟩ := boxV w a 39
  obtain ⟨w1, hw1, hg1, hs1, d0, d1, d2, d3, d4⟩ := boxV w0 b 39
  rw [hs0] at d0 d1 d2 d3 d4
  have cc := fun o => (hg1.xt.cells).1 w.heap.size o (by omega)
  have k0 := (cc 0).trans c0
  have k1 := (cc 1).trans c1
  have k2 := (cc 2).trans c2
  have k3 := (cc 3).trans c3
  have k4 := (cc 4).trans c4
  clear c0 c1 c2 c3 c4 cc hs1
  have HG := Lib.hid (hg0.trans hg1)
  clear hg0 hg1
  have HC := Lib.hid (vOrder_any a b w1)
  have HK := Lib.hid (order_key a b)
  generalize orderV a b = ov at HC HK
  go_enter Tryz.func76, Tryz.ntmps76
  go_wp2_with (refine (HC.out).mono ?_; rintro e w2 ⟨rfl, hg2⟩; have HG2 := Lib.hid hg2; clear hg2)
  go_ret
  refine ⟨?_, HG.out.trans HG2.out⟩
  have hk := HK.out
  unfold sameVB
  by_cases h : ov = 0
  · have h2 := hk.1 h
    simp [h, h2]
  · have h2 : ¬ keyV a = keyV b := fun e => h (hk.2 e)
    simp [h, h2]

def valR (r : Nat) : Nat := if r < 4503599627370496 then r else (4503599627370496 + r % 4503599627370496) * 2 ^ (r / 4503599627370496 - 1)
theorem valR_step (r : Nat) : valR r < valR (r + 1) := by
  unfold valR
  by_cases h1 : r + 1 < 4503599627370496
  · rw [if_pos (by omega), if_pos h1]; omega
  · rw [if_neg h1]
    by_cases h2 : r < 4503599627370496
    · have : r + 1 = 4503599627370496 := by omega
      rw [if_pos h2, this]
      simp; omega
    · rw [if_neg h2]
      by_cases h3 : r % 4503599627370496 + 1 < 4503599627370496
      · have e1 : (r + 1) % 4503599627370496 = r % 4503599627370496 + 1 := by omega
        have e2 : (r + 1) / 4503599627370496 = r / 4503599627370496 := by omega
        rw [e1, e2]
        exact Nat.mul_lt_mul_of_pos_right (by omega) (Nat.two_pow_pos _)
      · have e1 : (r + 1) % 4503599627370496 = 0 := by omega
        have e2 : (r + 1) / 4503599627370496 - 1 = (r / 4503599627370496 - 1) + 1 := by omega
        rw [e1, e2, Nat.pow_succ]
        have hp := Nat.two_pow_pos (r / 4503599627370496 - 1)
        generalize 2 ^ (r / 4503599627370496 - 1) = p at hp
        have : r % 4503599627370496 ≤ 4503599627370495 := by omega
        calc (4503599627370496 + r % 4503599627370496) * p ≤ 9007199254740991 * p := Nat.mul_le_mul_right _ (by omega)
          _ < (4503599627370496 + 0) * (p * 2) := by omega
theorem valR_lt {r q : Nat} (h : r < q) : valR r < valR q := by
  induction q with
  | zero => omega
  | succ q ih =>
    rcases Nat.lt_or_ge r q with h1 | h1
    · exact Nat.lt_trans (ih h1) (valR_step q)
    · obtain rfl : r = q := by omega
      exact valR_step r
theorem valR_compare (r q : Nat) : compare ((valR r : Nat) : Int) ((valR q : Nat) : Int) = compare r q := by
  rcases Nat.lt_trichotomy r q with h | h | h
  · rw [Nat.compare_eq_lt.2 h, Int.compare_eq_lt]; exact_mod_cast valR_lt h
  · subst h; rw [Nat.compare_eq_eq.2 rfl, Int.compare_eq_eq.2 rfl]
  · rw [Nat.compare_eq_gt.2 h, Int.compare_eq_gt]; exact_mod_cast valR_lt h
/-- A number's datum has this value. -/
theorem read_num {x : Nat} (h : x < 9218868437227405312) : ∃ m e : Nat, (FloatKind.format .f64).read x = .number false m (-1074 + e) ∧ m * 2 ^ e = valR x := by
  have e0 : (FloatKind.format .f64).signWeight = 9223372036854775808 := by decide
  have e2 : (FloatKind.format .f64).infRung = 9218868437227405312 := by decide
  have e3 : (FloatKind.format .f64).binade = 4503599627370496 := by decide
  have e4 : (FloatKind.format .f64).leastPlace = -1074 := by decide
  unfold Ieee.Format.read valR
  simp only [e0, e2, e3, e4]
  have e5 : x % 9223372036854775808 = x := Nat.mod_eq_of_lt (by omega)
  have e6 : (x / 9223372036854775808 % 2 == 1) = false := by rw [Nat.div_eq_of_lt (by omega)]; rfl
  rw [e5, e6]
  by_cases h1 : x < 4503599627370496
  · rw [if_pos h1, if_pos h1]
    exact ⟨x, 0, rfl, by simp⟩
  · rw [if_neg h1, if_neg h1, if_pos h]
    exact ⟨_, _, rfl, rfl⟩
theorem compare_mul (a b p : Nat) (hp : 0 < p) : compare ((a * p : Nat) : Int) ((b * p : Nat) : Int) = compare (a : Int) (b : Int) := by
  rcases Nat.lt_trichotomy a b with h | h | h
  · have h2 : a * p < b * p := Nat.mul_lt_mul_of_pos_right h hp
    have e1 : compare (a : Int) (b : Int) = .lt := Int.compare_eq_lt.2 (by omega)
    rw [e1]; exact Int.compare_eq_lt.2 (by omega)
  · subst h; rw [Int.compare_eq_eq.2 rfl, Int.compare_eq_eq.2 rfl]
  · have h2 : b * p < a * p := Nat.mul_lt_mul_of_pos_right h hp
    have e1 : compare (a : Int) (b : Int) = .gt := Int.compare_eq_gt.2 (by omega)
    rw [e1]; exact Int.compare_eq_gt.2 (by omega)
/-- Two numbers that are not below nought stand as their bits do. -/
theorem order_bits {x y : Nat} (hx : x < 9218868437227405312) (hy : y < 9218868437227405312) : (FloatKind.format .f64).order x y = some (compare x y) := by
  obtain ⟨m, e, h1, h2⟩ := read_num hx
  obtain ⟨n, f, h3, h4⟩ := read_num hy
  unfold Ieee.Format.order
  rw [h1, h3]
  simp only [Ieee.Datum.order]
  congr 1
  rcases Nat.le_total e f with h | h
  · obtain ⟨d, rfl⟩ := Nat.exists_eq_add_of_le h
    have e1 : ((-1074 + (e : Int)) - min (-1074 + (e : Int)) (-1074 + ((e + d : Nat) : Int))).toNat = 0 := by omega
    have e2 : ((-1074 + ((e + d : Nat) : Int)) - min (-1074 + (e : Int)) (-1074 + ((e + d : Nat) : Int))).toNat = d := by omega
    rw [e1, e2, ← valR_compare, ← h2, ← h4, Nat.pow_add, ← Nat.mul_assoc]
    have a1 : Ieee.signed false m 0 = ((m : Nat) : Int) := by simp [Ieee.signed]
    have a2 : Ieee.signed false n d = ((n * 2 ^ d : Nat) : Int) := by simp [Ieee.signed, Nat.shiftLeft_eq]
    rw [a1, a2, Nat.mul_right_comm, compare_mul _ _ _ (Nat.two_pow_pos e)]
  · obtain ⟨d, rfl⟩ := Nat.exists_eq_add_of_le h
    have e1 : ((-1074 + ((f + d : Nat) : Int)) - min (-1074 + ((f + d : Nat) : Int)) (-1074 + (f : Int))).toNat = d := by omega
    have e2 : ((-1074 + (f : Int)) - min (-1074 + ((f + d : Nat) : Int)) (-1074 + (f : Int))).toNat = 0 := by omega
    rw [e1, e2, ← valR_compare, ← h2, ← h4, Nat.pow_add, ← Nat.mul_assoc]
    have a1 : Ieee.signed false n 0 = ((n : Nat) : Int) := by simp [Ieee.signed]
    have a2 : Ieee.signed false m d = ((m * 2 ^ d : Nat) : Int) := by simp [Ieee.signed, Nat.shiftLeft_eq]
    rw [a1, a2, Nat.mul_right_comm, compare_mul _ _ _ (Nat.two_pow_pos f)]
theorem absX_eq (x : Nat) : absX x = x % 9223372036854775808 := by unfold absX; rw [andNot_sign]; rfl
theorem ordX_self (x : Nat) : (ordX x x != some .eq) = nanX x := order_self x
theorem ord_inf : ordX 9218868437227405312 9218868437227405311 = some .gt := by decide
theorem class_num {x : Nat} : decide (2 < classX x) = decide (x % 9223372036854775808 < 9218868437227405312) := by
  unfold classX
  rw [ordX_self, absX_eq]
  by_cases h : 9218868437227405312 < x % 9223372036854775808
  · have hn : nanX x = true := by unfold nanX; simpa using h
    rw [hn, if_pos rfl]
    rw [decide_eq_decide]; omega
  · have hn : nanX x = false := by unfold nanX; simpa using h
    rw [hn]
    by_cases h2 : x % 9223372036854775808 = 9218868437227405312
    · rw [h2, ord_inf]; simp
    · have hlt : x % 9223372036854775808 < 9218868437227405312 := by omega
      have e1 : ordX (x % 9223372036854775808) 9218868437227405311 = some (compare (x % 9223372036854775808) 9218868437227405311) := order_bits hlt (by decide)
      rw [e1]
      have e2 : (some (compare (x % 9223372036854775808) 9218868437227405311) == some Ordering.gt) = false := by
        rw [beq_eq_false_iff_ne]
        intro e
        have := Nat.compare_eq_gt.1 (Option.some.inj e)
        omega
      rw [e2]
      have e3 : decide (x % 9223372036854775808 < 9218868437227405312) = true := by simpa using hlt
      rw [e3]
      simp only [Bool.false_eq_true, if_false]
      split
      · rfl
      · split <;> rfl
theorem sign_eq {x : Nat} (h : x < 18446744073709551616) : signX x = !((x : Int) / 9223372036854775808 == 0) := by
  unfold signX wrap64
  rw [Bool.eq_iff_iff]
  simp only [decide_eq_true_eq, Bool.not_eq_true', beq_eq_false_iff_ne, ne_eq]
  omega
theorem num_eq {x : Nat} (h : x < 18446744073709551616) : (decide (2 < classX x) && !negX x) = (decide (x % 9223372036854775808 < 9218868437227405312) && ((x : Int) / 9223372036854775808 == 0)) := by
  rw [class_num]
  by_cases h1 : x % 9223372036854775808 < 9218868437227405312
  · have hn : nanX x = false := by unfold nanX; rw [decide_eq_false_iff_not]; omega
    have h2 : ((FloatKind.format .f64).order x x == some .eq) = true := by
      have := order_self x
      rw [hn] at this
      simpa [bne] using this
    unfold negX
    rw [h2, sign_eq h]; simp
  · simp [h1]
/-- Places tell numbers apart, but for the NaNs. -/
theorem place_one {x y : Nat} (hx : x < 18446744073709551616) (hy : y < 18446744073709551616) : (placeX x = placeX y) ↔ (oneX x = oneX y) := by
  have hp : ∀ {x : Nat}, x < 18446744073709551616 → placeX x = if nanX x = true then 9223372036854775807 else if 9223372036854775808 ≤ x then -((x % 9223372036854775808 : Nat) : Int) - 1 else ((x % 9223372036854775808 : Nat) : Int) := by
    intro x hx
    unfold placeX
    rw [ordX_self, absX_eq, sign_eq hx]
    by_cases hn : nanX x = true
    · rw [if_pos hn, if_pos hn]
    · rw [if_neg hn, if_neg hn]
      by_cases h1 : 9223372036854775808 ≤ x
      · rw [if_pos h1, if_pos (by simp; omega)]
        unfold wrap64; omega
      · rw [if_neg h1, if_neg (by simp; omega)]
        unfold wrap64; omega
  have ho : ∀ {x : Nat}, nanX x = false → x % 9223372036854775808 ≤ 9218868437227405312 := fun {x} h => by unfold nanX at h; rw [decide_eq_false_iff_not] at h; omega
  rw [hp hx, hp hy, oneX_eq, oneX_eq]
  cases hnx : nanX x <;> cases hny : nanX y
  · have h1 := ho hnx
    have h2 := ho hny
    simp only [Bool.false_eq_true, if_false]
    split <;> split <;> omega
  · have h1 := ho hnx
    simp only [Bool.false_eq_true, if_false, if_true]
    constructor
    · intro h; split at h <;> omega
    · intro h
      exfalso
      rw [h] at hnx
      exact absurd hnx (by decide)
  · have h1 := ho hny
    simp only [Bool.false_eq_true, if_false, if_true]
    constructor
    · intro h; split at h <;> omega
    · intro h
      exfalso
      rw [← h] at hny
      exact absurd hny (by decide)
  · simp

theorem wrap_swap (x c : Int) : wrap64 (wrap64 (x + 1) + c) = wrap64 (wrap64 (x + c) + 1) := by unfold wrap64; omega
set_option maxRecDepth 100000 in
set_option maxHeartbeats 4000000 in
theorem count12_any : ∀ (n : Nat) (t : NodeT) (a : Option Addr) (cap : Nat) (w : World), ArgsIn w n (.slice a t.args.length cap) t.args →
    Calls Tryz.prog 92 #[nodeV t a t.args.length cap] w fun e w' => e = .returned (.int .i64 (measT t).1) ∧ Gr w w' := by
  intro n
  induction n using Nat.strongRecOn with
  | ind n ih =>
    intro t a cap w hin
    have HIN := Lib.hid hin
    obtain ⟨_, _, he, q1, q2⟩ := hin.shape
    cases he
    have IH := Lib.hid ih
    obtain ⟨w0, hw0, hg0, hs0, hN⟩ := boxN w t a t.args.length cap 44
    have HG0 := Lib.hid hg0
    have HN := Lib.hid hN
    have c14 := hN.c14
    rw [Nat.zero_add] at c14
    generalize hmt : (measT t).1 = mt
    have HM := Lib.hid hmt
    have HW : Hid ((measL (t.args.drop 0) 0 0).1 = (measL t.args 0 0).1) := by rw [List.drop_zero]; rfl
    clear hin hN hg0 ih hmt
    go_enter Tryz.func92, Tryz.ntmps92
    go_wp2_with fail
    clear hw0
    go_loopw [3, 4] (fun s3 s4 wr => ∃ (i : Nat) (z x y : Int), i ≤ t.args.length ∧ s4 = .int .i64 i ∧ s3 = .int .i64 z ∧ Hid (z = wrap64 (x + 1)) ∧ Hid ((measL (t.args.drop i) x y).1 = (measL t.args 0 0).1) ∧ Hid (Gr w0 wr)) (fun _ s4 _ => t.args.length - (intOf s4).toNat)
    case atStart => exact ⟨0, 1, 0, 0, Nat.zero_le _, rfl, rfl, by unfold Hid wrap64; omega, HW, Gr.refl _⟩
    case round =>
      obtain ⟨i, z, x, y, hi, rfl, rfl, HZ, HWi, HG⟩ := hrel
      have c14r := (HG.out.xt.cells).1 w.heap.size 14 (by omega)
      rw [c14] at c14r
      by_cases hlt : i < t.args.length
      · have hii : (i : Int) < (t.args.length : Int) := by omega
        obtain ⟨u, hx⟩ : ∃ u, t.args[i]? = some u := ⟨t.args[i], by simp [hlt]⟩
        have hdr := drop_at hx
        obtain ⟨n', b, off, a', c', hn, rfl, hA, hI⟩ := HIN.out.at hx
        have hxw : Xt w wr := HG0.out.xt.trans HG.out.xt
        obtain ⟨d0, d1, d2, d3, d4, d5, d6, d7, d8, d9, d10, d11, d12, d13, d14⟩ := hA.xt hxw
        have hcall := IH.out n' (by omega) u a' c' wr (hI.xt hxw)
        have HSTEP : Hid ((measL (t.args.drop (i + 1)) (wrap64 (x + (measT u).1)) (max y (measT u).2)).1 = (measL t.args 0 0).1) := by
          have h := HWi.out
          rw [hdr] at h
          simp only [measL] at h
          exact h
        have HCALL := Lib.hid hcall
        generalize measT u = mu at HSTEP HCALL
        obtain ⟨m1, m2⟩ := mu
        simp only at HSTEP HCALL
        have HZ2 : Hid (wrap64 (z + m1) = wrap64 (wrap64 (x + m1) + 1)) := by rw [HZ.out]; exact wrap_swap x m1
        clear hx hdr hA hI hn hcall hxw
        go_wp2_with fail
        refine (HCALL.out).mono ?_
        rintro e w2 ⟨rfl, hg2⟩
        have HG2 := Lib.hid hg2
        clear hg2 d0 d1 d2 d3 d4 d5 d6 d7 d8 d9 d10 d11 d12 d13 d14
        go_wp2_with fail
        go_roundw
        case rel => exact ⟨i + 1, _, _, _, by omega, by go_num, rfl, HZ2, HSTEP, HG.out.trans HG2.out⟩
        case measure => simp [intOf]; omega
      · have HE : Hid (x = (measL t.args 0 0).1) := by
          have h := HWi.out
          rw [List.drop_eq_nil_of_le (by omega)] at h
          simp only [measL] at h
          exact h
        go_wp2_with fail
        go_ret
        refine ⟨?_, HG0.out.trans HG.out⟩
        refine congrArg (fun q => Ending.returned (.int .i64 q)) ?_
        rw [← HM.out, measT_eq, ← HE.out]
        exact HZ.out
set_option maxRecDepth 100000 in
set_option maxHeartbeats 4000000 in
theorem depth12_any : ∀ (n : Nat) (t : NodeT) (a : Option Addr) (cap : Nat) (w : World), ArgsIn w n (.slice a t.args.length cap) t.args →
    Calls Tryz.prog 93 #[nodeV t a t.args.length cap] w fun e w' => e = .returned (.int .i64 (measT t).2) ∧ Gr w w' := by
  intro n
  induction n using Nat.strongRecOn with
  | ind n ih =>
    intro t a cap w hin
    have HIN := Lib.hid hin
    obtain ⟨_, _, he, q1, q2⟩ := hin.shape
    cases he
    have IH := Lib.hid ih
    obtain ⟨w0, hw0, hg0, hs0, hN⟩ := boxN w t a t.args.length cap 44
    have HG0 := Lib.hid hg0
    have HN := Lib.hid hN
    have c14 := hN.c14
    rw [Nat.zero_add] at c14
    generalize hmt : (measT t).2 = mt
    have HM := Lib.hid hmt
    have HW : Hid ((measL (t.args.drop 0) 0 0).2 = (measL t.args 0 0).2) := by rw [List.drop_zero]; rfl
    clear hin hN hg0 ih hmt
    go_enter Tryz.func93, Tryz.ntmps93
    go_wp2_with fail
    clear hw0
    go_loopw [3, 4] (fun s3 s4 wr => ∃ (i : Nat) (x y : Int), i ≤ t.args.length ∧ s4 = .int .i64 i ∧ s3 = .int .i64 y ∧ Hid ((measL (t.args.drop i) x y).2 = (measL t.args 0 0).2) ∧ Hid (Gr w0 wr)) (fun _ s4 _ => t.args.length - (intOf s4).toNat)
    case atStart => exact ⟨0, 0, 0, Nat.zero_le _, rfl, rfl, HW, Gr.refl _⟩
    case round =>
      obtain ⟨i, x, y, hi, rfl, rfl, HWi, HG⟩ := hrel
      have c14r := (HG.out.xt.cells).1 w.heap.size 14 (by omega)
      rw [c14] at c14r
      by_cases hlt : i < t.args.length
      · have hii : (i : Int) < (t.args.length : Int) := by omega
        obtain ⟨u, hx⟩ : ∃ u, t.args[i]? = some u := ⟨t.args[i], by simp [hlt]⟩
        have hdr := drop_at hx
        obtain ⟨n', b, off, a', c', hn, rfl, hA, hI⟩ := HIN.out.at hx
        have hxw : Xt w wr := HG0.out.xt.trans HG.out.xt
        obtain ⟨d0, d1, d2, d3, d4, d5, d6, d7, d8, d9, d10, d11, d12, d13, d14⟩ := hA.xt hxw
        have hcall := IH.out n' (by omega) u a' c' wr (hI.xt hxw)
        have HSTEP : Hid ((measL (t.args.drop (i + 1)) (wrap64 (x + (measT u).1)) (max y (measT u).2)).2 = (measL t.args 0 0).2) := by
          have h := HWi.out
          rw [hdr] at h
          simp only [measL] at h
          exact h
        have HCALL := Lib.hid hcall
        generalize measT u = mu at HSTEP HCALL
        obtain ⟨m1, m2⟩ := mu
        simp only at HSTEP HCALL
        clear hx hdr hA hI hn hcall hxw
        go_wp2_with fail
        refine (HCALL.out).mono ?_
        rintro e w2 ⟨rfl, hg2⟩
        have HG2 := Lib.hid hg2
        clear hg2 d0 d1 d2 d3 d4 d5 d6 d7 d8 d9 d10 d11 d12 d13 d14
        go_wp2_with fail
        go_roundw
        case rel => exact ⟨i + 1, _, _, by omega, by go_num, rfl, (by first | exact HSTEP | (rw [show (if y < m2 then m2 else y) = max y m2 from by omega]; exact HSTEP)), HG.out.trans HG2.out⟩
        case measure => simp [intOf]; omega
      · have HE : Hid (y = (measL t.args 0 0).2) := by
          have h := HWi.out
          rw [List.drop_eq_nil_of_le (by omega)] at h
          simp only [measL] at h
          exact h
        go_wp2_with fail
        go_ret
        refine ⟨?_, HG0.out.trans HG.out⟩
        refine congrArg (fun q => Ending.returned (.int .i64 q)) ?_
        rw [← HM.out, measT_eq, ← HE.out]

def wordsOf (cur : List UInt8) : List UInt8 → List (List UInt8)
  | [] => [cur]
  | c :: r => if c = 32 then cur :: wordsOf [] r else wordsOf (cur ++ [c]) r
theorem oneR_words (n : List UInt8) : ∀ (L cur : List UInt8), oneR n cur L = ((wordsOf cur L).any (fun x => x == n) && !(n == []))
  | [], cur => by simp [oneR, wordsOf]
  | c :: r, cur => by
    unfold oneR wordsOf
    by_cases h : c = 32
    · rw [if_pos h, if_pos h, oneR_words n r, List.any_cons, Bool.and_or_distrib_right]
    · rw [if_neg h, if_neg h, oneR_words n r]
def names0 : List UInt8 := [65, 66, 83, 32, 73, 78, 84, 32, 73, 83, 66, 76, 65, 78, 75, 32, 73, 83, 69, 82, 82, 79, 82, 32, 73, 83, 78, 85, 77, 66, 69, 82, 32, 73, 83, 84, 69, 88, 84, 32, 76, 69, 78, 32, 78, 79, 84, 32, 83, 73, 71, 78, 32, 83, 73, 78, 71, 76, 69, 32, 83, 81, 82, 84, 32, 84, 82, 85, 78, 67, 32, 86, 65, 76, 85, 69]
theorem words0 : wordsOf [] names0 = [[65, 66, 83], [73, 78, 84], [73, 83, 66, 76, 65, 78, 75], [73, 83, 69, 82, 82, 79, 82], [73, 83, 78, 85, 77, 66, 69, 82], [73, 83, 84, 69, 88, 84], [76, 69, 78], [78, 79, 84], [83, 73, 71, 78], [83, 73, 78, 71, 76, 69], [83, 81, 82, 84], [84, 82, 85, 78, 67], [86, 65, 76, 85, 69]] := by kernel_rfl
def names1 : List UInt8 := [69, 88, 65, 67, 84, 32, 73, 70, 69, 82, 82, 79, 82, 32, 76, 65, 82, 71, 69, 32, 76, 69, 70, 84, 32, 77, 79, 68, 32, 80, 69, 82, 67, 69, 78, 84, 73, 76, 69, 32, 80, 79, 87, 69, 82, 32, 82, 69, 80, 84, 32, 82, 73, 71, 72, 84, 32, 82, 79, 85, 78, 68, 32, 82, 79, 85, 78, 68, 68, 79, 87, 78, 32, 82, 79, 85, 78, 68, 69, 86, 69, 78, 32, 82, 79, 85, 78, 68, 85, 80, 32, 83, 77, 65, 76, 76, 32, 83, 85, 77, 80, 82, 79, 68, 85, 67, 84, 32, 84, 69, 88, 84]
theorem words1 : wordsOf [] names1 = [[69, 88, 65, 67, 84], [73, 70, 69, 82, 82, 79, 82], [76, 65, 82, 71, 69], [76, 69, 70, 84], [77, 79, 68], [80, 69, 82, 67, 69, 78, 84, 73, 76, 69], [80, 79, 87, 69, 82], [82, 69, 80, 84], [82, 73, 71, 72, 84], [82, 79, 85, 78, 68], [82, 79, 85, 78, 68, 68, 79, 87, 78], [82, 79, 85, 78, 68, 69, 86, 69, 78], [82, 79, 85, 78, 68, 85, 80], [83, 77, 65, 76, 76], [83, 85, 77, 80, 82, 79, 68, 85, 67, 84], [84, 69, 88, 84]] := by kernel_rfl
def names2 : List UInt8 := [73, 70, 32, 82, 65, 78, 75]
theorem words2 : wordsOf [] names2 = [[73, 70], [82, 65, 78, 75]] := by kernel_rfl
def names3 : List UInt8 := [67, 79, 85, 78, 84, 73, 70, 32, 70, 85, 83, 69, 68, 32, 77, 73, 68]
theorem words3 : wordsOf [] names3 = [[67, 79, 85, 78, 84, 73, 70], [70, 85, 83, 69, 68], [77, 73, 68]] := by kernel_rfl
def names4 : List UInt8 := [65, 78, 68, 32, 65, 86, 69, 82, 65, 71, 69, 32, 67, 79, 85, 78, 84, 32, 67, 79, 85, 78, 84, 65, 32, 74, 79, 73, 78, 32, 77, 65, 88, 32, 77, 69, 68, 73, 65, 78, 32, 77, 73, 78, 32, 77, 79, 68, 69, 32, 79, 82, 32, 83, 84, 68, 69, 86, 32, 83, 84, 68, 69, 86, 80, 32, 83, 85, 77, 32, 83, 85, 77, 83, 81, 32, 86, 65, 82, 32, 86, 65, 82, 80]
theorem words4 : wordsOf [] names4 = [[65, 78, 68], [65, 86, 69, 82, 65, 71, 69], [67, 79, 85, 78, 84], [67, 79, 85, 78, 84, 65], [74, 79, 73, 78], [77, 65, 88], [77, 69, 68, 73, 65, 78], [77, 73, 78], [77, 79, 68, 69], [79, 82], [83, 84, 68, 69, 86], [83, 84, 68, 69, 86, 80], [83, 85, 77], [83, 85, 77, 83, 81], [86, 65, 82], [86, 65, 82, 80]] := by kernel_rfl
def docF (n : List UInt8) : Int × Int × Bool :=
  if (n == [78, 65]) = true then (0, 0, true) else
  if oneR n [] names0 = true then (1, 1, true) else
  if oneR n [] names1 = true then (2, 2, true) else
  if oneR n [] names2 = true then (2, 3, true) else
  if oneR n [] names3 = true then (3, 3, true) else
  if oneR n [] names4 = true then (1, 256, true) else
  if (n == [67, 72, 79, 79, 83, 69]) = true then (2, 256, true) else (0, 0, false)
set_option maxRecDepth 100000 in
set_option maxHeartbeats 4000000 in
theorem docF_eq (n : List UInt8) : docF n = knownF n := by
  by_cases h0 : n = [78, 65]
  · rw [h0]; kernel_rfl
  by_cases h1 : n = [65, 66, 83]
  · rw [h1]; kernel_rfl
  by_cases h2 : n = [73, 78, 84]
  · rw [h2]; kernel_rfl
  by_cases h3 : n = [73, 83, 66, 76, 65, 78, 75]
  · rw [h3]; kernel_rfl
  by_cases h4 : n = [73, 83, 69, 82, 82, 79, 82]
  · rw [h4]; kernel_rfl
  by_cases h5 : n = [73, 83, 78, 85, 77, 66, 69, 82]
  · rw [h5]; kernel_rfl
  by_cases h6 : n = [73, 83, 84, 69, 88, 84]
  · rw [h6]; kernel_rfl
  by_cases h7 : n = [76, 69, 78]
  · rw [h7]; kernel_rfl
  by_cases h8 : n = [78, 79, 84]
  · rw [h8]; kernel_rfl
  by_cases h9 : n = [83, 73, 71, 78]
  · rw [h9]; kernel_rfl
  by_cases h10 : n = [83, 73, 78, 71, 76, 69]
  · rw [h10]; kernel_rfl
  by_cases h11 : n = [83, 81, 82, 84]
  · rw [h11]; kernel_rfl
  by_cases h12 : n = [84, 82, 85, 78, 67]
  · rw [h12]; kernel_rfl
  by_cases h13 : n = [86, 65, 76, 85, 69]
  · rw [h13]; kernel_rfl
  by_cases h14 : n = [69, 88, 65, 67, 84]
  · rw [h14]; kernel_rfl
  by_cases h15 : n = [73, 70, 69, 82, 82, 79, 82]
  · rw [h15]; kernel_rfl
  by_cases h16 : n = [76, 65, 82, 71, 69]
  · rw [h16]; kernel_rfl
  by_cases h17 : n = [76, 69, 70, 84]
  · rw [h17]; kernel_rfl
  by_cases h18 : n = [77, 79, 68]
  · rw [h18]; kernel_rfl
  by_cases h19 : n = [80, 69, 82, 67, 69, 78, 84, 73, 76, 69]
  · rw [h19]; kernel_rfl
  by_cases h20 : n = [80, 79, 87, 69, 82]
  · rw [h20]; kernel_rfl
  by_cases h21 : n = [82, 69, 80, 84]
  · rw [h21]; kernel_rfl
  by_cases h22 : n = [82, 73, 71, 72, 84]
  · rw [h22]; kernel_rfl
  by_cases h23 : n = [82, 79, 85, 78, 68]
  · rw [h23]; kernel_rfl
  by_cases h24 : n = [82, 79, 85, 78, 68, 68, 79, 87, 78]
  · rw [h24]; kernel_rfl
  by_cases h25 : n = [82, 79, 85, 78, 68, 69, 86, 69, 78]
  · rw [h25]; kernel_rfl
  by_cases h26 : n = [82, 79, 85, 78, 68, 85, 80]
  · rw [h26]; kernel_rfl
  by_cases h27 : n = [83, 77, 65, 76, 76]
  · rw [h27]; kernel_rfl
  by_cases h28 : n = [83, 85, 77, 80, 82, 79, 68, 85, 67, 84]
  · rw [h28]; kernel_rfl
  by_cases h29 : n = [84, 69, 88, 84]
  · rw [h29]; kernel_rfl
  by_cases h30 : n = [73, 70]
  · rw [h30]; kernel_rfl
  by_cases h31 : n = [82, 65, 78, 75]
  · rw [h31]; kernel_rfl
  by_cases h32 : n = [67, 79, 85, 78, 84, 73, 70]
  · rw [h32]; kernel_rfl
  by_cases h33 : n = [70, 85, 83, 69, 68]
  · rw [h33]; kernel_rfl
  by_cases h34 : n = [77, 73, 68]
  · rw [h34]; kernel_rfl
  by_cases h35 : n = [65, 78, 68]
  · rw [h35]; kernel_rfl
  by_cases h36 : n = [65, 86, 69, 82, 65, 71, 69]
  · rw [h36]; kernel_rfl
  by_cases h37 : n = [67, 79, 85, 78, 84]
  · rw [h37]; kernel_rfl
  by_cases h38 : n = [67, 79, 85, 78, 84, 65]
  · rw [h38]; kernel_rfl
  by_cases h39 : n = [74, 79, 73, 78]
  · rw [h39]; kernel_rfl
  by_cases h40 : n = [77, 65, 88]
  · rw [h40]; kernel_rfl
  by_cases h41 : n = [77, 69, 68, 73, 65, 78]
  · rw [h41]; kernel_rfl
  by_cases h42 : n = [77, 73, 78]
  · rw [h42]; kernel_rfl
  by_cases h43 : n = [77, 79, 68, 69]
  · rw [h43]; kernel_rfl
  by_cases h44 : n = [79, 82]
  · rw [h44]; kernel_rfl
  by_cases h45 : n = [83, 84, 68, 69, 86]
  · rw [h45]; kernel_rfl
  by_cases h46 : n = [83, 84, 68, 69, 86, 80]
  · rw [h46]; kernel_rfl
  by_cases h47 : n = [83, 85, 77]
  · rw [h47]; kernel_rfl
  by_cases h48 : n = [83, 85, 77, 83, 81]
  · rw [h48]; kernel_rfl
  by_cases h49 : n = [86, 65, 82]
  · rw [h49]; kernel_rfl
  by_cases h50 : n = [86, 65, 82, 80]
  · rw [h50]; kernel_rfl
  by_cases h51 : n = [67, 72, 79, 79, 83, 69]
  · rw [h51]; kernel_rfl
  have hk : takesF n = (-1, -1) := by
    unfold takesF
    simp only [h0, h1, h2, h3, h4, h5, h6, h7, h8, h9, h10, h11, h12, h13, h14, h15, h16, h17, h18, h19, h20, h21, h22, h23, h24, h25, h26, h27, h28, h29, h30, h31, h32, h33, h34, h35, h36, h37, h38, h39, h40, h41, h42, h43, h44, h45, h46, h47, h48, h49, h50, h51, if_false]
  have hf : knownF n = (0, 0, false) := by unfold knownF; rw [hk]; rfl
  rw [hf]
  have o0 : oneR n [] names0 = false := by
    rw [oneR_words, words0]
    simp only [List.any_cons, List.any_nil, beq_eq_false_iff_ne.2 (Ne.symm h1), beq_eq_false_iff_ne.2 (Ne.symm h2), beq_eq_false_iff_ne.2 (Ne.symm h3), beq_eq_false_iff_ne.2 (Ne.symm h4), beq_eq_false_iff_ne.2 (Ne.symm h5), beq_eq_false_iff_ne.2 (Ne.symm h6), beq_eq_false_iff_ne.2 (Ne.symm h7), beq_eq_false_iff_ne.2 (Ne.symm h8), beq_eq_false_iff_ne.2 (Ne.symm h9), beq_eq_false_iff_ne.2 (Ne.symm h10), beq_eq_false_iff_ne.2 (Ne.symm h11), beq_eq_false_iff_ne.2 (Ne.symm h12), beq_eq_false_iff_ne.2 (Ne.symm h13), Bool.or_false, Bool.false_and]
  have o1 : oneR n [] names1 = false := by
    rw [oneR_words, words1]
    simp only [List.any_cons, List.any_nil, beq_eq_false_iff_ne.2 (Ne.symm h14), beq_eq_false_iff_ne.2 (Ne.symm h15), beq_eq_false_iff_ne.2 (Ne.symm h16), beq_eq_false_iff_ne.2 (Ne.symm h17), beq_eq_false_iff_ne.2 (Ne.symm h18), beq_eq_false_iff_ne.2 (Ne.symm h19), beq_eq_false_iff_ne.2 (Ne.symm h20), beq_eq_false_iff_ne.2 (Ne.symm h21), beq_eq_false_iff_ne.2 (Ne.symm h22), beq_eq_false_iff_ne.2 (Ne.symm h23), beq_eq_false_iff_ne.2 (Ne.symm h24), beq_eq_false_iff_ne.2 (Ne.symm h25), beq_eq_false_iff_ne.2 (Ne.symm h26), beq_eq_false_iff_ne.2 (Ne.symm h27), beq_eq_false_iff_ne.2 (Ne.symm h28), beq_eq_false_iff_ne.2 (Ne.symm h29), Bool.or_false, Bool.false_and]
  have o2 : oneR n [] names2 = false := by
    rw [oneR_words, words2]
    simp only [List.any_cons, List.any_nil, beq_eq_false_iff_ne.2 (Ne.symm h30), beq_eq_false_iff_ne.2 (Ne.symm h31), Bool.or_false, Bool.false_and]
  have o3 : oneR n [] names3 = false := by
    rw [oneR_words, words3]
    simp only [List.any_cons, List.any_nil, beq_eq_false_iff_ne.2 (Ne.symm h32), beq_eq_false_iff_ne.2 (Ne.symm h33), beq_eq_false_iff_ne.2 (Ne.symm h34), Bool.or_false, Bool.false_and]
  have o4 : oneR n [] names4 = false := by
    rw [oneR_words, words4]
    simp only [List.any_cons, List.any_nil, beq_eq_false_iff_ne.2 (Ne.symm h35), beq_eq_false_iff_ne.2 (Ne.symm h36), beq_eq_false_iff_ne.2 (Ne.symm h37), beq_eq_false_iff_ne.2 (Ne.symm h38), beq_eq_false_iff_ne.2 (Ne.symm h39), beq_eq_false_iff_ne.2 (Ne.symm h40), beq_eq_false_iff_ne.2 (Ne.symm h41), beq_eq_false_iff_ne.2 (Ne.symm h42), beq_eq_false_iff_ne.2 (Ne.symm h43), beq_eq_false_iff_ne.2 (Ne.symm h44), beq_eq_false_iff_ne.2 (Ne.symm h45), beq_eq_false_iff_ne.2 (Ne.symm h46), beq_eq_false_iff_ne.2 (Ne.symm h47), beq_eq_false_iff_ne.2 (Ne.symm h48), beq_eq_false_iff_ne.2 (Ne.symm h49), beq_eq_false_iff_ne.2 (Ne.symm h50), Bool.or_false, Bool.false_and]
  unfold docF
  rw [o0, o1, o2, o3, o4, beq_eq_false_iff_ne.2 h0, beq_eq_false_iff_ne.2 h51]
  rfl
set_option maxRecDepth 100000 in
set_option maxHeartbeats 4000000 in
theorem Known12_any (s : ByteArray) (w : World) :
    Calls Tryz.prog 130 #[.string s] w fun e w' => e = .returned (.tuple #[.int .i64 (knownF s.toList).1, .int .i64 (knownF s.toList).2.1, .bool (knownF s.toList).2.2]) ∧ w = w' := by
  rw [← docF_eq]
  have H1 := Lib.hid (fun W => one_any s names0 (by decide) W)
  have H2 := Lib.hid (fun W => one_any s names1 (by decide) W)
  have H3 := Lib.hid (fun W => one_any s names2 (by decide) W)
  have H4 := Lib.hid (fun W => one_any s names3 (by decide) W)
  have H5 := Lib.hid (fun W => one_any s names4 (by decide) W)
  unfold docF
  generalize oneR s.toList [] names0 = b1 at H1 ⊢
  generalize oneR s.toList [] names1 = b2 at H2 ⊢
  generalize oneR s.toList [] names2 = b3 at H3 ⊢
  generalize oneR s.toList [] names3 = b4 at H4 ⊢
  generalize oneR s.toList [] names4 = b5 at H5 ⊢
  obtain ⟨b0, hb0⟩ : ∃ b, (s.toList == [78, 65]) = b := ⟨_, rfl⟩
  obtain ⟨b6, hb6⟩ : ∃ b, (s.toList == [67, 72, 79, 79, 83, 69]) = b := ⟨_, rfl⟩
  rw [hb0, hb6]
  cases b0 with
  | true =>
    go_enter Tryz.func130, Tryz.ntmps130
    go_wp2_with (first | (refine (H1.out _).mono ?_; clear H1; rintro e w' ⟨rfl, rfl⟩) | (refine (H2.out _).mono ?_; clear H2; rintro e w' ⟨rfl, rfl⟩) | (refine (H3.out _).mono ?_; clear H3; rintro e w' ⟨rfl, rfl⟩) | (refine (H4.out _).mono ?_; clear H4; rintro e w' ⟨rfl, rfl⟩) | (refine (H5.out _).mono ?_; clear H5; rintro e w' ⟨rfl, rfl⟩))
    go_ret3
    exact ⟨rfl, rfl⟩
  | false =>
    cases b1 with
    | true =>
      go_enter Tryz.func130, Tryz.ntmps130
      go_wp2_with (first | (refine (H1.out _).mono ?_; clear H1; rintro e w' ⟨rfl, rfl⟩) | (refine (H2.out _).mono ?_; clear H2; rintro e w' ⟨rfl, rfl⟩) | (refine (H3.out _).mono ?_; clear H3; rintro e w' ⟨rfl, rfl⟩) | (refine (H4.out _).mono ?_; clear H4; rintro e w' ⟨rfl, rfl⟩) | (refine (H5.out _).mono ?_; clear H5; rintro e w' ⟨rfl, rfl⟩))
      go_ret3
      exact ⟨rfl, rfl⟩
    | false =>
      cases b2 with
      | true =>
        go_enter Tryz.func130, Tryz.ntmps130
        go_wp2_with (first | (refine (H1.out _).mono ?_; clear H1; rintro e w' ⟨rfl, rfl⟩) | (refine (H2.out _).mono ?_; clear H2; rintro e w' ⟨rfl, rfl⟩) | (refine (H3.out _).mono ?_; clear H3; rintro e w' ⟨rfl, rfl⟩) | (refine (H4.out _).mono ?_; clear H4; rintro e w' ⟨rfl, rfl⟩) | (refine (H5.out _).mono ?_; clear H5; rintro e w' ⟨rfl, rfl⟩))
        go_ret3
        exact ⟨rfl, rfl⟩
      | false =>
        cases b3 with
        | true =>
          go_enter Tryz.func130, Tryz.ntmps130
          go_wp2_with (first | (refine (H1.out _).mono ?_; clear H1; rintro e w' ⟨rfl, rfl⟩) | (refine (H2.out _).mono ?_; clear H2; rintro e w' ⟨rfl, rfl⟩) | (refine (H3.out _).mono ?_; clear H3; rintro e w' ⟨rfl, rfl⟩) | (refine (H4.out _).mono ?_; clear H4; rintro e w' ⟨rfl, rfl⟩) | (refine (H5.out _).mono ?_; clear H5; rintro e w' ⟨rfl, rfl⟩))
          go_ret3
          exact ⟨rfl, rfl⟩
        | false =>
          cases b4 with
          | true =>
            go_enter Tryz.func130, Tryz.ntmps130
            go_wp2_with (first | (refine (H1.out _).mono ?_; clear H1; rintro e w' ⟨rfl, rfl⟩) | (refine (H2.out _).mono ?_; clear H2; rintro e w' ⟨rfl, rfl⟩) | (refine (H3.out _).mono ?_; clear H3; rintro e w' ⟨rfl, rfl⟩) | (refine (H4.out _).mono ?_; clear H4; rintro e w' ⟨rfl, rfl⟩) | (refine (H5.out _).mono ?_; clear H5; rintro e w' ⟨rfl, rfl⟩))
            go_ret3
            exact ⟨rfl, rfl⟩
          | false =>
            cases b5 with
            | true =>
              go_enter Tryz.func130, Tryz.ntmps130
              go_wp2_with (first | (refine (H1.out _).mono ?_; clear H1; rintro e w' ⟨rfl, rfl⟩) | (refine (H2.out _).mono ?_; clear H2; rintro e w' ⟨rfl, rfl⟩) | (refine (H3.out _).mono ?_; clear H3; rintro e w' ⟨rfl, rfl⟩) | (refine (H4.out _).mono ?_; clear H4; rintro e w' ⟨rfl, rfl⟩) | (refine (H5.out _).mono ?_; clear H5; rintro e w' ⟨rfl, rfl⟩))
              go_ret3
              exact ⟨rfl, rfl⟩
            | false =>
              cases b6 with
              | true =>
                go_enter Tryz.func130, Tryz.ntmps130
                go_wp2_with (first | (refine (H1.out _).mono ?_; clear H1; rintro e w' ⟨rfl, rfl⟩) | (refine (H2.out _).mono ?_; clear H2; rintro e w' ⟨rfl, rfl⟩) | (refine (H3.out _).mono ?_; clear H3; rintro e w' ⟨rfl, rfl⟩) | (refine (H4.out _).mono ?_; clear H4; rintro e w' ⟨rfl, rfl⟩) | (refine (H5.out _).mono ?_; clear H5; rintro e w' ⟨rfl, rfl⟩))
                go_ret3
                exact ⟨rfl, rfl⟩
              | false =>
                go_enter Tryz.func130, Tryz.ntmps130
                go_wp2_with (first | (refine (H1.out _).mono ?_; clear H1; rintro e w' ⟨rfl, rfl⟩) | (refine (H2.out _).mono ?_; clear H2; rintro e w' ⟨rfl, rfl⟩) | (refine (H3.out _).mono ?_; clear H3; rintro e w' ⟨rfl, rfl⟩) | (refine (H4.out _).mono ?_; clear H4; rintro e w' ⟨rfl, rfl⟩) | (refine (H5.out _).mono ?_; clear H5; rintro e w' ⟨rfl, rfl⟩))
                go_ret3
                exact ⟨rfl, rfl⟩
end
end Go.Proofs.YtideclfpbpjebaaGreatDoor
