/- The document's Count and Depth of a formula. -/
import Derived.Test.YtlgkaipgdhcajaaGreatDoorW12
namespace Go.Proofs.YtlgkaipgdhcajaaGreatDoor
open Go.RowKit Go.Sort

theorem wrap_swap (x c : Int) : wrap64 (wrap64 (x + 1) + c) = wrap64 (wrap64 (x + c) + 1) := by unfold wrap64; omega
set_option maxRecDepth 100000 in
set_option maxHeartbeats 4000000 in
theorem count12_any : ∀ (n : Nat) (t : NodeT) (a : Option Addr) (cap : Nat) (w : World), ArgsIn w n (.slice a t.args.length cap) t.args →
    Calls Tryz.prog 75 #[nodeV t a t.args.length cap] w fun e w' => e = .returned (.int .i64 (measT t).1) ∧ Gr w w' := by
  intro n
  induction n using Nat.strongRecOn with
  | ind n ih =>
    intro t a cap w hin
    have HIN := Lib.hid hin
    obtain ⟨_, _, he, q1, q2⟩ := hin.shape
    cases he
    have IH := Lib.hid ih
    obtain ⟨w0, hw0, hg0, hs0, hN⟩ := boxN w t a t.args.length cap 29
    have HG0 := Lib.hid hg0
    have HN := Lib.hid hN
    have c14 := hN.c14
    rw [Nat.zero_add] at c14
    generalize hmt : (measT t).1 = mt
    have HM := Lib.hid hmt
    have HW : Hid ((measL (t.args.drop 0) 0 0).1 = (measL t.args 0 0).1) := by rw [List.drop_zero]; rfl
    clear hin hN hg0 ih hmt
    go_enter Tryz.func75, Tryz.ntmps75
    go_wp2_with fail
    clear hw0
    go_loopw [3, 4] (fun s3 s4 wr => ∃ (i : Nat) (z x y : Int), i ≤ t.args.length ∧ s4 = .int .i64 i ∧ s3 = .int .i64 z ∧ Hid (z = wrap64 (x + 1)) ∧ Hid ((measL (t.args.drop i) x y).1 = (measL t.args 0 0).1) ∧ Hid (Gr w0 wr)) (fun _ s4 _ => t.args.length - (intOf s4).toNat)
    case atStart => exact ⟨0, 1, 0, 0, Nat.zero_le _, rfl, rfl, by unfold Hid wrap64; omega, HW, Gr.refl _⟩
    case round =>
      obtain ⟨i, z, x, y, hi, rfl, rfl, HZ, HWi, HG⟩ := hrel
      have c14r := (HG.out.xt.cells).1 w.heap.size 14 (by omega)
      rw [c14] at c14r
      by_cases hlt : i < t.args.length
      · have hii : (i : Int) < (t.args.length : Int) := by omega
        obtain ⟨u, hx⟩ : ∃ u, t.args[i]? = some u := ⟨t.args[i], by simp [hlt]⟩
        have hdr := drop_at hx
        obtain ⟨n', b, off, a', c', hn, rfl, hA, hI⟩ := HIN.out.at hx
        have hxw : Xt w wr := HG0.out.xt.trans HG.out.xt
        obtain ⟨d0, d1, d2, d3, d4, d5, d6, d7, d8, d9, d10, d11, d12, d13, d14⟩ := hA.xt hxw
        have hcall := IH.out n' (by omega) u a' c' wr (hI.xt hxw)
        have HSTEP : Hid ((measL (t.args.drop (i + 1)) (wrap64 (x + (measT u).1)) (max y (measT u).2)).1 = (measL t.args 0 0).1) := by
          have h := HWi.out
          rw [hdr] at h
          simp only [measL] at h
          exact h
        have HCALL := Lib.hid hcall
        generalize measT u = mu at HSTEP HCALL
        obtain ⟨m1, m2⟩ := mu
        simp only at HSTEP HCALL
        have HZ2 : Hid (wrap64 (z + m1) = wrap64 (wrap64 (x + m1) + 1)) := by rw [HZ.out]; exact wrap_swap x m1
        clear hx hdr hA hI hn hcall hxw
        go_wp2_with fail
        refine (HCALL.out).mono ?_
        rintro e w2 ⟨rfl, hg2⟩
        have HG2 := Lib.hid hg2
        clear hg2 d0 d1 d2 d3 d4 d5 d6 d7 d8 d9 d10 d11 d12 d13 d14
        go_wp2_with fail
        go_roundw
        case rel => exact ⟨i + 1, _, _, _, by omega, by go_num, rfl, HZ2, HSTEP, HG.out.trans HG2.out⟩
        case measure => simp [intOf]; omega
      · have HE : Hid (x = (measL t.args 0 0).1) := by
          have h := HWi.out
          rw [List.drop_eq_nil_of_le (by omega)] at h
          simp only [measL] at h
          exact h
        go_wp2_with fail
        go_ret
        refine ⟨?_, HG0.out.trans HG.out⟩
        refine congrArg (fun q => Ending.returned (.int .i64 q)) ?_
        rw [← HM.out, measT_eq, ← HE.out]
        exact HZ.out
set_option maxRecDepth 100000 in
set_option maxHeartbeats 4000000 in
theorem depth12_any : ∀ (n : Nat) (t : NodeT) (a : Option Addr) (cap : Nat) (w : World), ArgsIn w n (.slice a t.args.length cap) t.args →
    Calls Tryz.prog 76 #[nodeV t a t.args.length cap] w fun e w' => e = .returned (.int .i64 (measT t).2) ∧ Gr w w' := by
  intro n
  induction n using Nat.strongRecOn with
  | ind n ih =>
    intro t a cap w hin
    have HIN := Lib.hid hin
    obtain ⟨_, _, he, q1, q2⟩ := hin.shape
    cases he
    have IH := Lib.hid ih
    obtain ⟨w0, hw0, hg0, hs0, hN⟩ := boxN w t a t.args.length cap 29
    have HG0 := Lib.hid hg0
    have HN := Lib.hid hN
    have c14 := hN.c14
    rw [Nat.zero_add] at c14
    generalize hmt : (measT t).2 = mt
    have HM := Lib.hid hmt
    have HW : Hid ((measL (t.args.drop 0) 0 0).2 = (measL t.args 0 0).2) := by rw [List.drop_zero]; rfl
    clear hin hN hg0 ih hmt
    go_enter Tryz.func76, Tryz.ntmps76
    go_wp2_with fail
    clear hw0
    go_loopw [3, 4] (fun s3 s4 wr => ∃ (i : Nat) (x y : Int), i ≤ t.args.length ∧ s4 = .int .i64 i ∧ s3 = .int .i64 y ∧ Hid ((measL (t.args.drop i) x y).2 = (measL t.args 0 0).2) ∧ Hid (Gr w0 wr)) (fun _ s4 _ => t.args.length - (intOf s4).toNat)
    case atStart => exact ⟨0, 0, 0, Nat.zero_le _, rfl, rfl, HW, Gr.refl _⟩
    case round =>
      obtain ⟨i, x, y, hi, rfl, rfl, HWi, HG⟩ := hrel
      have c14r := (HG.out.xt.cells).1 w.heap.size 14 (by omega)
      rw [c14] at c14r
      by_cases hlt : i < t.args.length
      · have hii : (i : Int) < (t.args.length : Int) := by omega
        obtain ⟨u, hx⟩ : ∃ u, t.args[i]? = some u := ⟨t.args[i], by simp [hlt]⟩
        have hdr := drop_at hx
        obtain ⟨n', b, off, a', c', hn, rfl, hA, hI⟩ := HIN.out.at hx
        have hxw : Xt w wr := HG0.out.xt.trans HG.out.xt
        obtain ⟨d0, d1, d2, d3, d4, d5, d6, d7, d8, d9, d10, d11, d12, d13, d14⟩ := hA.xt hxw
        have hcall := IH.out n' (by omega) u a' c' wr (hI.xt hxw)
        have HSTEP : Hid ((measL (t.args.drop (i + 1)) (wrap64 (x + (measT u).1)) (max y (measT u).2)).2 = (measL t.args 0 0).2) := by
          have h := HWi.out
          rw [hdr] at h
          simp only [measL] at h
          exact h
        have HCALL := Lib.hid hcall
        generalize measT u = mu at HSTEP HCALL
        obtain ⟨m1, m2⟩ := mu
        simp only at HSTEP HCALL
        clear hx hdr hA hI hn hcall hxw
        go_wp2_with fail
        refine (HCALL.out).mono ?_
        rintro e w2 ⟨rfl, hg2⟩
        have HG2 := Lib.hid hg2
        clear hg2 d0 d1 d2 d3 d4 d5 d6 d7 d8 d9 d10 d11 d12 d13 d14
        go_wp2_with fail
        go_roundw
        case rel => exact ⟨i + 1, _, _, by omega, by go_num, rfl, HSTEP, HG.out.trans HG2.out⟩
        case measure => simp [intOf]; omega
      · have HE : Hid (y = (measL t.args 0 0).2) := by
          have h := HWi.out
          rw [List.drop_eq_nil_of_le (by omega)] at h
          simp only [measL] at h
          exact h
        go_wp2_with fail
        go_ret
        refine ⟨?_, HG0.out.trans HG.out⟩
        refine congrArg (fun q => Ending.returned (.int .i64 q)) ?_
        rw [← HM.out, measT_eq, ← HE.out]
end Go.Proofs.YtlgkaipgdhcajaaGreatDoor
