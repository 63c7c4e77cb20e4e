import Derived.Test.YtdoeejhdenifpaaGreatDoorA2
import Derived.Test.YtdoeejhdenifpaaGreatDoorA1
namespace Go.Proofs.YtdoeejhdenifpaaGreatDoor
open Go.RowKit Go.Sort
@[go_sem] theorem run_store_float {P : Program} (w : World) (a : Addr) (m : Mode) (k : FloatKind) (b : Nat) : (store a (.float k b) m).run P w = stored P w a (.float k b) m := run_store P w a _ m rfl
mutual
def measT : NodeT → Int × Int
 | .mk _ _ _ _ _ _ _ _ args => (wrap64 ((measL args 0 0).1 + 1), wrap64 ((measL args 0 0).2 + 1))
def measL : List NodeT → Int → Int → Int × Int
 | [], n, d => (n, d)
 | t :: r, n, d => measL r (wrap64 (n + (measT t).1)) (max d (measT t).2)
end
theorem measT_eq (t : NodeT) : measT t = (wrap64 ((measL t.args 0 0).1 + 1), wrap64 ((measL t.args 0 0).2 + 1)) := by cases t; simp [measT, NodeT.args]
set_option maxRecDepth 100000 in
set_option maxHeartbeats 4000000 in
theorem measure_any : ∀ (n : Nat) (t : NodeT) (a : Option Addr) (cap : Nat) (w : World), ArgsIn w n (.slice a t.args.length cap) t.args →
    Calls Tryz.prog 134 #[nodeV t a t.args.length cap] w fun e w' => e = .returned (.tuple #[.int .i64 (measT t).1, .int .i64 (measT t).2]) ∧ Gr w w' := by
 intro n
 induction n using Nat.strongRecOn with
 | ind n ih =>
  intro t a cap w hin
  have HIN := Lib.hid hin
  obtain ⟨_, _, he, q1, q2⟩ := hin.shape
  cases he
  have IH := Lib.hid ih
  obtain ⟨w0, hw0, hg0, hs0, hN⟩ := boxN w t a t.args.length cap 49
  have HG0 := Lib.hid hg0
  have HN := Lib.hid hN
  have c14 := hN.c14
  rw [Nat.zero_add] at c14
  generalize hmt : measT t = mt
  have HM := Lib.hid hmt
  have HW : Hid (measL (t.args.drop 0) 0 0 = measL t.args 0 0) := by rw [List.drop_zero]; rfl
  clear hin hN hg0 ih hmt
  go_enter Tryz.func134, Tryz.ntmps134
  go_wp2_with fail
  clear hw0
  go_loopw [2, 3, 11] (fun s2 s3 s11 wr => ∃ (i : Nat) (x y : Int), i ≤ t.args.length ∧ s11 = .int .i64 i ∧ s2 = .int .i64 x ∧ s3 = .int .i64 y ∧ Hid (measL (t.args.drop i) x y = measL t.args 0 0) ∧ Hid (Gr w0 wr)) (fun _ _ s11 _ => t.args.length - (intOf s11).toNat)
  case atStart => exact ⟨0, 0, 0, Nat.zero_le _, rfl, rfl, rfl, HW, Gr.refl _⟩
  case round =>
   obtain ⟨i, x, y, hi, rfl, rfl, rfl, HWi, HG⟩ := hrel
   by_cases hlt : i < t.args.length
   · have hii : (i : Int) < (t.args.length : Int) := by omega
     obtain ⟨u, hx⟩ : ∃ u, t.args[i]? = some u := ⟨t.args[i], by simp [hlt]⟩
     have hdr := drop_at hx
     obtain ⟨n', b, off, a', c', hn, rfl, hA, hI⟩ := HIN.out.at hx
     have hxw : Xt w wr := HG0.out.xt.trans HG.out.xt
     obtain ⟨d0, d1, d2, d3, d4, d5, d6, d7, d8, d9, d10, d11, d12, d13, d14⟩ := hA.xt hxw
     obtain ⟨w1, hw1, hg1, hs1, hB⟩ := boxN wr u a' u.args.length c' 49
     obtain ⟨e0, e1, e2, e3, e4, e5, e6, e7, e8, e9, e10, e11, e12, e13, e14⟩ := hB
     simp only [Nat.zero_add] at e0 e1 e2 e3 e4 e5 e6 e7 e8 e9 e10 e11 e12 e13 e14
     have hcall := IH.out n' (by omega) u a' c' w1 ((hI.xt hxw).xt hg1.xt)
     have HSTEP : Hid (measL (t.args.drop (i + 1)) (wrap64 (x + (measT u).1)) (max y (measT u).2) = measL t.args 0 0) := by
      have h := HWi.out
      rw [hdr] at h
      simp only [measL] at h
      exact h
     have HCALL := Lib.hid hcall
     have HG1 := Lib.hid hg1
     generalize measT u = mu at HSTEP HCALL
     obtain ⟨m1, m2⟩ := mu
     simp only at HSTEP HCALL
     clear hx hdr hA hI hn hcall hxw hg1
     go_wp2_with fail
     refine (HCALL.out).mono ?_
     rintro e w2 ⟨rfl, hg2⟩
     have HG2 := Lib.hid hg2
     clear hg2 d0 d1 d2 d3 d4 d5 d6 d7 d8 d9 d10 d11 d12 d13 d14 e0 e1 e2 e3 e4 e5 e6 e7 e8 e9 e10 e11 e12 e13 e14
     go_wp2_with fail
     go_roundw
     case rel => exact ⟨i + 1, _, _, by omega, by go_num, rfl, rfl, HSTEP, (HG.out.trans HG1.out).trans HG2.out⟩
     case measure => simp [intOf]; omega
   · have HE : Hid ((x, y) = measL t.args 0 0) := by
      have h := HWi.out
      rw [List.drop_eq_nil_of_le (by omega)] at h
      simp only [measL] at h
      exact h
     go_wp2_with fail
     go_ret2
     refine ⟨?_, HG0.out.trans HG.out⟩
     rw [← HM.out, measT_eq, ← HE.out]
     rfl
end Go.Proofs.YtdoeejhdenifpaaGreatDoor
