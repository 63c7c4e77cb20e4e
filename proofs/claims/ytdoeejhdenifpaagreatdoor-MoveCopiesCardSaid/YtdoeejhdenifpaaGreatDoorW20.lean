import Derived.Test.YtdoeejhdenifpaaGreatDoorA5
namespace Go.Proofs.YtdoeejhdenifpaaGreatDoor
open Go.RowKit Go.Sort
def ContT.ok (c : ContT) : Prop := c.v.s.size < 4611686018427387904 ∧ c.t.ok ∧ c.v.x < 18446744073709551616
def gvalidB (c : ContT) : Bool :=
 if c.kind == 0 then noValB c.v && noNodeB c.t
 else if c.kind == 1 then noNodeB c.t && (c.v.kind != 0) && vvalidB c.v
 else if c.kind == 2 then noValB c.v && checkT c.t == 0
 else false
set_option maxRecDepth 100000 in
set_option maxHeartbeats 4000000 in
theorem gvalid_0 (n : Nat) (c : ContT) (a : Option Addr) (cap : Nat) (w : World) (hok : c.ok) (hT : Tabs w) (hin : ArgsIn w n (.slice a c.t.args.length cap) c.t.args) (h0 : (c.kind == 0) = true) :
    Calls Tryz.prog 62 #[contV c a c.t.args.length cap] w fun e w' => e = .returned (.bool (noValB c.v && noNodeB c.t)) ∧ Xt w w' := by
 obtain ⟨w0, hw0, hg0, hs0, hC⟩ := boxC w c a c.t.args.length cap 51
 have HG0 := Lib.hid hg0.xt
 have HC := Lib.hid hC
 have HOK := Lib.hid hok
 have HT := Lib.hid hT
 have HIN := Lib.hid hin
 obtain ⟨c0, c1, c2, c3, c4, c5, c6, c7, c8, c9, c10, c11, c12, c13, c14, c15, c16, c17, c18, c19, c20⟩ := hC
 simp only [Nat.zero_add] at c0 c1 c2 c3 c4 c5 c6 c7 c8 c9 c10 c11 c12 c13 c14 c15 c16 c17 c18 c19 c20
 clear hg0 hok hT hin
 have H1 := Lib.hid (noValue_any c.v w0)
 have H2 := Lib.hid (noNode_any c.t a cap)
 generalize noValB c.v = r1 at H1 ⊢
 generalize noNodeB c.t = r2 at H2 ⊢
 go_enter Tryz.func62, Tryz.ntmps62
 go_wp2_with fail
 refine (H1.out).mono ?_
 rintro e w1 ⟨rfl, hg⟩
 have HG1 := Lib.hid (HG0.out.trans hg.xt)
 have hC1 := HC.out.xt hg.xt
 have HC1 := Lib.hid hC1
 clear hg c0 c1 c2 c3 c4 c5 c6 c7 c8 c9 c10 c11 c12 c13 c14 c15 c16 c17 c18 c19 c20
 obtain ⟨c0, c1, c2, c3, c4, c5, c6, c7, c8, c9, c10, c11, c12, c13, c14, c15, c16, c17, c18, c19, c20⟩ := hC1
 simp only [Nat.zero_add] at c0 c1 c2 c3 c4 c5 c6 c7 c8 c9 c10 c11 c12 c13 c14 c15 c16 c17 c18 c19 c20
 clear hw0
 cases r1 with
 | false =>
  go_wp2_with fail
  go_ret
  exact ⟨rfl, HG1.out⟩
 | true =>
  go_wp2_with fail
  refine (H2.out _).mono ?_
  rintro e w2 ⟨rfl, hg⟩
  have HG2 := Lib.hid (HG1.out.trans hg.xt)
  have hC2 := HC1.out.xt hg.xt
  have HC2 := Lib.hid hC2
  clear hg c0 c1 c2 c3 c4 c5 c6 c7 c8 c9 c10 c11 c12 c13 c14 c15 c16 c17 c18 c19 c20
  obtain ⟨c0, c1, c2, c3, c4, c5, c6, c7, c8, c9, c10, c11, c12, c13, c14, c15, c16, c17, c18, c19, c20⟩ := hC2
  simp only [Nat.zero_add] at c0 c1 c2 c3 c4 c5 c6 c7 c8 c9 c10 c11 c12 c13 c14 c15 c16 c17 c18 c19 c20
  cases r2 with
  | false =>
   go_wp2_with fail
   go_ret
   exact ⟨rfl, HG2.out⟩
  | true =>
   go_wp2_with fail
   go_ret
   exact ⟨rfl, HG2.out⟩
set_option maxRecDepth 100000 in
set_option maxHeartbeats 4000000 in
theorem gvalid_1 (n : Nat) (c : ContT) (a : Option Addr) (cap : Nat) (w : World) (hok : c.ok) (hT : Tabs w) (hin : ArgsIn w n (.slice a c.t.args.length cap) c.t.args) (h0 : (c.kind == 0) = false) (h1 : (c.kind == 1) = true) :
    Calls Tryz.prog 62 #[contV c a c.t.args.length cap] w fun e w' => e = .returned (.bool (noNodeB c.t && (c.v.kind != 0) && vvalidB c.v)) ∧ Xt w w' := by
 obtain ⟨w0, hw0, hg0, hs0, hC⟩ := boxC w c a c.t.args.length cap 51
 have HG0 := Lib.hid hg0.xt
 have HC := Lib.hid hC
 have HOK := Lib.hid hok
 have HT := Lib.hid hT
 have HIN := Lib.hid hin
 obtain ⟨c0, c1, c2, c3, c4, c5, c6, c7, c8, c9, c10, c11, c12, c13, c14, c15, c16, c17, c18, c19, c20⟩ := hC
 simp only [Nat.zero_add] at c0 c1 c2 c3 c4 c5 c6 c7 c8 c9 c10 c11 c12 c13 c14 c15 c16 c17 c18 c19 c20
 clear hg0 hok hT hin
 have H1 := Lib.hid (noNode_any c.t a cap w0)
 generalize noNodeB c.t = r1 at H1 ⊢
 generalize hr2 : (c.v.kind != 0) = r2
 generalize hr3 : vvalidB c.v = r3
 have HR3 := Lib.hid hr3
 clear hr3
 go_enter Tryz.func62, Tryz.ntmps62
 go_wp2_with fail
 refine (H1.out).mono ?_
 rintro e w1 ⟨rfl, hg⟩
 have HG1 := Lib.hid (HG0.out.trans hg.xt)
 have hC1 := HC.out.xt hg.xt
 have HC1 := Lib.hid hC1
 clear hg c0 c1 c2 c3 c4 c5 c6 c7 c8 c9 c10 c11 c12 c13 c14 c15 c16 c17 c18 c19 c20
 obtain ⟨c0, c1, c2, c3, c4, c5, c6, c7, c8, c9, c10, c11, c12, c13, c14, c15, c16, c17, c18, c19, c20⟩ := hC1
 simp only [Nat.zero_add] at c0 c1 c2 c3 c4 c5 c6 c7 c8 c9 c10 c11 c12 c13 c14 c15 c16 c17 c18 c19 c20
 clear hw0
 cases r1 with
 | false =>
  go_wp2_with fail
  go_ret
  exact ⟨rfl, HG1.out⟩
 | true =>
  cases r2 with
  | false =>
   go_wp2_with fail
   go_ret
   exact ⟨rfl, HG1.out⟩
  | true =>
   have H3 := Lib.hid (vvalid_any c.v w1 (by have := HOK.out.1; omega) (HT.out.xt HG1.out))
   rw [HR3.out] at H3
   go_wp2_with fail
   refine (H3.out).mono ?_
   rintro e w2 ⟨rfl, hg⟩
   have HG2 := Lib.hid (HG1.out.trans hg)
   have hC2 := HC1.out.xt hg
   have HC2 := Lib.hid hC2
   clear hg c0 c1 c2 c3 c4 c5 c6 c7 c8 c9 c10 c11 c12 c13 c14 c15 c16 c17 c18 c19 c20
   obtain ⟨c0, c1, c2, c3, c4, c5, c6, c7, c8, c9, c10, c11, c12, c13, c14, c15, c16, c17, c18, c19, c20⟩ := hC2
   simp only [Nat.zero_add] at c0 c1 c2 c3 c4 c5 c6 c7 c8 c9 c10 c11 c12 c13 c14 c15 c16 c17 c18 c19 c20
   cases r3 with
   | false =>
    go_wp2_with fail
    go_ret
    exact ⟨rfl, HG2.out⟩
   | true =>
    go_wp2_with fail
    go_ret
    exact ⟨rfl, HG2.out⟩
set_option maxRecDepth 100000 in
set_option maxHeartbeats 4000000 in
theorem gvalid_2 (n : Nat) (c : ContT) (a : Option Addr) (cap : Nat) (w : World) (hok : c.ok) (hT : Tabs w) (hin : ArgsIn w n (.slice a c.t.args.length cap) c.t.args) (h0 : (c.kind == 0) = false) (h1 : (c.kind == 1) = false) (h2 : (c.kind == 2) = true) :
    Calls Tryz.prog 62 #[contV c a c.t.args.length cap] w fun e w' => e = .returned (.bool (noValB c.v && checkT c.t == 0)) ∧ Xt w w' := by
 obtain ⟨w0, hw0, hg0, hs0, hC⟩ := boxC w c a c.t.args.length cap 51
 have HG0 := Lib.hid hg0.xt
 have HC := Lib.hid hC
 have HOK := Lib.hid hok
 have HT := Lib.hid hT
 have HIN := Lib.hid hin
 obtain ⟨c0, c1, c2, c3, c4, c5, c6, c7, c8, c9, c10, c11, c12, c13, c14, c15, c16, c17, c18, c19, c20⟩ := hC
 simp only [Nat.zero_add] at c0 c1 c2 c3 c4 c5 c6 c7 c8 c9 c10 c11 c12 c13 c14 c15 c16 c17 c18 c19 c20
 clear hg0 hok hT hin
 have H1 := Lib.hid (noValue_any c.v w0)
 generalize noValB c.v = r1 at H1 ⊢
 generalize hr2 : checkT c.t = r2
 generalize hz : (r2 == 0) = rz
 have HR2 := Lib.hid hr2
 clear hr2
 go_enter Tryz.func62, Tryz.ntmps62
 go_wp2_with fail
 refine (H1.out).mono ?_
 rintro e w1 ⟨rfl, hg⟩
 have HG1 := Lib.hid (HG0.out.trans hg.xt)
 have hC1 := HC.out.xt hg.xt
 have HC1 := Lib.hid hC1
 clear hg c0 c1 c2 c3 c4 c5 c6 c7 c8 c9 c10 c11 c12 c13 c14 c15 c16 c17 c18 c19 c20
 obtain ⟨c0, c1, c2, c3, c4, c5, c6, c7, c8, c9, c10, c11, c12, c13, c14, c15, c16, c17, c18, c19, c20⟩ := hC1
 simp only [Nat.zero_add] at c0 c1 c2 c3 c4 c5 c6 c7 c8 c9 c10 c11 c12 c13 c14 c15 c16 c17 c18 c19 c20
 clear hw0
 cases r1 with
 | false =>
  go_wp2_with fail
  go_ret
  exact ⟨rfl, HG1.out⟩
 | true =>
  have H2 := Lib.hid (Check_any n c.t a cap w1 HOK.out.2.1 (HT.out.xt HG1.out) (HIN.out.xt HG1.out))
  rw [HR2.out] at H2
  go_wp2_with fail
  refine (H2.out).mono ?_
  rintro e w2 ⟨rfl, hg⟩
  have HG2 := Lib.hid (HG1.out.trans hg)
  have hC2 := HC1.out.xt hg
  have HC2 := Lib.hid hC2
  clear hg c0 c1 c2 c3 c4 c5 c6 c7 c8 c9 c10 c11 c12 c13 c14 c15 c16 c17 c18 c19 c20
  obtain ⟨c0, c1, c2, c3, c4, c5, c6, c7, c8, c9, c10, c11, c12, c13, c14, c15, c16, c17, c18, c19, c20⟩ := hC2
  simp only [Nat.zero_add] at c0 c1 c2 c3 c4 c5 c6 c7 c8 c9 c10 c11 c12 c13 c14 c15 c16 c17 c18 c19 c20
  cases rz with
  | false =>
   go_wp2_with fail
   go_ret
   exact ⟨rfl, HG2.out⟩
  | true =>
   go_wp2_with fail
   go_ret
   exact ⟨rfl, HG2.out⟩
set_option maxRecDepth 100000 in
set_option maxHeartbeats 4000000 in
theorem gvalid_none (n : Nat) (c : ContT) (a : Option Addr) (cap : Nat) (w : World) (hok : c.ok) (hT : Tabs w) (hin : ArgsIn w n (.slice a c.t.args.length cap) c.t.args) (h0 : (c.kind == 0) = false) (h1 : (c.kind == 1) = false) (h2 : (c.kind == 2) = false) :
    Calls Tryz.prog 62 #[contV c a c.t.args.length cap] w fun e w' => e = .returned (.bool (false)) ∧ Xt w w' := by
 obtain ⟨w0, hw0, hg0, hs0, hC⟩ := boxC w c a c.t.args.length cap 51
 have HG0 := Lib.hid hg0.xt
 have HC := Lib.hid hC
 have HOK := Lib.hid hok
 have HT := Lib.hid hT
 have HIN := Lib.hid hin
 obtain ⟨c0, c1, c2, c3, c4, c5, c6, c7, c8, c9, c10, c11, c12, c13, c14, c15, c16, c17, c18, c19, c20⟩ := hC
 simp only [Nat.zero_add] at c0 c1 c2 c3 c4 c5 c6 c7 c8 c9 c10 c11 c12 c13 c14 c15 c16 c17 c18 c19 c20
 clear hg0 hok hT hin
 go_enter Tryz.func62, Tryz.ntmps62
 go_wp2_with fail
 go_ret
 exact ⟨rfl, HG0.out⟩
theorem gvalid_any (n : Nat) (c : ContT) (a : Option Addr) (cap : Nat) (w : World) (hok : c.ok) (hT : Tabs w) (hin : ArgsIn w n (.slice a c.t.args.length cap) c.t.args) :
    Calls Tryz.prog 62 #[contV c a c.t.args.length cap] w fun e w' => e = .returned (.bool (gvalidB c)) ∧ Xt w w' := by
 unfold gvalidB
 by_cases h0 : (c.kind == 0) = true
 · rw [if_pos h0]; exact gvalid_0 n c a cap w hok hT hin h0
 rw [if_neg h0]
 have h0 := Bool.eq_false_iff.2 h0
 by_cases h1 : (c.kind == 1) = true
 · rw [if_pos h1]; exact gvalid_1 n c a cap w hok hT hin h0 h1
 rw [if_neg h1]
 have h1 := Bool.eq_false_iff.2 h1
 by_cases h2 : (c.kind == 2) = true
 · rw [if_pos h2]; exact gvalid_2 n c a cap w hok hT hin h0 h1 h2
 rw [if_neg h2]
 exact gvalid_none n c a cap w hok hT hin h0 h1 (Bool.eq_false_iff.2 h2)
end Go.Proofs.YtdoeejhdenifpaaGreatDoor
