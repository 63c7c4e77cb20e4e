/- The document's Check of a formula, Valid of a value and of a content (made by mkv12.py). -/
import Derived.Test.YtfpdleljhbkehaaGreatDoorV11
import Derived.Test.YtfpdleljhbkehaaGreatDoorW20
namespace Go.Proofs.YtfpdleljhbkehaaGreatDoor
open Go.RowKit Go.Sort

set_option maxRecDepth 100000 in
set_option maxHeartbeats 4000000 in
theorem Check12_any (n : Nat) (t : NodeT) (a : Option Addr) (cap : Nat) (w : World) (hok : t.ok) (hin : ArgsIn w n (.slice a t.args.length cap) t.args) :
    Calls Tryz.prog 34 #[nodeV t a t.args.length cap] w fun e w' => e = .returned (.int .i64 (checkT t)) ∧ Gr w w' := by
  obtain ⟨w0, hw0, hg0, hs0, hN⟩ := boxN w t a t.args.length cap 31
  have HG0 := Lib.hid hg0
  have HN := Lib.hid hN
  have HIN := Lib.hid hin
  have HC := Lib.hid (count12_any n t a cap w0 (hin.xt hg0.xt))
  have HD := Lib.hid (fun w1 (h : Gr w0 w1) => depth12_any n t a cap w1 (hin.xt (hg0.trans h).xt))
  have HF := Lib.hid (fun w1 (h : Gr w0 w1) => first12_any n t a cap false w1 hok (hin.xt (hg0.trans h).xt))
  obtain ⟨c0, c1, c2, c3, c4, c5, c6, c7, c8, c9, c10, c11, c12, c13, c14⟩ := hN
  simp only [Nat.zero_add] at c0 c1 c2 c3 c4 c5 c6 c7 c8 c9 c10 c11 c12 c13 c14
  generalize hans : checkT t = ans
  have HA := Lib.hid hans
  unfold checkT at HA
  generalize (measT t).1 = m1 at HC HA
  generalize (measT t).2 = m2 at HD HA
  generalize faultT t false = ft at HF HA
  clear hans hok hg0 hin
  go_enter Tryz.func34, Tryz.ntmps34
  go_wp2_with fail
  refine (HC.out).mono ?_
  rintro e w1 ⟨rfl, hg1⟩
  have HG1 := Lib.hid hg1
  have hN1 := HN.out.xt hg1.xt
  have HD1 := Lib.hid (HD.out w1 hg1)
  clear hg1 hw0 c0 c1 c2 c3 c4 c5 c6 c7 c8 c9 c10 c11 c12 c13 c14
  obtain ⟨c0, c1, c2, c3, c4, c5, c6, c7, c8, c9, c10, c11, c12, c13, c14⟩ := hN1
  simp only [Nat.zero_add] at c0 c1 c2 c3 c4 c5 c6 c7 c8 c9 c10 c11 c12 c13 c14
  by_cases h1 : 256 < m1
  · rw [if_pos h1] at HA
    go_wp2_with fail
    go_ret
    exact ⟨congrArg (fun z => Ending.returned (.int .i64 z)) HA.out, HG0.out.trans HG1.out⟩
  rw [if_neg h1] at HA
  go_wp2_with fail
  refine (HD1.out).mono ?_
  rintro e w2 ⟨rfl, hg2⟩
  have HG2 := Lib.hid (HG1.out.trans hg2)
  have hN2 := HN.out.xt HG2.out.xt
  have HF2 := Lib.hid (HF.out w2 HG2.out)
  clear hg2 c0 c1 c2 c3 c4 c5 c6 c7 c8 c9 c10 c11 c12 c13 c14
  obtain ⟨c0, c1, c2, c3, c4, c5, c6, c7, c8, c9, c10, c11, c12, c13, c14⟩ := hN2
  simp only [Nat.zero_add] at c0 c1 c2 c3 c4 c5 c6 c7 c8 c9 c10 c11 c12 c13 c14
  by_cases h2 : 32 < m2
  · rw [if_pos h2] at HA
    go_wp2_with fail
    go_ret
    exact ⟨congrArg (fun z => Ending.returned (.int .i64 z)) HA.out, HG0.out.trans HG2.out⟩
  rw [if_neg h2] at HA
  go_wp2_with fail
  refine (HF2.out).mono ?_
  rintro e w3 ⟨rfl, hg3⟩
  have HG3 := Lib.hid (HG2.out.trans hg3)
  clear hg3
  go_wp2_with fail
  go_ret
  exact ⟨congrArg (fun z => Ending.returned (.int .i64 z)) HA.out, HG0.out.trans HG3.out⟩
/-! ### quadrilleref14.Valid -/
set_option maxRecDepth 100000 in
set_option maxHeartbeats 4000000 in
theorem valid14_0 (v : ValT) (w : World) (hk : v.kind = 0) :
    Calls Tryz.prog 33 #[valV v] w fun e w' => e = .returned (.bool (vvalidB v)) ∧ Gr w w' := by
  obtain ⟨w0, hw0, hg0, hs0, c0, c1, c2, c3, c4⟩ := boxV w v 24
  have HG0 := Lib.hid hg0
  have e0 : (v.kind == 0) = true := by rw [hk]; rfl
  have he : vvalidB v = restB v.x v.s v.b v.f := by unfold vvalidB; simp only [hk, reduceIte, Int.reduceEq]
  rw [he]
  clear hg0 he hk
  go_enter Tryz.func33, Tryz.ntmps33
  go_wp2_with fail
  all_goals (go_ret; refine ⟨?_, HG0.out⟩; first | (simp [restB, *]; done) | (simp [restB, *]; omega) | (simp [restB, *]; intros; exfalso; omega) | (cases hb : v.b <;> simp_all [restB]; done) | (by_cases hx : v.x = 0 <;> by_cases hf : v.f = 0 <;> simp_all [restB]; done) | trace_state)
set_option maxRecDepth 100000 in
set_option maxHeartbeats 4000000 in
theorem valid14_1 (v : ValT) (w : World) (hk : v.kind = 1) :
    Calls Tryz.prog 33 #[valV v] w fun e w' => e = .returned (.bool (vvalidB v)) ∧ Gr w w' := by
  obtain ⟨w0, hw0, hg0, hs0, c0, c1, c2, c3, c4⟩ := boxV w v 24
  have HG0 := Lib.hid hg0
  have e0 : (v.kind == 0) = false := by rw [hk]; rfl
  have e1 : (v.kind == 1) = true := by rw [hk]; rfl
  have he : vvalidB v = restB 0 v.s v.b v.f := by unfold vvalidB; simp only [hk, reduceIte, Int.reduceEq]
  rw [he]
  clear hg0 he hk
  go_enter Tryz.func33, Tryz.ntmps33
  go_wp2_with fail
  all_goals (go_ret; refine ⟨?_, HG0.out⟩; first | (simp [restB, *]; done) | (simp [restB, *]; omega) | (simp [restB, *]; intros; exfalso; omega) | (cases hb : v.b <;> simp_all [restB]; done) | (by_cases hx : v.x = 0 <;> by_cases hf : v.f = 0 <;> simp_all [restB]; done) | trace_state)
set_option maxRecDepth 100000 in
set_option maxHeartbeats 4000000 in
theorem valid14_2 (v : ValT) (w : World) (hk : v.kind = 2) (hs : v.s.size < 4611686018427387904) :
    Calls Tryz.prog 33 #[valV v] w fun e w' => e = .returned (.bool (vvalidB v)) ∧ Gr w w' := by
  obtain ⟨w0, hw0, hg0, hs0, c0, c1, c2, c3, c4⟩ := boxV w v 24
  have HG0 := Lib.hid hg0
  have e0 : (v.kind == 0) = false := by rw [hk]; rfl
  have e1 : (v.kind == 1) = false := by rw [hk]; rfl
  have e2 : (v.kind == 2) = true := by rw [hk]; rfl
  have HU := Lib.hid (utf12_any v.s hs)
  have he : vvalidB v = (Lib.validD v.s.data.toList && decide ((v.s.size : Int) ≤ 1024) && restB v.x ⟨#[]⟩ v.b v.f) := by unfold vvalidB; simp only [hk, reduceIte, Int.reduceEq]
  rw [he]
  generalize Lib.validD v.s.data.toList = vd at HU ⊢
  clear hg0 he hk
  go_enter Tryz.func33, Tryz.ntmps33
  go_wp2_with (go_at_call 67; refine (HU.out _).mono ?_; rintro e w' ⟨rfl, rfl⟩)
  all_goals (go_ret; refine ⟨?_, HG0.out⟩; first | (simp [restB, *]; done) | (simp [restB, toList_nil, *]; omega) | (simp [restB, toList_nil, *]; intros; exfalso; omega) | (cases hb : v.b <;> simp_all [restB, toList_nil]; done) | (by_cases hx : v.x = 0 <;> by_cases hf : v.f = 0 <;> simp_all [restB, toList_nil]; done) | trace_state)
set_option maxRecDepth 100000 in
set_option maxHeartbeats 4000000 in
theorem valid14_3 (v : ValT) (w : World) (hk : v.kind = 3) :
    Calls Tryz.prog 33 #[valV v] w fun e w' => e = .returned (.bool (vvalidB v)) ∧ Gr w w' := by
  obtain ⟨w0, hw0, hg0, hs0, c0, c1, c2, c3, c4⟩ := boxV w v 24
  have HG0 := Lib.hid hg0
  have e0 : (v.kind == 0) = false := by rw [hk]; rfl
  have e1 : (v.kind == 1) = false := by rw [hk]; rfl
  have e2 : (v.kind == 2) = false := by rw [hk]; rfl
  have e3 : (v.kind == 3) = true := by rw [hk]; rfl
  have he : vvalidB v = restB v.x v.s false v.f := by unfold vvalidB; simp only [hk, reduceIte, Int.reduceEq]
  rw [he]
  clear hg0 he hk
  go_enter Tryz.func33, Tryz.ntmps33
  go_wp2_with fail
  all_goals (go_ret; refine ⟨?_, HG0.out⟩; first | (simp [restB, *]; done) | (simp [restB, *]; omega) | (simp [restB, *]; intros; exfalso; omega) | (cases hb : v.b <;> simp_all [restB]; done) | (by_cases hx : v.x = 0 <;> by_cases hf : v.f = 0 <;> simp_all [restB]; done) | trace_state)
set_option maxRecDepth 100000 in
set_option maxHeartbeats 4000000 in
theorem valid14_4 (v : ValT) (w : World) (hk : v.kind = 4) :
    Calls Tryz.prog 33 #[valV v] w fun e w' => e = .returned (.bool (vvalidB v)) ∧ Gr w w' := by
  obtain ⟨w0, hw0, hg0, hs0, c0, c1, c2, c3, c4⟩ := boxV w v 24
  have HG0 := Lib.hid hg0
  have e0 : (v.kind == 0) = false := by rw [hk]; rfl
  have e1 : (v.kind == 1) = false := by rw [hk]; rfl
  have e2 : (v.kind == 2) = false := by rw [hk]; rfl
  have e3 : (v.kind == 3) = false := by rw [hk]; rfl
  have e4 : (v.kind == 4) = true := by rw [hk]; rfl
  have he : vvalidB v = (decide (1 ≤ v.f) && decide (v.f ≤ 5) && restB v.x v.s v.b 0) := by unfold vvalidB; simp only [hk, reduceIte, Int.reduceEq]
  rw [he]
  clear hg0 he hk
  go_enter Tryz.func33, Tryz.ntmps33
  go_wp2_with fail
  all_goals (go_ret; refine ⟨?_, HG0.out⟩; first | (simp [restB, *]; done) | (simp [restB, *]; omega) | (simp [restB, toList_nil, *]; intros; exfalso; omega) | (cases hb : v.b <;> simp_all [restB, toList_nil]; done) | (by_cases hx : v.x = 0 <;> by_cases hf : v.f = 0 <;> simp_all [restB, toList_nil]; done) | trace_state)
set_option maxRecDepth 100000 in
set_option maxHeartbeats 4000000 in
theorem valid14_none (v : ValT) (w : World) (h : ¬ (0 ≤ v.kind ∧ v.kind ≤ 4)) :
    Calls Tryz.prog 33 #[valV v] w fun e w' => e = .returned (.bool (vvalidB v)) ∧ Gr w w' := by
  obtain ⟨w0, hw0, hg0, hs0, c0, c1, c2, c3, c4⟩ := boxV w v 24
  have HG0 := Lib.hid hg0
  have e0 : (v.kind == 0) = false := by simp; omega
  have e1 : (v.kind == 1) = false := by simp; omega
  have e2 : (v.kind == 2) = false := by simp; omega
  have e3 : (v.kind == 3) = false := by simp; omega
  have e4 : (v.kind == 4) = false := by simp; omega
  have he : vvalidB v = false := by unfold vvalidB; rw [if_neg (by omega), if_neg (by omega), if_neg (by omega), if_neg (by omega), if_neg (by omega)]
  rw [he]
  clear hg0 he h
  go_enter Tryz.func33, Tryz.ntmps33
  go_wp2_with fail
  all_goals (go_ret; refine ⟨?_, HG0.out⟩; first | (simp [*]; done) | (simp [restB, toList_nil, *]; omega) | (simp [restB, toList_nil, *]; intros; exfalso; omega) | (cases hb : v.b <;> simp_all [restB, toList_nil]; done) | (by_cases hx : v.x = 0 <;> by_cases hf : v.f = 0 <;> simp_all [restB, toList_nil]; done) | trace_state)
theorem valid14_any (v : ValT) (w : World) (hs : v.s.size < 4611686018427387904) :
    Calls Tryz.prog 33 #[valV v] w fun e w' => e = .returned (.bool (vvalidB v)) ∧ Gr w w' := by
  by_cases h0 : v.kind = 0
  · exact valid14_0 v w h0
  by_cases h1 : v.kind = 1
  · exact valid14_1 v w h1
  by_cases h2 : v.kind = 2
  · exact valid14_2 v w h2 hs
  by_cases h3 : v.kind = 3
  · exact valid14_3 v w h3
  by_cases h4 : v.kind = 4
  · exact valid14_4 v w h4
  exact valid14_none v w (by omega)
/-! ### quadrilleref17.Valid -/
set_option maxRecDepth 100000 in
set_option maxHeartbeats 4000000 in
theorem gvalid17_any (n : Nat) (c : ContT) (a : Option Addr) (cap : Nat) (w : World) (hok : c.ok) (hin : ArgsIn w n (.slice a c.t.args.length cap) c.t.args) :
    Calls Tryz.prog 8 #[contV c a c.t.args.length cap] w fun e w' => e = .returned (.bool (gvalidB c)) ∧ Gr w w' := by
  obtain ⟨w0, hw0, hg0, hs0, hC⟩ := boxC w c a c.t.args.length cap 33
  have HG0 := Lib.hid hg0
  have HC := Lib.hid hC
  have H1 := Lib.hid (noValue17_any c.v w0)
  have H2 := Lib.hid (noNode17_any c.t a cap)
  have H3 := Lib.hid (fun w1 => valid14_any c.v w1 hok.1)
  have H4 := Lib.hid (fun w1 (h : Gr w0 w1) => Check12_any n c.t a cap w1 hok.2.1 (hin.xt (hg0.trans h).xt))
  obtain ⟨c0, c1, c2, c3, c4, c5, c6, c7, c8, c9, c10, c11, c12, c13, c14, c15, c16, c17, c18, c19, c20⟩ := hC
  simp only [Nat.zero_add] at c0 c1 c2 c3 c4 c5 c6 c7 c8 c9 c10 c11 c12 c13 c14 c15 c16 c17 c18 c19 c20
  unfold gvalidB
  generalize noValB c.v = nv at H1 ⊢
  generalize noNodeB c.t = nn at H2 ⊢
  generalize vvalidB c.v = vv at H3 ⊢
  generalize checkT c.t = ck at H4 ⊢
  obtain ⟨b0, e0⟩ : ∃ b, (c.kind == 0) = b := ⟨_, rfl⟩
  obtain ⟨b1, e1⟩ : ∃ b, (c.kind == 1) = b := ⟨_, rfl⟩
  obtain ⟨b2, e2⟩ : ∃ b, (c.kind == 2) = b := ⟨_, rfl⟩
  obtain ⟨bv, ev⟩ : ∃ b, (c.v.kind != 0) = b := ⟨_, rfl⟩
  obtain ⟨bc, ec⟩ : ∃ b, (ck == 0) = b := ⟨_, rfl⟩
  rw [e0, e1, e2, ev, ec]
  clear hg0 hok hin
  go_enter Tryz.func8, Tryz.ntmps8
  go_wp2_with fail
  refine (H1.out).mono ?_
  rintro e w1 ⟨rfl, hg1⟩
  have HG1 := Lib.hid hg1
  have hC1 := HC.out.xt hg1.xt
  clear hg1 hw0 c0 c1 c2 c3 c4 c5 c6 c7 c8 c9 c10 c11 c12 c13 c14 c15 c16 c17 c18 c19 c20
  obtain ⟨c0, c1, c2, c3, c4, c5, c6, c7, c8, c9, c10, c11, c12, c13, c14, c15, c16, c17, c18, c19, c20⟩ := hC1
  simp only [Nat.zero_add] at c0 c1 c2 c3 c4 c5 c6 c7 c8 c9 c10 c11 c12 c13 c14 c15 c16 c17 c18 c19 c20
  go_wp2_with fail
  refine (H2.out _).mono ?_
  rintro e w2 ⟨rfl, hg2⟩
  have HG2 := Lib.hid (HG1.out.trans hg2)
  have hC2 := HC.out.xt HG2.out.xt
  have H42 := Lib.hid (H4.out w2 HG2.out)
  clear hg2 c0 c1 c2 c3 c4 c5 c6 c7 c8 c9 c10 c11 c12 c13 c14 c15 c16 c17 c18 c19 c20
  obtain ⟨c0, c1, c2, c3, c4, c5, c6, c7, c8, c9, c10, c11, c12, c13, c14, c15, c16, c17, c18, c19, c20⟩ := hC2
  simp only [Nat.zero_add] at c0 c1 c2 c3 c4 c5 c6 c7 c8 c9 c10 c11 c12 c13 c14 c15 c16 c17 c18 c19 c20
  cases b0
  rotate_left
  · go_wp2_with fail
    all_goals (go_ret; exact ⟨by simp [*], HG0.out.trans HG2.out⟩)
  cases b1
  rotate_left
  · go_wp2_with fail
    refine (H3.out _).mono ?_
    rintro e w3 ⟨rfl, hg3⟩
    have HG3 := Lib.hid (HG2.out.trans hg3)
    have hC3 := HC.out.xt HG3.out.xt
    clear hg3 c0 c1 c2 c3 c4 c5 c6 c7 c8 c9 c10 c11 c12 c13 c14 c15 c16 c17 c18 c19 c20
    obtain ⟨c0, c1, c2, c3, c4, c5, c6, c7, c8, c9, c10, c11, c12, c13, c14, c15, c16, c17, c18, c19, c20⟩ := hC3
    simp only [Nat.zero_add] at c0 c1 c2 c3 c4 c5 c6 c7 c8 c9 c10 c11 c12 c13 c14 c15 c16 c17 c18 c19 c20
    cases nn <;> cases vv <;> cases bv
    all_goals (go_wp2_with fail; all_goals (go_ret; exact ⟨by simp [*], HG0.out.trans HG3.out⟩))
  cases b2
  rotate_left
  · go_wp2_with fail
    refine (H42.out).mono ?_
    rintro e w3 ⟨rfl, hg3⟩
    have HG3 := Lib.hid (HG2.out.trans hg3)
    clear hg3
    cases nv <;> cases bc
    all_goals (go_wp2_with fail; all_goals (go_ret; exact ⟨by simp [*], HG0.out.trans HG3.out⟩))
  · go_wp2_with fail
    go_ret
    exact ⟨rfl, HG0.out.trans HG2.out⟩
end Go.Proofs.YtfpdleljhbkehaaGreatDoor
