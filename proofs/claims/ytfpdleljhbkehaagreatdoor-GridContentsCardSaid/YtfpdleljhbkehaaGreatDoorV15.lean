/- Same of values and contents, by the document; just this content (made by mkv15.py). -/
import Derived.Test.YtfpdleljhbkehaaGreatDoorV14
import Derived.Test.YtfpdleljhbkehaaGreatDoorB5
import Derived.Test.YtfpdleljhbkehaaGreatDoorW45
import Derived.Test.YtfpdleljhbkehaaGreatDoorW20
namespace Go.Proofs.YtfpdleljhbkehaaGreatDoor
open Go.RowKit Go.Sort

theorem sameV_no {a b : ValT} (h : (a.kind == b.kind) = false) : sameVB a b = false := by
  cases hs : sameVB a b
  · rfl
  · have := congrArg Prod.fst ((sameVB_iff _ _).1 hs)
    simp only [keyV] at this
    rw [this] at h; simp at h
theorem sameV_1 {a b : ValT} (h : (a.kind == b.kind) = true) (h1 : (a.kind == 1) = true) (ha : a.x < 18446744073709551616) (hb : b.x < 18446744073709551616) : sameVB a b = (((oneX a.x : Nat) : Int) == ((oneX b.x : Nat) : Int)) := by
  have e := eq_of_beq h
  rw [Bool.eq_iff_iff, sameVB_iff]
  unfold keyV
  rw [← e]
  simp only [h1, if_true, Prod.mk.injEq, true_and, KeyV.n.injEq, beq_iff_eq]
  rw [place_one ha hb]; omega
theorem sameV_2 {a b : ValT} (h : (a.kind == b.kind) = true) (h1 : (a.kind == 1) = false) (h2 : (a.kind == 2) = true) : sameVB a b = (a.s.toList == b.s.toList) := by
  have e := eq_of_beq h
  rw [Bool.eq_iff_iff, sameVB_iff]
  unfold keyV
  rw [← e]
  simp only [h1, h2, if_true, Bool.false_eq_true, if_false, Prod.mk.injEq, true_and, KeyV.s.injEq, beq_iff_eq]
  rw [toList_eq]
  obtain ⟨_, _, ⟨⟨x⟩⟩, _, _⟩ := a
  obtain ⟨_, _, ⟨⟨y⟩⟩, _, _⟩ := b
  simp
theorem sameV_3 {a b : ValT} (h : (a.kind == b.kind) = true) (h1 : (a.kind == 1) = false) (h2 : (a.kind == 2) = false) (h3 : (a.kind == 3) = true) : sameVB a b = (a.b == b.b) := by
  have e := eq_of_beq h
  rw [Bool.eq_iff_iff, sameVB_iff]
  unfold keyV
  rw [← e]
  simp only [h1, h2, h3, if_true, Bool.false_eq_true, if_false, Prod.mk.injEq, true_and, KeyV.b.injEq, beq_iff_eq]
theorem sameV_4 {a b : ValT} (h : (a.kind == b.kind) = true) (h1 : (a.kind == 1) = false) (h2 : (a.kind == 2) = false) (h3 : (a.kind == 3) = false) (h4 : (a.kind == 4) = true) : sameVB a b = (a.f == b.f) := by
  have e := eq_of_beq h
  rw [Bool.eq_iff_iff, sameVB_iff]
  unfold keyV
  rw [← e]
  simp only [h1, h2, h3, h4, if_true, Bool.false_eq_true, if_false, Prod.mk.injEq, true_and, KeyV.f.injEq, beq_iff_eq]
theorem sameV_o {a b : ValT} (h : (a.kind == b.kind) = true) (h1 : (a.kind == 1) = false) (h2 : (a.kind == 2) = false) (h3 : (a.kind == 3) = false) (h4 : (a.kind == 4) = false) : sameVB a b = true := by
  have e := eq_of_beq h
  rw [sameVB_iff]
  unfold keyV
  rw [← e]
  simp only [h1, h2, h3, h4, Bool.false_eq_true, if_false]
set_option maxRecDepth 100000 in
set_option maxHeartbeats 4000000 in
theorem same14_any (a b : ValT) (w : World) (ha : a.x < 18446744073709551616) (hb : b.x < 18446744073709551616) : Calls Tryz.prog 37 #[valV a, valV b] w fun e w' => e = .returned (.bool (sameVB a b)) ∧ Gr w w' := by
  obtain ⟨w0, hw0, hg0, hs0, c0, c1, c2, c3, c4⟩ := boxV w a 24
  obtain ⟨w1, hw1, hg1, hs1, d0, d1, d2, d3, d4⟩ := boxV w0 b 24
  rw [hs0] at d0 d1 d2 d3 d4
  have cc := fun o => (hg1.xt.cells).1 w.heap.size o (by omega)
  have k0 := (cc 0).trans c0
  have k1 := (cc 1).trans c1
  have k2 := (cc 2).trans c2
  have k3 := (cc 3).trans c3
  have k4 := (cc 4).trans c4
  clear c0 c1 c2 c3 c4 cc hs1
  have HG := Lib.hid (hg0.trans hg1)
  have HA := Lib.hid (bits14_any a.x)
  have HB := Lib.hid (bits14_any b.x)
  clear hg0 hg1
  cases h : (a.kind == b.kind)
  · have hn : (a.kind != b.kind) = true := by unfold bne; rw [h]; rfl
    have HS := Lib.hid (sameV_no h)
    go_enter Tryz.func37, Tryz.ntmps37
    go_wp2_with fail
    go_ret
    exact ⟨by rw [HS.out]; rfl, HG.out⟩
  have hn : (a.kind != b.kind) = false := by unfold bne; rw [h]; rfl
  cases h1 : (a.kind == 1)
  rotate_left
  · have HS := Lib.hid (sameV_1 h h1 ha hb)
    go_enter Tryz.func37, Tryz.ntmps37
    go_wp2_with fail
    go_quiet (first | ((go_at_call 74; exact Calls.quiet_of_same ((HA.out _).mono fun _ _ h => ⟨h.1, h.2.symm⟩))) | ((go_at_call 74; exact Calls.quiet_of_same ((HB.out _).mono fun _ _ h => ⟨h.1, h.2.symm⟩))))
    go_wp2_with fail
    go_ret
    exact ⟨by rw [HS.out]; rfl, by first | exact HG.out.drewN _ | exact (((Gr.refl _).alloc _).alloc _).drewN _⟩
  cases h2 : (a.kind == 2)
  rotate_left
  · have HS := Lib.hid (sameV_2 h h1 h2)
    go_enter Tryz.func37, Tryz.ntmps37
    go_wp2_with fail
    go_ret
    exact ⟨by rw [HS.out]; rfl, HG.out⟩
  cases h3 : (a.kind == 3)
  rotate_left
  · have HS := Lib.hid (sameV_3 h h1 h2 h3)
    go_enter Tryz.func37, Tryz.ntmps37
    go_wp2_with fail
    go_ret
    exact ⟨by rw [HS.out]; rfl, HG.out⟩
  cases h4 : (a.kind == 4)
  rotate_left
  · have HS := Lib.hid (sameV_4 h h1 h2 h3 h4)
    go_enter Tryz.func37, Tryz.ntmps37
    go_wp2_with fail
    go_ret
    exact ⟨by rw [HS.out]; rfl, HG.out⟩
  · have HS := Lib.hid (sameV_o h h1 h2 h3 h4)
    go_enter Tryz.func37, Tryz.ntmps37
    go_wp2_with fail
    go_ret
    exact ⟨by rw [HS.out]; rfl, HG.out⟩
/-! ### contents -/
set_option maxRecDepth 100000 in
set_option maxHeartbeats 4000000 in
theorem same17_any (n : Nat) (a b : ContT) (aa ba : Option Addr) (ac bc : Nat) (w : World) (hoa : a.ok) (hob : b.ok) (ha : ArgsIn w n (.slice aa a.t.args.length ac) a.t.args) (hb : ArgsIn w n (.slice ba b.t.args.length bc) b.t.args) :
    Calls Tryz.prog 10 #[contV a aa a.t.args.length ac, contV b ba b.t.args.length bc] w fun e w' => e = .returned (.bool (sameCB a b)) ∧ Gr w w' := by
  obtain ⟨w0, hw0, hg0, hs0, hN⟩ := boxC w a aa a.t.args.length ac 33
  obtain ⟨w1, hw1, hg1, hs1, hM⟩ := boxC w0 b ba b.t.args.length bc 33
  rw [hs0] at hM
  have hN := hN.xt hg1.xt
  obtain ⟨k0, k1, k2, k3, k4, k5, k6, k7, k8, k9, k10, k11, k12, k13, k14, k15, k16, k17, k18, k19, k20⟩ := hN
  simp only [Nat.zero_add] at k0 k1 k2 k3 k4 k5 k6 k7 k8 k9 k10 k11 k12 k13 k14 k15 k16 k17 k18 k19 k20
  obtain ⟨m0, m1, m2, m3, m4, m5, m6, m7, m8, m9, m10, m11, m12, m13, m14, m15, m16, m17, m18, m19, m20⟩ := hM
  simp only [Nat.zero_add] at m0 m1 m2 m3 m4 m5 m6 m7 m8 m9 m10 m11 m12 m13 m14 m15 m16 m17 m18 m19 m20
  have HG := Lib.hid (hg0.trans hg1)
  have HV := Lib.hid (same14_any a.v b.v w1 hoa.2.2 hob.2.2)
  have HT := Lib.hid (same12_any n a.t b.t aa ba ac bc w1 (ha.xt (hg0.trans hg1).xt) (hb.xt (hg0.trans hg1).xt))
  clear ha hb hg0 hg1 hoa hob
  cases hk : (a.kind == b.kind)
  · have hn : (a.kind != b.kind) = true := by unfold bne; rw [hk]; rfl
    have HS := Lib.hid (sameCB_kind hk)
    clear k1 k2 k3 k4 k5 k6 k7 k8 k9 k10 k11 k12 k13 k14 k15 k16 k17 k18 k19 k20 m1 m2 m3 m4 m5 m6 m7 m8 m9 m10 m11 m12 m13 m14 m15 m16 m17 m18 m19 m20
    go_enter Tryz.func10, Tryz.ntmps10
    go_wp2_with fail
    go_ret
    exact ⟨by rw [HS.out]; rfl, HG.out⟩
  have hn : (a.kind != b.kind) = false := by unfold bne; rw [hk]; rfl
  cases h1 : (a.kind == 1)
  rotate_left
  · have HS := Lib.hid (sameCB_1 hk h1)
    clear k6 k7 k8 k9 k10 k11 k12 k13 k14 k15 k16 k17 k18 k19 k20 m6 m7 m8 m9 m10 m11 m12 m13 m14 m15 m16 m17 m18 m19 m20
    go_enter Tryz.func10, Tryz.ntmps10
    go_wp2_with (refine (HV.out).mono ?_; rintro e w2 ⟨rfl, hg2⟩; have HG2 := Lib.hid hg2; clear hg2)
    go_ret
    exact ⟨by rw [HS.out]; rfl, HG.out.trans HG2.out⟩
  cases h2 : (a.kind == 2)
  · have HS := Lib.hid (sameCB_o hk h1 h2)
    clear k1 k2 k3 k4 k5 k6 k7 k8 k9 k10 k11 k12 k13 k14 k15 k16 k17 k18 k19 k20 m1 m2 m3 m4 m5 m6 m7 m8 m9 m10 m11 m12 m13 m14 m15 m16 m17 m18 m19 m20
    go_enter Tryz.func10, Tryz.ntmps10
    go_wp2_with fail
    go_ret
    exact ⟨by rw [HS.out]; rfl, HG.out⟩
  · have HS := Lib.hid (sameCB_2 hk h1 h2)
    clear k1 k2 k3 k4 k5 m1 m2 m3 m4 m5
    go_enter Tryz.func10, Tryz.ntmps10
    go_wp2_with (refine (HT.out).mono ?_; rintro e w2 ⟨rfl, hg2⟩; have HG2 := Lib.hid hg2; clear hg2)
    go_ret
    exact ⟨by rw [HS.out]; rfl, HG.out.trans HG2.out⟩
/-! ### just this content -/
noncomputable def eqCB (a b : ContT) : Bool := @decide (a = b) (Classical.propDecidable _)
theorem eqCB_iff (a b : ContT) : eqCB a b = true ↔ a = b := @decide_eq_true_iff _ (Classical.propDecidable _)
noncomputable def headC (a b : ContT) : Bool := eqB a.t b.t && (a.kind == b.kind) && (a.v.kind == b.v.kind) && (((a.v.x : Nat) : Int) == ((b.v.x : Nat) : Int)) && (a.v.s.toList == b.v.s.toList) && (a.v.b == b.v.b) && (a.v.f == b.v.f)
theorem eqCB_eq (a b : ContT) : eqCB a b = headC a b := by
  obtain ⟨k, ⟨vk, vx, vs, vb, vf⟩, t⟩ := a
  obtain ⟨k', ⟨vk', vx', vs', vb', vf'⟩, t'⟩ := b
  rw [Bool.eq_iff_iff]
  simp only [eqCB_iff, headC, Bool.and_eq_true, beq_iff_eq, eqB_iff, toList_eq, ContT.mk.injEq, ValT.mk.injEq]
  constructor
  · rintro ⟨h1, ⟨h2, h3, h4, h5, h6⟩, h7⟩
    exact ⟨⟨⟨⟨⟨⟨h7, h1⟩, h2⟩, by omega⟩, h4⟩, h5⟩, h6⟩
  · rintro ⟨⟨⟨⟨⟨⟨h7, h1⟩, h2⟩, h3⟩, h4⟩, h5⟩, h6⟩
    exact ⟨h1, ⟨h2, by omega, h4, h5, h6⟩, h7⟩
set_option maxRecDepth 100000 in
set_option maxHeartbeats 8000000 in
theorem just_any (n : Nat) (a b : ContT) (aa ba : Option Addr) (ac bc : Nat) (w : World) (ha : ArgsIn w n (.slice aa a.t.args.length ac) a.t.args) (hb : ArgsIn w n (.slice ba b.t.args.length bc) b.t.args) :
    Calls Tryz.prog 14 #[contV a aa a.t.args.length ac, contV b ba b.t.args.length bc] w fun e w' => e = .returned (.bool (eqCB a b)) ∧ Gr w w' := by
  obtain ⟨w0, hw0, hg0, hs0, hN⟩ := boxC w a aa a.t.args.length ac 33
  obtain ⟨w1, hw1, hg1, hs1, hM⟩ := boxC w0 b ba b.t.args.length bc 33
  rw [hs0] at hM
  have hN := hN.xt hg1.xt
  obtain ⟨k0, k1, k2, k3, k4, k5, k6, k7, k8, k9, k10, k11, k12, k13, k14, k15, k16, k17, k18, k19, k20⟩ := hN
  simp only [Nat.zero_add] at k0 k1 k2 k3 k4 k5 k6 k7 k8 k9 k10 k11 k12 k13 k14 k15 k16 k17 k18 k19 k20
  obtain ⟨m0, m1, m2, m3, m4, m5, m6, m7, m8, m9, m10, m11, m12, m13, m14, m15, m16, m17, m18, m19, m20⟩ := hM
  simp only [Nat.zero_add] at m0 m1 m2 m3 m4 m5 m6 m7 m8 m9 m10 m11 m12 m13 m14 m15 m16 m17 m18 m19 m20
  have HG := Lib.hid (hg0.trans hg1)
  have HX := Lib.hid (fun W b' (hx : Gr w1 W) (hb : b' < w1.heap.size) o => (hx.xt.cells).1 b' o hb)
  have HT := Lib.hid (sameN_any n a.t b.t aa ba ac bc w1 (ha.xt (hg0.trans hg1).xt) (hb.xt (hg0.trans hg1).xt))
  have HS := Lib.hid (eqCB_eq a b)
  have hz0 : w.heap.size < w1.heap.size := by omega
  have hz1 : w.heap.size + 1 < w1.heap.size := by omega
  clear ha hb hg0 hg1
  generalize eqCB a b = ans at HS ⊢
  unfold headC at HS
  generalize eqB a.t b.t = ft at HT HS
  go_enter Tryz.func14, Tryz.ntmps14
  go_wp2_with fail
  refine (HT.out).mono ?_
  rintro e w2 ⟨rfl, hg2⟩
  have HG2 := Lib.hid (HG.out.trans hg2)
  have k0 := (HX.out w2 (w.heap.size) hg2 hz0 0).trans k0
  have k1 := (HX.out w2 (w.heap.size) hg2 hz0 1).trans k1
  have k2 := (HX.out w2 (w.heap.size) hg2 hz0 2).trans k2
  have k3 := (HX.out w2 (w.heap.size) hg2 hz0 3).trans k3
  have k4 := (HX.out w2 (w.heap.size) hg2 hz0 4).trans k4
  have k5 := (HX.out w2 (w.heap.size) hg2 hz0 5).trans k5
  have m0 := (HX.out w2 (w.heap.size + 1) hg2 hz1 0).trans m0
  have m1 := (HX.out w2 (w.heap.size + 1) hg2 hz1 1).trans m1
  have m2 := (HX.out w2 (w.heap.size + 1) hg2 hz1 2).trans m2
  have m3 := (HX.out w2 (w.heap.size + 1) hg2 hz1 3).trans m3
  have m4 := (HX.out w2 (w.heap.size + 1) hg2 hz1 4).trans m4
  have m5 := (HX.out w2 (w.heap.size + 1) hg2 hz1 5).trans m5
  clear hg2 hw0 hw1 HX HT k6 k7 k8 k9 k10 k11 k12 k13 k14 k15 k16 k17 k18 k19 k20 m6 m7 m8 m9 m10 m11 m12 m13 m14 m15 m16 m17 m18 m19 m20
  cases ft
  · go_wp2_with fail
    go_quiet (first | ((go_at_call 45; exact Calls.quiet_of_same ((bitsV_any _ _).mono fun _ _ h => ⟨h.1, h.2.symm⟩))))
    go_wp2_with fail
    go_ret
    exact ⟨by rw [HS.out]; simp [], HG2.out.drewN _⟩
  cases h0 : (a.kind == b.kind)
  · go_wp2_with fail
    go_quiet (first | ((go_at_call 45; exact Calls.quiet_of_same ((bitsV_any _ _).mono fun _ _ h => ⟨h.1, h.2.symm⟩))))
    go_wp2_with fail
    go_ret
    exact ⟨by rw [HS.out]; simp [h0], HG2.out.drewN _⟩
  cases h1 : (a.v.kind == b.v.kind)
  · go_wp2_with fail
    go_quiet (first | ((go_at_call 45; exact Calls.quiet_of_same ((bitsV_any _ _).mono fun _ _ h => ⟨h.1, h.2.symm⟩))))
    go_wp2_with fail
    go_ret
    exact ⟨by rw [HS.out]; simp [h0, h1], HG2.out.drewN _⟩
  cases h2 : (((a.v.x : Nat) : Int) == ((b.v.x : Nat) : Int))
  · go_wp2_with fail
    go_quiet (first | ((go_at_call 45; exact Calls.quiet_of_same ((bitsV_any _ _).mono fun _ _ h => ⟨h.1, h.2.symm⟩))))
    go_wp2_with fail
    go_ret
    exact ⟨by rw [HS.out]; simp [h0, h1, h2], HG2.out.drewN _⟩
  cases h3 : (a.v.s.toList == b.v.s.toList)
  · go_wp2_with fail
    go_quiet (first | ((go_at_call 45; exact Calls.quiet_of_same ((bitsV_any _ _).mono fun _ _ h => ⟨h.1, h.2.symm⟩))))
    go_wp2_with fail
    go_ret
    exact ⟨by rw [HS.out]; simp [h0, h1, h2, h3], HG2.out.drewN _⟩
  cases h4 : (a.v.b == b.v.b)
  · go_wp2_with fail
    go_quiet (first | ((go_at_call 45; exact Calls.quiet_of_same ((bitsV_any _ _).mono fun _ _ h => ⟨h.1, h.2.symm⟩))))
    go_wp2_with fail
    go_ret
    exact ⟨by rw [HS.out]; simp [h0, h1, h2, h3, h4], HG2.out.drewN _⟩
  cases h5 : (a.v.f == b.v.f)
  · go_wp2_with fail
    go_quiet (first | ((go_at_call 45; exact Calls.quiet_of_same ((bitsV_any _ _).mono fun _ _ h => ⟨h.1, h.2.symm⟩))))
    go_wp2_with fail
    go_ret
    exact ⟨by rw [HS.out]; simp [h0, h1, h2, h3, h4, h5], HG2.out.drewN _⟩
  go_wp2_with fail
  go_quiet (first | ((go_at_call 45; exact Calls.quiet_of_same ((bitsV_any _ _).mono fun _ _ h => ⟨h.1, h.2.symm⟩))))
  go_wp2_with fail
  go_ret
  exact ⟨by rw [HS.out]; simp [h0, h1, h2, h3, h4, h5], HG2.out.drewN _⟩
end Go.Proofs.YtfpdleljhbkehaaGreatDoor
