import Derived.Test.YtideclfpbpjebaaGreatDoorB24
import Derived.Test.YtideclfpbpjebaaGreatDoorB17
namespace Go.Proofs.YtideclfpbpjebaaGreatDoor
section
open Go.RowKit Go.Sort

theorem eqCB_iff (a b : ContT) : eqCB a b = true ↔ a = b := @decide_eq_true_iff _ (Classical.propDecidable _)
noncomputable def headC (a b : ContT) : Bool := eqB a.t b.t && (a.kind == b.kind) && (a.v.kind == b.v.kind) && (((a.v.x : Nat) : Int) == ((b.v.x : Nat) : Int)) && (a.v.s.toList == b.v.s.toList) && (a.v.b == b.v.b) && (a.v.f == b.v.f)
theorem eqCB_eq (a b : ContT) : eqCB a b = headC a b := by
  obtain ⟨k, ⟨vk, vx, vs, vb, vf⟩, t⟩ := a
  obtain ⟨k', ⟨vk', vx', vs', vb', vf'⟩, t'⟩ := b
  rw [Bool.eq_iff_iff]
  simp only [eqCB_iff, headC, Bool.and_eq_true, beq_iff_eq, eqB_iff, toList_eq, ContT.mk.injEq, ValT.mk.injEq]
  constructor
  · rintro ⟨h1, ⟨h2, h3, h4, h5, h6⟩, h7⟩
    exact ⟨⟨⟨⟨⟨⟨h7, h1⟩, h2⟩, by omega⟩, h4⟩, h5⟩, h6⟩
  · rintro ⟨⟨⟨⟨⟨⟨h7, h1⟩, h2⟩, h3⟩, h4⟩, h5⟩, h6⟩
    exact ⟨h1, ⟨h2, by omega, h4, h5, h6⟩, h7⟩
set_option maxRecDepth 100000 in
set_option maxHeartbeats 8000000 in
theorem just_any (n : Nat) (a b : ContT) (aa ba : Option Addr) (ac bc : Nat) (w : World) (ha : ArgsIn w n (.slice aa a.t.args.length ac) a.t.args) (hb : ArgsIn w n (.slice ba b.t.args.length bc) b.t.args) :
    Calls Tryz.prog 19 #[contV a aa a.t.args.length ac, contV b ba b.t.args.length bc] w fun e w' => e = .returned (.bool (eqCB a b)) ∧ Gr w w' := by
  obtain ⟨w0, hw0, hg0, hs0, hN⟩ := boxC w a aa a.t.args.length ac 46
  obtain ⟨w1, hw1, hg1, hs1, hM⟩ := boxC w0 b ba b.t.args.length bc 46
  rw [hs0] at hM
  have hN := hN.xt hg1.xt
  obtain ⟨k0, k1, k2, k3, k4, k5, k6, k7, k8, k9, k10, k11, k12, k13, k14, k15, k16, k17, k18, k19, k20⟩ := hN
  simp only [Nat.zero_add] at k0 k1 k2 k3 k4 k5 k6 k7 k8 k9 k10 k11 k12 k13 k14 k15 k16 k17 k18 k19 k20
  obtain ⟨m0, m1, m2, m3, m4, m5, m6, m7, m8, m9, m10, m11, m12, m13, m14, m15, m16, m17, m18, m19, m20⟩ := hM
  simp only [Nat.zero_add] at m0 m1 m2 m3 m4 m5 m6 m7 m8 m9 m10 m11 m12 m13 m14 m15 m16 m17 m18 m19 m20
  have HG := Lib.hid (hg0.trans hg1)
  have HX := Lib.hid (fun W b' (hx : Gr w1 W) (hb : b' < w1.heap.size) o => (hx.xt.cells).1 b' o hb)
  have HT := Lib.hid (sameN_any n a.t b.t aa ba ac bc w1 (ha.xt (hg0.trans hg1).xt) (hb.xt (hg0.trans hg1).xt))
  have HS := Lib.hid (eqCB_eq a b)
  have hz0 : w.heap.size < w1.heap.size := by omega
  have hz1 : w.heap.size + 1 < w1.heap.size := by omega
  clear ha hb hg0 hg1
  generalize eqCB a b = ans at HS ⊢
  unfold headC at HS
  generalize eqB a.t b.t = ft at HT HS
  go_enter Tryz.func19, Tryz.ntmps19
  go_wp2_with fail
  refine (HT.out).mono ?_
  rintro e w2 ⟨rfl, hg2⟩
  have HG2 := Lib.hid (HG.out.trans hg2)
  have k0 := (HX.out w2 (w.heap.size) hg2 hz0 0).trans k0
  have k1 := (HX.out w2 (w.heap.size) hg2 hz0 1).trans k1
  have k2 := (HX.out w2 (w.heap.size) hg2 hz0 2).trans k2
  have k3 := (HX.out w2 (w.heap.size) hg2 hz0 3).trans k3
  have k4 := (HX.out w2 (w.heap.size) hg2 hz0 4).trans k4
  have k5 := (HX.out w2 (w.heap.size) hg2 hz0 5).trans k5
  have m0 := (HX.out w2 (w.heap.size + 1) hg2 hz1 0).trans m0
  have m1 := (HX.out w2 (w.heap.size + 1) hg2 hz1 1).trans m1
  have m2 := (HX.out w2 (w.heap.size + 1) hg2 hz1 2).trans m2
  have m3 := (HX.out w2 (w.heap.size + 1) hg2 hz1 3).trans m3
  have m4 := (HX.out w2 (w.heap.size + 1) hg2 hz1 4).trans m4
  have m5 := (HX.out w2 (w.heap.size + 1) hg2 hz1 5).trans m5
  clear hg2 hw0 hw1 HX HT k6 k7 k8 k9 k10 k11 k12 k13 k14 k15 k16 k17 k18 k19 k20 m6 m7 m8 m9 m10 m11 m12 m13 m14 m15 m16 m17 m18 m19 m20
  cases ft
  · go_wp2_with fail
    go_quiet (first | ((go_at_call 41; exact Calls.quiet_of_same ((bitsV_any _ _).mono fun _ _ h => ⟨h.1, h.2.symm⟩))))
    go_wp2_with fail
    go_ret
    exact ⟨by rw [HS.out]; simp [], HG2.out.drewN _⟩
  cases h0 : (a.kind == b.kind)
  · go_wp2_with fail
    go_quiet (first | ((go_at_call 41; exact Calls.quiet_of_same ((bitsV_any _ _).mono fun _ _ h => ⟨h.1, h.2.symm⟩))))
    go_wp2_with fail
    go_ret
    exact ⟨by rw [HS.out]; simp [h0], HG2.out.drewN _⟩
  cases h1 : (a.v.kind == b.v.kind)
  · go_wp2_with fail
    go_quiet (first | ((go_at_call 41; exact Calls.quiet_of_same ((bitsV_any _ _).mono fun _ _ h => ⟨h.1, h.2.symm⟩))))
    go_wp2_with fail
    go_ret
    exact ⟨by rw [HS.out]; simp [h0, h1], HG2.out.drewN _⟩
  cases h2 : (((a.v.x : Nat) : Int) == ((b.v.x : Nat) : Int))
  · go_wp2_with fail
    go_quiet (first | ((go_at_call 41; exact Calls.quiet_of_same ((bitsV_any _ _).mono fun _ _ h => ⟨h.1, h.2.symm⟩))))
    go_wp2_with fail
    go_ret
    exact ⟨by rw [HS.out]; simp [h0, h1, h2], HG2.out.drewN _⟩
  cases h3 : (a.v.s.toList == b.v.s.toList)
  · go_wp2_with fail
    go_quiet (first | ((go_at_call 41; exact Calls.quiet_of_same ((bitsV_any _ _).mono fun _ _ h => ⟨h.1, h.2.symm⟩))))
    go_wp2_with fail
    go_ret
    exact ⟨by rw [HS.out]; simp [h0, h1, h2, h3], HG2.out.drewN _⟩
  cases h4 : (a.v.b == b.v.b)
  · go_wp2_with fail
    go_quiet (first | ((go_at_call 41; exact Calls.quiet_of_same ((bitsV_any _ _).mono fun _ _ h => ⟨h.1, h.2.symm⟩))))
    go_wp2_with fail
    go_ret
    exact ⟨by rw [HS.out]; simp [h0, h1, h2, h3, h4], HG2.out.drewN _⟩
  cases h5 : (a.v.f == b.v.f)
  · go_wp2_with fail
    go_quiet (first | ((go_at_call 41; exact Calls.quiet_of_same ((bitsV_any _ _).mono fun _ _ h => ⟨h.1, h.2.symm⟩))))
    go_wp2_with fail
    go_ret
    exact ⟨by rw [HS.out]; simp [h0, h1, h2, h3, h4, h5], HG2.out.drewN _⟩
  go_wp2_with fail
  go_quiet (first | ((go_at_call 41; exact Calls.quiet_of_same ((bitsV_any _ _).mono fun _ _ h => ⟨h.1, h.2.symm⟩))))
  go_wp2_with fail
  go_ret
  exact ⟨by rw [HS.out]; simp [h0, h1, h2, h3, h4, h5], HG2.out.drewN _⟩
end
end Go.Proofs.YtideclfpbpjebaaGreatDoor
