/- Two contents are the same: grid.Same answers as their keys do. -/
import Derived.Test.YtdoeejhdenifpaaGreatDoorW44
import Derived.Test.YtdoeejhdenifpaaGreatDoorA5
namespace Go.Proofs.YtdoeejhdenifpaaGreatDoor
open Go.RowKit Go.Sort
inductive KeyC where
 | p (v : Int × KeyV) | f (t : NodeT) | o
def keyC (c : ContT) : Int × KeyC := (c.kind, if (c.kind == 1) = true then .p (keyV c.v) else if (c.kind == 2) = true then .f (copyT c.t) else .o)
noncomputable def sameCB (a b : ContT) : Bool := @decide (keyC a = keyC b) (Classical.propDecidable _)
theorem sameCB_iff (a b : ContT) : sameCB a b = true ↔ keyC a = keyC b := @decide_eq_true_iff _ (Classical.propDecidable _)
theorem sameVB_iff (a b : ValT) : sameVB a b = true ↔ keyV a = keyV b := @decide_eq_true_iff _ (Classical.propDecidable _)
theorem sameCB_kind {a b : ContT} (h : (a.kind == b.kind) = false) : sameCB a b = false := by
 cases hs : sameCB a b
 · rfl
 · have := congrArg Prod.fst ((sameCB_iff _ _).1 hs)
   simp only [keyC] at this
   rw [this] at h; simp at h
theorem sameCB_1 {a b : ContT} (h : (a.kind == b.kind) = true) (h1 : (a.kind == 1) = true) : sameCB a b = sameVB a.v b.v := by
 have e := eq_of_beq h
 rw [Bool.eq_iff_iff, sameCB_iff, sameVB_iff]
 unfold keyC
 rw [← e]; simp [h1]
theorem sameCB_2 {a b : ContT} (h : (a.kind == b.kind) = true) (h1 : (a.kind == 1) = false) (h2 : (a.kind == 2) = true) : sameCB a b = sameTB a.t b.t := by
 have e := eq_of_beq h
 rw [Bool.eq_iff_iff, sameCB_iff, sameTB_iff]
 unfold keyC
 rw [← e]; simp [h1, h2]
theorem sameCB_o {a b : ContT} (h : (a.kind == b.kind) = true) (h1 : (a.kind == 1) = false) (h2 : (a.kind == 2) = false) : sameCB a b = true := by
 have e := eq_of_beq h
 rw [sameCB_iff]
 unfold keyC
 rw [← e]; simp [h1, h2]
set_option maxRecDepth 100000 in
set_option maxHeartbeats 4000000 in
theorem gsame_any (n : Nat) (a b : ContT) (aa ba : Option Addr) (ac bc : Nat) (w : World) (ha : ArgsIn w n (.slice aa a.t.args.length ac) a.t.args) (hb : ArgsIn w n (.slice ba b.t.args.length bc) b.t.args) :
    Calls Tryz.prog 17 #[contV a aa a.t.args.length ac, contV b ba b.t.args.length bc] w fun e w' => e = .returned (.bool (sameCB a b)) ∧ Gr w w' := by
 obtain ⟨w0, hw0, hg0, hs0, hN⟩ := boxC w a aa a.t.args.length ac 51
 obtain ⟨w1, hw1, hg1, hs1, hM⟩ := boxC w0 b ba b.t.args.length bc 51
 rw [hs0] at hM
 have hN := hN.xt hg1.xt
 obtain ⟨k0, k1, k2, k3, k4, k5, k6, k7, k8, k9, k10, k11, k12, k13, k14, k15, k16, k17, k18, k19, k20⟩ := hN
 obtain ⟨m0, m1, m2, m3, m4, m5, m6, m7, m8, m9, m10, m11, m12, m13, m14, m15, m16, m17, m18, m19, m20⟩ := hM
 simp only [Nat.zero_add] at k0 k1 k2 k3 k4 k5 k6 k7 k8 k9 k10 k11 k12 k13 k14 k15 k16 k17 k18 k19 k20 m0 m1 m2 m3 m4 m5 m6 m7 m8 m9 m10 m11 m12 m13 m14 m15 m16 m17 m18 m19 m20
 have HG := Lib.hid (hg0.trans hg1)
 have HV := Lib.hid (vSame_any a.v b.v w1)
 have HT := Lib.hid (fsame_any n a.t b.t aa ba ac bc w1 (ha.xt (hg0.trans hg1).xt) (hb.xt (hg0.trans hg1).xt))
 clear ha hb hg0 hg1
 cases hk : (a.kind == b.kind)
 · have HS := Lib.hid (sameCB_kind hk)
   clear k1 k2 k3 k4 k5 k6 k7 k8 k9 k10 k11 k12 k13 k14 k15 k16 k17 k18 k19 k20 m1 m2 m3 m4 m5 m6 m7 m8 m9 m10 m11 m12 m13 m14 m15 m16 m17 m18 m19 m20
   go_enter Tryz.func17, Tryz.ntmps17
   go_wp2_with fail
   go_ret
   exact ⟨by rw [HS.out]; rfl, HG.out⟩
 cases h1 : (a.kind == 1)
 rotate_left
 · have HS := Lib.hid (sameCB_1 hk h1)
   clear k6 k7 k8 k9 k10 k11 k12 k13 k14 k15 k16 k17 k18 k19 k20 m6 m7 m8 m9 m10 m11 m12 m13 m14 m15 m16 m17 m18 m19 m20
   go_enter Tryz.func17, Tryz.ntmps17
   go_wp2_with (refine (HV.out).mono ?_; rintro e w2 ⟨rfl, hg2⟩; have HG2 := Lib.hid hg2; clear hg2)
   go_ret
   exact ⟨by rw [HS.out]; rfl, HG.out.trans HG2.out⟩
 cases h2 : (a.kind == 2)
 · have HS := Lib.hid (sameCB_o hk h1 h2)
   clear k1 k2 k3 k4 k5 k6 k7 k8 k9 k10 k11 k12 k13 k14 k15 k16 k17 k18 k19 k20 m1 m2 m3 m4 m5 m6 m7 m8 m9 m10 m11 m12 m13 m14 m15 m16 m17 m18 m19 m20
   go_enter Tryz.func17, Tryz.ntmps17
   go_wp2_with fail
   go_ret
   exact ⟨by rw [HS.out]; rfl, HG.out⟩
 · have HS := Lib.hid (sameCB_2 hk h1 h2)
   clear k1 k2 k3 k4 k5 m1 m2 m3 m4 m5
   go_enter Tryz.func17, Tryz.ntmps17
   go_wp2_with (refine (HT.out).mono ?_; rintro e w2 ⟨rfl, hg2⟩; have HG2 := Lib.hid hg2; clear hg2)
   go_ret
   exact ⟨by rw [HS.out]; rfl, HG.out.trans HG2.out⟩
end Go.Proofs.YtdoeejhdenifpaaGreatDoor
