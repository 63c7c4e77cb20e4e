/- The document's Check of a formula. -/
import Derived.Test.YtlgkaipgdhcajaaGreatDoorV11
import Derived.Test.YtlgkaipgdhcajaaGreatDoorW20
namespace Go.Proofs.YtlgkaipgdhcajaaGreatDoor
open Go.RowKit Go.Sort

set_option maxRecDepth 100000 in
set_option maxHeartbeats 4000000 in
theorem Check12_any (n : Nat) (t : NodeT) (a : Option Addr) (cap : Nat) (w : World) (hok : t.ok) (hin : ArgsIn w n (.slice a t.args.length cap) t.args) :
    Calls Tryz.prog 37 #[nodeV t a t.args.length cap] w fun e w' => e = .returned (.int .i64 (checkT t)) ∧ Gr w w' := by
  obtain ⟨w0, hw0, hg0, hs0, hN⟩ := boxN w t a t.args.length cap 29
  have HG0 := Lib.hid hg0
  have HN := Lib.hid hN
  have HIN := Lib.hid hin
  have HC := Lib.hid (count12_any n t a cap w0 (hin.xt hg0.xt))
  have HD := Lib.hid (fun w1 (h : Gr w0 w1) => depth12_any n t a cap w1 (hin.xt (hg0.trans h).xt))
  have HF := Lib.hid (fun w1 (h : Gr w0 w1) => first12_any n t a cap false w1 hok (hin.xt (hg0.trans h).xt))
  obtain ⟨c0, c1, c2, c3, c4, c5, c6, c7, c8, c9, c10, c11, c12, c13, c14⟩ := hN
  simp only [Nat.zero_add] at c0 c1 c2 c3 c4 c5 c6 c7 c8 c9 c10 c11 c12 c13 c14
  generalize hans : checkT t = ans
  have HA := Lib.hid hans
  unfold checkT at HA
  generalize (measT t).1 = m1 at HC HA
  generalize (measT t).2 = m2 at HD HA
  generalize faultT t false = ft at HF HA
  clear hans hok hg0 hin
  go_enter Tryz.func37, Tryz.ntmps37
  go_wp2_with fail
  refine (HC.out).mono ?_
  rintro e w1 ⟨rfl, hg1⟩
  have HG1 := Lib.hid hg1
  have hN1 := HN.out.xt hg1.xt
  have HD1 := Lib.hid (HD.out w1 hg1)
  clear hg1 hw0 c0 c1 c2 c3 c4 c5 c6 c7 c8 c9 c10 c11 c12 c13 c14
  obtain ⟨c0, c1, c2, c3, c4, c5, c6, c7, c8, c9, c10, c11, c12, c13, c14⟩ := hN1
  simp only [Nat.zero_add] at c0 c1 c2 c3 c4 c5 c6 c7 c8 c9 c10 c11 c12 c13 c14
  by_cases h1 : 256 < m1
  · rw [if_pos h1] at HA
    go_wp2_with fail
    go_ret
    exact ⟨congrArg (fun z => Ending.returned (.int .i64 z)) HA.out, HG0.out.trans HG1.out⟩
  rw [if_neg h1] at HA
  go_wp2_with fail
  refine (HD1.out).mono ?_
  rintro e w2 ⟨rfl, hg2⟩
  have HG2 := Lib.hid (HG1.out.trans hg2)
  have hN2 := HN.out.xt HG2.out.xt
  have HF2 := Lib.hid (HF.out w2 HG2.out)
  clear hg2 c0 c1 c2 c3 c4 c5 c6 c7 c8 c9 c10 c11 c12 c13 c14
  obtain ⟨c0, c1, c2, c3, c4, c5, c6, c7, c8, c9, c10, c11, c12, c13, c14⟩ := hN2
  simp only [Nat.zero_add] at c0 c1 c2 c3 c4 c5 c6 c7 c8 c9 c10 c11 c12 c13 c14
  by_cases h2 : 32 < m2
  · rw [if_pos h2] at HA
    go_wp2_with fail
    go_ret
    exact ⟨congrArg (fun z => Ending.returned (.int .i64 z)) HA.out, HG0.out.trans HG2.out⟩
  rw [if_neg h2] at HA
  go_wp2_with fail
  refine (HF2.out).mono ?_
  rintro e w3 ⟨rfl, hg3⟩
  have HG3 := Lib.hid (HG2.out.trans hg3)
  clear hg3
  go_wp2_with fail
  go_ret
  exact ⟨congrArg (fun z => Ending.returned (.int .i64 z)) HA.out, HG0.out.trans HG3.out⟩
/-! ### quadrilleref14.Valid -/
end Go.Proofs.YtlgkaipgdhcajaaGreatDoor
