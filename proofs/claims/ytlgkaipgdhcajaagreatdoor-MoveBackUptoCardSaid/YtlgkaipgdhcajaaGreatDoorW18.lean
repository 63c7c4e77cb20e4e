import Derived.Test.YtlgkaipgdhcajaaGreatDoorW17a
import Derived.Test.YtlgkaipgdhcajaaGreatDoorW17b
import Derived.Test.YtlgkaipgdhcajaaGreatDoorW17c
import Derived.Test.YtlgkaipgdhcajaaGreatDoorW17d
namespace Go.Proofs.YtlgkaipgdhcajaaGreatDoor
open Go.RowKit Go.Sort

theorem fault_any : ∀ n, FaultIs n := by
  intro n
  induction n using Nat.strongRecOn with
  | ind n ih =>
    intro t a cap ins w hok hT hin
    by_cases h5 : (t.kind == 5) = true
    · exact fault_5 n ih t a cap ins w hok hT hin h5
    · have h5 := Bool.eq_false_iff.2 h5
      by_cases h6 : (t.kind == 6) = true
      · exact fault_6 n ih t a cap ins w hok hT hin h5 h6
      · have h6 := Bool.eq_false_iff.2 h6
        by_cases h9 : (t.kind == 9) = true
        · exact fault_9 n ih t a cap ins w hok hT hin h5 h6 h9
        · exact fault_0 n ih t a cap ins w hok hT hin h5 h6 (Bool.eq_false_iff.2 h9)
def checkT (t : NodeT) : Int := if 256 < (measT t).1 then 34 else if 32 < (measT t).2 then 33 else faultT t false
set_option maxRecDepth 100000 in
set_option maxHeartbeats 4000000 in
theorem Check_any (n : Nat) (t : NodeT) (a : Option Addr) (cap : Nat) (w : World) (hok : t.ok) (hT : Tabs w) (hin : ArgsIn w n (.slice a t.args.length cap) t.args) :
    Calls Tryz.prog 33 #[nodeV t a t.args.length cap] w fun e w' => e = .returned (.int .i64 (checkT t)) ∧ Xt w w' := by
  obtain ⟨w0, hw0, hg0, hs0, hN⟩ := boxN w t a t.args.length cap 29
  have HG0 := Lib.hid hg0
  have HN := Lib.hid hN
  have hm := Lib.hid (measure_any n t a cap w0 (hin.xt hg0.xt))
  have HIN := Lib.hid hin
  have HOK := Lib.hid hok
  have HT := Lib.hid hT
  obtain ⟨c0, c1, c2, c3, c4, c5, c6, c7, c8, c9, c10, c11, c12, c13, c14⟩ := hN
  simp only [Nat.zero_add] at c0 c1 c2 c3 c4 c5 c6 c7 c8 c9 c10 c11 c12 c13 c14
  generalize hans : checkT t = ans
  have HA := Lib.hid hans
  unfold checkT at HA
  generalize measT t = mt at hm HA
  obtain ⟨m1, m2⟩ := mt
  simp only at hm HA
  clear hans hok hT hg0 hin
  go_enter Tryz.func33, Tryz.ntmps33
  go_wp2_with fail
  refine (hm.out).mono ?_
  rintro e w1 ⟨rfl, hg1⟩
  have HG1 := Lib.hid hg1
  have hN1 := HN.out.xt hg1.xt
  have hf := Lib.hid (fault_any n t a cap false w1 HOK.out (HT.out.xt (HG0.out.xt.trans hg1.xt)) (HIN.out.xt (HG0.out.xt.trans hg1.xt)))
  clear hg1 hw0 c0 c1 c2 c3 c4 c5 c6 c7 c8 c9 c10 c11 c12 c13 c14
  obtain ⟨c0, c1, c2, c3, c4, c5, c6, c7, c8, c9, c10, c11, c12, c13, c14⟩ := hN1
  simp only [Nat.zero_add] at c0 c1 c2 c3 c4 c5 c6 c7 c8 c9 c10 c11 c12 c13 c14
  generalize faultT t false = ft at hf HA
  by_cases h1 : 256 < m1
  · rw [if_pos h1] at HA
    go_wp2_with fail
    go_ret
    exact ⟨congrArg (fun z => Ending.returned (.int .i64 z)) HA.out, HG0.out.xt.trans HG1.out.xt⟩
  · rw [if_neg h1] at HA
    by_cases h2 : 32 < m2
    · rw [if_pos h2] at HA
      go_wp2_with fail
      go_ret
      exact ⟨congrArg (fun z => Ending.returned (.int .i64 z)) HA.out, HG0.out.xt.trans HG1.out.xt⟩
    · rw [if_neg h2] at HA
      go_wp2_with fail
      refine (hf.out).mono ?_
      rintro e w2 ⟨rfl, hx2⟩
      have HX2 := Lib.hid hx2
      clear hx2
      go_wp2_with fail
      go_ret
      exact ⟨congrArg (fun z => Ending.returned (.int .i64 z)) HA.out, (HG0.out.xt.trans HG1.out.xt).trans HX2.out⟩
end Go.Proofs.YtlgkaipgdhcajaaGreatDoor
