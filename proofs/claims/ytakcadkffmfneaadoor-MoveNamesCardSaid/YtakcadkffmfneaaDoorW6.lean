import Derived.Test.YtakcadkffmfneaaDoorA2
import Derived.Laws.FloatArith
namespace Go.Proofs.YtakcadkffmfneaaDoor
open Go.RowKit Go.Sort

def powB (i : Nat) : Nat := (1023 - i) * 4503599627370496
theorem pow_all : (List.range 1022).all (fun i => floatBits .quo .f64 (powB i) 4611686018427387904 == some (powB (i + 1))) = true := by decide +kernel
theorem pow_step {i : Nat} (h : i < 1022) : floatBits .quo .f64 (powB i) 4611686018427387904 = some (powB (i + 1)) := by
  have h2 := List.all_eq_true.1 pow_all i (List.mem_range.2 h)
  exact eq_of_beq h2
set_option maxRecDepth 100000 in
set_option maxHeartbeats 2000000 in
theorem power_any (w : World) : Calls Tryd.prog 81 #[.int .i64 (-1022)] w fun e w' => e = .returned (.float .f64 (powB 1022)) ∧ w = w' := by
  go_enter Tryd.func81, Tryd.ntmps81
  go_wp2_with fail
  go_loopw [3, 8] (fun s3 s8 wr => ∃ i : Nat, i ≤ 1022 ∧ s8 = .int .i64 i ∧ s3 = .float .f64 (powB i) ∧ w = wr) (fun _ s8 _ => 1022 - (intOf s8).toNat)
  case atStart => exact ⟨0, by omega, rfl, rfl, rfl⟩
  case round =>
    obtain ⟨i, hi, rfl, rfl, rfl⟩ := hrel
    by_cases h : i < 1022
    · have hii : (i : Int) < 1022 := by omega
      have hst := run_float_arith (P := Tryd.prog) w .quo 30 .f64 (powB i) 4611686018427387904 _ (pow_step h)
      generalize hpi : powB i = pi at hst
      generalize hpj : powB (i + 1) = pj at hst
      have HP := Lib.hid hpj
      clear hpi hpj
      go_wp2_with fail
      go_roundw
      case rel => refine ⟨i + 1, by omega, by go_num, ?_, ?_⟩ <;> first | trivial | rw [HP.out]
      case measure => simp [intOf]; omega
    · have he : i = 1022 := by omega
      subst he
      go_wp2_with fail
      go_ret
      exact ⟨rfl, rfl⟩
def absX (x : Nat) : Nat := (bits .andNot .u64 x 9223372036854775808).toNat
theorem Abs_any (x : Nat) (w : World) : Calls Tryd.prog 80 #[.float .f64 x] w fun e w' => e = .returned (.float .f64 (absX x)) ∧ w = w' := by
  go_enter Tryd.func80, Tryd.ntmps80
  go_wp2_with fail
  go_ret
  exact ⟨rfl, rfl⟩
abbrev ordX (a b : Nat) : Option Ordering := (FloatKind.format .f64).order a b
def classX (x : Nat) : Int :=
  if ordX x x != some .eq then 1
  else if ordX (absX x) 9218868437227405311 == some .gt then 2
  else if ordX (absX x) 0 == some .eq then 3
  else if ordX (absX x) (powB 1022) == some .lt then 4 else 5
set_option maxHeartbeats 2000000 in
theorem Class_any (x : Nat) (w : World) : Calls Tryd.prog 66 #[.float .f64 x] w fun e w' => e = .returned (.int .i64 (classX x)) ∧ w = w' := by
  have hc := Abs_any x w
  have hp := power_any w
  have HC := Lib.hid hc
  have HP := Lib.hid hp
  generalize hn : classX x = ans
  have HA := Lib.hid hn
  unfold classX ordX at HA
  generalize absX x = ax at HC HA
  generalize powB 1022 = px at HP HA
  clear hc hp hn
  go_enter Tryd.func66, Tryd.ntmps66
  go_wp2_with (first | (refine (HC.out).mono ?_; rintro e w' ⟨rfl, rfl⟩) | (refine (HP.out).mono ?_; rintro e w' ⟨rfl, rfl⟩))
  all_goals (go_ret; refine ⟨?_, rfl⟩; rw [← HA.out]; simp [*]; done)
theorem class_range (x : Nat) : 1 ≤ classX x ∧ classX x ≤ 5 := by unfold classX; split <;> (try split) <;> (try split) <;> (try split) <;> omega
end Go.Proofs.YtakcadkffmfneaaDoor
