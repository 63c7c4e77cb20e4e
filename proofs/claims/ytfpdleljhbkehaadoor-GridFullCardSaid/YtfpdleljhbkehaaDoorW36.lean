import Derived.Test.YtfpdleljhbkehaaDoorW35
namespace Go.Proofs.YtfpdleljhbkehaaDoor
open Go.RowKit Go.Sort

/-! ### pick -/
theorem wrap_id {x : Int} (h0 : -9223372036854775808 ≤ x) (h1 : x ≤ 9223372036854775807) : IntKind.i64.wrap x = x := by rw [IntKind.wrap_i64]; omega
set_option maxHeartbeats 1000000 in
theorem pick_any (c n : Int) (w : World) (h0 : -9223372036854775808 ≤ c) (h1 : c ≤ 9223372036854775807) (hn : 0 < n) (hn1 : n ≤ 9223372036854775807) : Calls Tryd.prog 10 #[.int .i64 c, .int .i64 n] w fun e w' => ∃ k : Int, e = .returned (.int .i64 k) ∧ 0 ≤ k ∧ k < n ∧ w = w' := by
  have hn0 : (n == 0) = false := by simp; omega
  have hn2 : ¬ n = 0 := by omega
  by_cases hc : c < 0
  · have a1 : IntKind.i64.wrap (c + 1) = c + 1 := wrap_id (by omega) (by omega)
    have a2 : IntKind.i64.wrap (-(c + 1)) = -(c + 1) := wrap_id (by omega) (by omega)
    have a3 : 0 ≤ (-(c + 1)).tmod n := Int.tmod_nonneg _ (by omega)
    have a4 : (-(c + 1)).tmod n < n := Int.tmod_lt_of_pos _ hn
    have a5 : IntKind.i64.wrap ((-(c + 1)).tmod n) = (-(c + 1)).tmod n := wrap_id (by omega) (by omega)
    go_enter Tryd.func10, Tryd.ntmps10
    go_wp2_with fail
    go_ret
    rw [Int.neg_tmod] at a3 a4
    exact ⟨_, rfl, a3, a4, rfl⟩
  · have a3 : 0 ≤ c.tmod n := Int.tmod_nonneg _ (by omega)
    have a4 : c.tmod n < n := Int.tmod_lt_of_pos _ hn
    have a5 : IntKind.i64.wrap (c.tmod n) = c.tmod n := wrap_id (by omega) (by omega)
    go_enter Tryd.func10, Tryd.ntmps10
    go_wp2_with fail
    go_ret
    exact ⟨_, rfl, Int.emod_nonneg _ hn2, Int.emod_lt_of_pos _ hn, rfl⟩
end Go.Proofs.YtfpdleljhbkehaaDoor
