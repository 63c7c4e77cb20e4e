import Derived.Test.YtakcadkffmfneaaDoorA3
import Derived.Laws.Rows
namespace Go.Proofs.YtakcadkffmfneaaDoor
open Go.RowKit Go.Sort

set_option maxRecDepth 100000 in
set_option maxHeartbeats 2000000 in
theorem OfNumber_any (x : Nat) (w : World) :
    Calls Tryd.prog 30 #[.float .f64 x] w fun e w' => e = .returned (.agg #[.int .i64 1, .float .f64 (oneX x), .string ⟨#[]⟩, .bool false, .int .i64 0]) ∧ Gr w w' := by
  have H1 := Lib.hid (One_any x)
  generalize oneX x = ox at H1 ⊢
  go_enter Tryd.func30, Tryd.ntmps30
  go_wp2_with (refine (H1.out _).mono ?_; rintro e w' ⟨rfl, rfl⟩)
  (try simp only [Exit.inBlock, Exit.then])
  refine bodyPost_ret (results_cell_row rfl _ _ w.heap.size _ _ _ _ rfl (heap_alloc_new _ _) Tryd.underlying32 rfl (by kernel_rfl)) rfl ?_
  exact ⟨rfl, (Gr.refl _).alloc _⟩
set_option maxRecDepth 100000 in
set_option maxHeartbeats 2000000 in
theorem ClipNode_any (a : Option Addr) (n cap : Nat) (w : World) (h : n ≤ cap) (_hc : cap ≤ 9223372036854775807) :
    Calls Tryd.prog 40 #[.slice a n cap] w fun e w' => e = .returned (.slice a n n) ∧ w = w' := by
  have h0 : (0 : Int) ≤ (n : Int) := by omega
  have h1 : (n : Int) ≤ (cap : Int) := by omega
  have h2 : (n : Int) ≤ (n : Int) := by omega
  go_enter Tryd.func40, Tryd.ntmps40
  go_wp2_with fail
  go_ret
  exact ⟨rfl, rfl⟩
end Go.Proofs.YtakcadkffmfneaaDoor
