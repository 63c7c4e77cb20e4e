import Derived.Test.YtideclfpbpjebaaGreatDoorB22
import Derived.StillTailTactics
namespace Go.Proofs.YtideclfpbpjebaaGreatDoor
section
open Go.RowKit Go.Sort Go.Maps

set_option maxRecDepth 100000 in
set_option maxHeartbeats 4000000 in
theorem gequal_any (g1 g2 b1 b2 : Nat) (M1 M2 : GM) (w : World) (h1 : GridIs w g1 b1 M1) (h2 : GridIs w g2 b2 M2) :
    Calls Tryz.prog 28 #[.pointer (some ⟨g1, 0, none⟩), .pointer (some ⟨g2, 0, none⟩)] w fun e w' => e = .returned (.bool (eqMB M1 M2)) ∧ Xt w w' := by
  have c1 := h1.cell
  have c2 := h2.cell
  have HM := Lib.hid (meq_any b1 b2 M1 M2 w.drew (h1.mapG.xt (Xt.refl w).drew) (h2.mapG.xt (Xt.refl w).drew))
  clear h1 h2
  go_enter Tryz.func28, Tryz.ntmps28
  go_wp2_with fail
  refine wp_region_still_tail 15 (by kernel_rfl) (by kernel_rfl) ?_
  change wpStill _ _ (World.drew _) _ _ _
  simp only [List.take_succ_cons, List.take_zero, List.drop_succ_cons, List.drop_zero]
  still_step
  still_step
  still_step
  still_step
  still_step
  still_step
  still_step
  still_step
  still_step
  still_step
  still_step
  still_step
  still_step
  still_step
  still_step
  refine wpStill_nil ?_
  change wpList _ _ _ _ _ (World.drew _)
  refine wpList_step (fun K hK => ?_)
  go_simp
  refine HM.out.mono ?_
  rintro e w5 ⟨rfl, hx⟩
  refine hK _ _ ?_
  clear hK K
  have HX := Lib.hid hx
  clear hx
  go_wp2_with fail
  go_ret
  exact ⟨rfl, (Xt.refl w).drew.trans HX.out⟩
end
section
open Go.RowKit Go.Sort

/-! ### Bounds of none; cell, number (made by mkawake.py) -/
set_option maxRecDepth 100000 in
theorem cell_any (a : Ad) (w : World) : Calls Tryz.prog 11 #[.int .i64 a.1, .int .i64 a.2] w fun e w' => e = .returned (adW a) ∧ Gr w w' := by
  go_enter Tryz.func11, Tryz.ntmps11
  go_wp2
  (try simp only [Exit.inBlock, Exit.then])
  refine bodyPost_ret (results_cell_row rfl _ _ w.heap.size _ _ _ _ rfl (heap_alloc_new _ _) Tryz.underlying36 rfl (by kernel_rfl)) rfl ?_
  exact ⟨rfl, (Gr.refl _).alloc _⟩
def numC (x : Nat) : ContT := ⟨1, ⟨1, x, ⟨#[]⟩, false, 0⟩, zeroC.t⟩
set_option maxRecDepth 100000 in
set_option maxHeartbeats 2000000 in
theorem number_any (x : Nat) (w : World) : Calls Tryz.prog 12 #[.float .f64 x] w fun e w' => e = .returned (contV (numC x) none 0 0) ∧ Xt w w' := by
  obtain ⟨w1, hw1⟩ : ∃ w1, w.alloc (.cells #[.int .i64 0, .int .i64 0, .float .f64 0, .string ⟨#[]⟩, .bool false, .int .i64 0, .int .i64 0, .int .i64 0, .float .f64 0, .string ⟨#[]⟩, .bool false, .int .i64 0, .int .i64 0, .int .i64 0, .bool false, .bool false, .int .i64 0, .int .i64 0, .bool false, .bool false, .slice none 0 0] 46) = w1 := ⟨_, rfl⟩
  have hx1 : Hid (Xt w w1) := by rw [← hw1]; exact (Xt.refl w).alloc _
  have hr1 : w1.heap[w.heap.size]? = some (.cells #[.int .i64 0, .int .i64 0, .float .f64 0, .string ⟨#[]⟩, .bool false, .int .i64 0, .int .i64 0, .int .i64 0, .float .f64 0, .string ⟨#[]⟩, .bool false, .int .i64 0, .int .i64 0, .int .i64 0, .bool false, .bool false, .int .i64 0, .int .i64 0, .bool false, .bool false, .slice none 0 0] 46 (0, 0)) := by rw [← hw1]; exact (MapKept.heap_alloc w _).1
  obtain ⟨w2, hw2⟩ : ∃ w2, w1.setRow w.heap.size #[.int .i64 1, .int .i64 1, .float .f64 x, .string ⟨#[]⟩, .bool false, .int .i64 0, .int .i64 0, .int .i64 0, .float .f64 0, .string ⟨#[]⟩, .bool false, .int .i64 0, .int .i64 0, .int .i64 0, .bool false, .bool false, .int .i64 0, .int .i64 0, .bool false, .bool false, .slice none 0 0] = w2 := ⟨_, rfl⟩
  have hr2 : w2.heap[w.heap.size]? = some (.cells #[.int .i64 1, .int .i64 1, .float .f64 x, .string ⟨#[]⟩, .bool false, .int .i64 0, .int .i64 0, .int .i64 0, .float .f64 0, .string ⟨#[]⟩, .bool false, .int .i64 0, .int .i64 0, .int .i64 0, .bool false, .bool false, .int .i64 0, .int .i64 0, .bool false, .bool false, .slice none 0 0] 46 (0, 0)) := by rw [← hw2]; exact setRow_heap w1 _ _ _ _ _ hr1
  have HX : Hid (Xt w w2) := by rw [← hw2]; exact hx1.out.grownB (setRow_grown _ _ _) (fun m hm => by cases hm; exact Nat.le_refl _)
  have HR1 := Lib.hid hr1
  have HR2 := Lib.hid hr2
  have HW2 := Lib.hid hw2
  clear hr1 hr2 hw2
  go_enter Tryz.func12, Tryz.ntmps12
  go_wp2_with (refine wpList_store_row (P := Tryz.prog) rfl 46 _ _ rfl w.heap.size #[.int .i64 1, .int .i64 1, .float .f64 x, .string ⟨#[]⟩, .bool false, .int .i64 0, .int .i64 0, .int .i64 0, .float .f64 0, .string ⟨#[]⟩, .bool false, .int .i64 0, .int .i64 0, .int .i64 0, .bool false, .bool false, .int .i64 0, .int .i64 0, .bool false, .bool false, .slice none 0 0] rfl rfl 46 _ HR1.out (by kernel_rfl) rfl (by simp [Value.oneCell']) ?_; rw [HW2.out])
  (try simp only [Exit.inBlock, Exit.then])
  refine bodyPost_ret (results_cell_row rfl _ _ w.heap.size _ _ _ _ rfl HR2.out Tryz.underlying46 rfl (by kernel_rfl)) rfl ?_
  exact ⟨rfl, HX.out⟩
theorem seven_ok : gvalidB (numC 4619567317775286272) = true := by kernel_rfl
theorem three_no : gvalidB ⟨3, zeroC.v, zeroC.t⟩ = false := by kernel_rfl
theorem one_seven : oneX 4619567317775286272 = 4619567317775286272 := by kernel_rfl
end
end Go.Proofs.YtideclfpbpjebaaGreatDoor
