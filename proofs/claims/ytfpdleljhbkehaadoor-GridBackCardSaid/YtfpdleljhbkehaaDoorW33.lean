import Derived.Test.YtfpdleljhbkehaaDoorW32
namespace Go.Proofs.YtfpdleljhbkehaaDoor
open Go.RowKit Go.Sort

/-! ### Bounds of none; cell, number (made by mkawake.py) -/
set_option maxRecDepth 100000 in
set_option maxHeartbeats 2000000 in
theorem boundsNil_any (w : World) : Calls Tryd.prog 18 #[.pointer none] w fun e w' => e = .returned (.tuple #[arV ((0, 0), (0, 0)), .bool false]) ∧ Xt w w' := by
  obtain ⟨w1, hw1⟩ : ∃ w1, w.alloc (.cells #[.int .i64 0, .int .i64 0, .int .i64 0, .int .i64 0] 55) = w1 := ⟨_, rfl⟩
  have hx1 : Hid (Xt w w1) := by rw [← hw1]; exact (Xt.refl w).alloc _
  have hr1 : w1.heap[w.heap.size]? = some (.cells #[.int .i64 0, .int .i64 0, .int .i64 0, .int .i64 0] 55 (0, 0)) := by rw [← hw1]; exact (MapKept.heap_alloc w _).1
  obtain ⟨w2, hw2⟩ : ∃ w2, w1.setRow w.heap.size #[.int .i64 0, .int .i64 0, .int .i64 0, .int .i64 0] = w2 := ⟨_, rfl⟩
  have hr2 : w2.heap[w.heap.size]? = some (.cells #[.int .i64 0, .int .i64 0, .int .i64 0, .int .i64 0] 55 (0, 0)) := by rw [← hw2]; exact setRow_heap w1 _ _ _ _ _ hr1
  have HX : Hid (Xt w w2) := by rw [← hw2]; exact hx1.out.grownB (setRow_grown _ _ _) (fun m hm => by cases hm; exact Nat.le_refl _)
  have HR1 := Lib.hid hr1
  have HR2 := Lib.hid hr2
  have HW2 := Lib.hid hw2
  clear hr1 hr2 hw2
  go_enter Tryd.func18, Tryd.ntmps18
  go_wp2_with (first
    | (refine (glenNil_any _).mono ?_; rintro e w' ⟨rfl, rfl⟩)
    | (refine wpList_store_row (P := Tryd.prog) rfl 55 _ _ rfl w.heap.size #[.int .i64 0, .int .i64 0, .int .i64 0, .int .i64 0] rfl rfl 55 _ HR1.out (by kernel_rfl) rfl (by simp [Value.oneCell']) ?_; rw [HW2.out]))
  (try simp only [Exit.inBlock, Exit.then])
  refine bodyPost_ret (v := .tuple #[arV ((0, 0), (0, 0)), .bool false]) ?_ rfl ⟨rfl, HX.out⟩
  rw [results_cell_tmp rfl]
  show ((asAddr (.pointer (some ⟨w.heap.size, 0, none⟩))).run _ _).andThen _ = _
  simp only [asAddr, Sem.run_pure, Result.andThen_ok, run_loadVar_row _ _ _ 55 _ _ _ HR2.out Tryd.underlying55 rfl (by kernel_rfl)]
  rfl
set_option maxRecDepth 100000 in
theorem cell_any (a : Ad) (w : World) : Calls Tryd.prog 12 #[.int .i64 a.1, .int .i64 a.2] w fun e w' => e = .returned (adW a) ∧ Gr w w' := by
  go_enter Tryd.func12, Tryd.ntmps12
  go_wp2
  (try simp only [Exit.inBlock, Exit.then])
  refine bodyPost_ret (results_cell_row rfl _ _ w.heap.size _ _ _ _ rfl (heap_alloc_new _ _) Tryd.underlying26 rfl (by kernel_rfl)) rfl ?_
  exact ⟨rfl, (Gr.refl _).alloc _⟩
def numC (x : Nat) : ContT := ⟨1, ⟨1, x, ⟨#[]⟩, false, 0⟩, zeroC.t⟩
set_option maxRecDepth 100000 in
set_option maxHeartbeats 2000000 in
theorem number_any (x : Nat) (w : World) : Calls Tryd.prog 22 #[.float .f64 x] w fun e w' => e = .returned (contV (numC x) none 0 0) ∧ Xt w w' := by
  obtain ⟨w1, hw1⟩ : ∃ w1, w.alloc (.cells #[.int .i64 0, .int .i64 0, .float .f64 0, .string ⟨#[]⟩, .bool false, .int .i64 0, .int .i64 0, .int .i64 0, .float .f64 0, .string ⟨#[]⟩, .bool false, .int .i64 0, .int .i64 0, .int .i64 0, .bool false, .bool false, .int .i64 0, .int .i64 0, .bool false, .bool false, .slice none 0 0] 33) = w1 := ⟨_, rfl⟩
  have hx1 : Hid (Xt w w1) := by rw [← hw1]; exact (Xt.refl w).alloc _
  have hr1 : w1.heap[w.heap.size]? = some (.cells #[.int .i64 0, .int .i64 0, .float .f64 0, .string ⟨#[]⟩, .bool false, .int .i64 0, .int .i64 0, .int .i64 0, .float .f64 0, .string ⟨#[]⟩, .bool false, .int .i64 0, .int .i64 0, .int .i64 0, .bool false, .bool false, .int .i64 0, .int .i64 0, .bool false, .bool false, .slice none 0 0] 33 (0, 0)) := by rw [← hw1]; exact (MapKept.heap_alloc w _).1
  obtain ⟨w2, hw2⟩ : ∃ w2, w1.setRow w.heap.size #[.int .i64 1, .int .i64 1, .float .f64 x, .string ⟨#[]⟩, .bool false, .int .i64 0, .int .i64 0, .int .i64 0, .float .f64 0, .string ⟨#[]⟩, .bool false, .int .i64 0, .int .i64 0, .int .i64 0, .bool false, .bool false, .int .i64 0, .int .i64 0, .bool false, .bool false, .slice none 0 0] = w2 := ⟨_, rfl⟩
  have hr2 : w2.heap[w.heap.size]? = some (.cells #[.int .i64 1, .int .i64 1, .float .f64 x, .string ⟨#[]⟩, .bool false, .int .i64 0, .int .i64 0, .int .i64 0, .float .f64 0, .string ⟨#[]⟩, .bool false, .int .i64 0, .int .i64 0, .int .i64 0, .bool false, .bool false, .int .i64 0, .int .i64 0, .bool false, .bool false, .slice none 0 0] 33 (0, 0)) := by rw [← hw2]; exact setRow_heap w1 _ _ _ _ _ hr1
  have HX : Hid (Xt w w2) := by rw [← hw2]; exact hx1.out.grownB (setRow_grown _ _ _) (fun m hm => by cases hm; exact Nat.le_refl _)
  have HR1 := Lib.hid hr1
  have HR2 := Lib.hid hr2
  have HW2 := Lib.hid hw2
  clear hr1 hr2 hw2
  go_enter Tryd.func22, Tryd.ntmps22
  go_wp2_with (refine wpList_store_row (P := Tryd.prog) rfl 33 _ _ rfl w.heap.size #[.int .i64 1, .int .i64 1, .float .f64 x, .string ⟨#[]⟩, .bool false, .int .i64 0, .int .i64 0, .int .i64 0, .float .f64 0, .string ⟨#[]⟩, .bool false, .int .i64 0, .int .i64 0, .int .i64 0, .bool false, .bool false, .int .i64 0, .int .i64 0, .bool false, .bool false, .slice none 0 0] rfl rfl 33 _ HR1.out (by kernel_rfl) rfl (by simp [Value.oneCell']) ?_; rw [HW2.out])
  (try simp only [Exit.inBlock, Exit.then])
  refine bodyPost_ret (results_cell_row rfl _ _ w.heap.size _ _ _ _ rfl HR2.out Tryd.underlying33 rfl (by kernel_rfl)) rfl ?_
  exact ⟨rfl, HX.out⟩
theorem seven_ok : gvalidB (numC 4619567317775286272) = true := by kernel_rfl
theorem three_no : gvalidB ⟨3, zeroC.v, zeroC.t⟩ = false := by kernel_rfl
theorem one_seven : oneX 4619567317775286272 = 4619567317775286272 := by kernel_rfl
end Go.Proofs.YtfpdleljhbkehaaDoor
