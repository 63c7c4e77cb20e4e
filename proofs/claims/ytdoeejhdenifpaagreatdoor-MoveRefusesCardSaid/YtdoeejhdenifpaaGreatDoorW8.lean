import Derived.Test.YtdoeejhdenifpaaGreatDoorW7
import Derived.Laws.Rows
namespace Go.Proofs.YtdoeejhdenifpaaGreatDoor
open Go.RowKit Go.Sort
set_option maxRecDepth 100000 in
set_option maxHeartbeats 4000000 in
theorem takes_0 (s : ByteArray) (w : World) (hs : s.toList = [78, 65]) :
    Calls Tryz.prog 175 #[.string s] w fun e w' => e = .returned (.agg #[.int .i64 0, .int .i64 0]) ∧ Gr w w' := by
 have f0 : (s.toList == [78, 65]) = true := by rw [hs]; rfl
 clear hs
 go_enter Tryz.func175, Tryz.ntmps175
 go_wp2_with fail
 (try simp only [Exit.inBlock, Exit.then])
 refine bodyPost_ret (results_cell_row rfl _ _ w.heap.size _ _ _ _ rfl (heap_alloc_new _ _) Tryz.underlying196 rfl (by kernel_rfl)) rfl ?_
 exact ⟨rfl, (Gr.refl _).alloc _⟩
set_option maxRecDepth 100000 in
set_option maxHeartbeats 4000000 in
theorem takes_1 (s : ByteArray) (w : World) (hs : s.toList = [65, 66, 83]) :
    Calls Tryz.prog 175 #[.string s] w fun e w' => e = .returned (.agg #[.int .i64 1, .int .i64 1]) ∧ Gr w w' := by
 have f0 : (s.toList == [78, 65]) = false := by rw [hs]; rfl
 have f1 : (s.toList == [65, 66, 83]) = true := by rw [hs]; rfl
 clear hs
 go_enter Tryz.func175, Tryz.ntmps175
 go_wp2_with fail
 (try simp only [Exit.inBlock, Exit.then])
 refine bodyPost_ret (results_cell_row rfl _ _ w.heap.size _ _ _ _ rfl (heap_alloc_new _ _) Tryz.underlying196 rfl (by kernel_rfl)) rfl ?_
 exact ⟨rfl, (Gr.refl _).alloc _⟩
set_option maxRecDepth 100000 in
set_option maxHeartbeats 4000000 in
theorem takes_2 (s : ByteArray) (w : World) (hs : s.toList = [73, 78, 84]) :
    Calls Tryz.prog 175 #[.string s] w fun e w' => e = .returned (.agg #[.int .i64 1, .int .i64 1]) ∧ Gr w w' := by
 have f0 : (s.toList == [78, 65]) = false := by rw [hs]; rfl
 have f1 : (s.toList == [65, 66, 83]) = false := by rw [hs]; rfl
 have f2 : (s.toList == [73, 78, 84]) = true := by rw [hs]; rfl
 clear hs
 go_enter Tryz.func175, Tryz.ntmps175
 go_wp2_with fail
 (try simp only [Exit.inBlock, Exit.then])
 refine bodyPost_ret (results_cell_row rfl _ _ w.heap.size _ _ _ _ rfl (heap_alloc_new _ _) Tryz.underlying196 rfl (by kernel_rfl)) rfl ?_
 exact ⟨rfl, (Gr.refl _).alloc _⟩
set_option maxRecDepth 100000 in
set_option maxHeartbeats 4000000 in
theorem takes_3 (s : ByteArray) (w : World) (hs : s.toList = [73, 83, 66, 76, 65, 78, 75]) :
    Calls Tryz.prog 175 #[.string s] w fun e w' => e = .returned (.agg #[.int .i64 1, .int .i64 1]) ∧ Gr w w' := by
 have f0 : (s.toList == [78, 65]) = false := by rw [hs]; rfl
 have f1 : (s.toList == [65, 66, 83]) = false := by rw [hs]; rfl
 have f2 : (s.toList == [73, 78, 84]) = false := by rw [hs]; rfl
 have f3 : (s.toList == [73, 83, 66, 76, 65, 78, 75]) = true := by rw [hs]; rfl
 clear hs
 go_enter Tryz.func175, Tryz.ntmps175
 go_wp2_with fail
 (try simp only [Exit.inBlock, Exit.then])
 refine bodyPost_ret (results_cell_row rfl _ _ w.heap.size _ _ _ _ rfl (heap_alloc_new _ _) Tryz.underlying196 rfl (by kernel_rfl)) rfl ?_
 exact ⟨rfl, (Gr.refl _).alloc _⟩
set_option maxRecDepth 100000 in
set_option maxHeartbeats 4000000 in
theorem takes_4 (s : ByteArray) (w : World) (hs : s.toList = [73, 83, 69, 82, 82, 79, 82]) :
    Calls Tryz.prog 175 #[.string s] w fun e w' => e = .returned (.agg #[.int .i64 1, .int .i64 1]) ∧ Gr w w' := by
 have f0 : (s.toList == [78, 65]) = false := by rw [hs]; rfl
 have f1 : (s.toList == [65, 66, 83]) = false := by rw [hs]; rfl
 have f2 : (s.toList == [73, 78, 84]) = false := by rw [hs]; rfl
 have f3 : (s.toList == [73, 83, 66, 76, 65, 78, 75]) = false := by rw [hs]; rfl
 have f4 : (s.toList == [73, 83, 69, 82, 82, 79, 82]) = true := by rw [hs]; rfl
 clear hs
 go_enter Tryz.func175, Tryz.ntmps175
 go_wp2_with fail
 (try simp only [Exit.inBlock, Exit.then])
 refine bodyPost_ret (results_cell_row rfl _ _ w.heap.size _ _ _ _ rfl (heap_alloc_new _ _) Tryz.underlying196 rfl (by kernel_rfl)) rfl ?_
 exact ⟨rfl, (Gr.refl _).alloc _⟩
set_option maxRecDepth 100000 in
set_option maxHeartbeats 4000000 in
theorem takes_5 (s : ByteArray) (w : World) (hs : s.toList = [73, 83, 78, 85, 77, 66, 69, 82]) :
    Calls Tryz.prog 175 #[.string s] w fun e w' => e = .returned (.agg #[.int .i64 1, .int .i64 1]) ∧ Gr w w' := by
 have f0 : (s.toList == [78, 65]) = false := by rw [hs]; rfl
 have f1 : (s.toList == [65, 66, 83]) = false := by rw [hs]; rfl
 have f2 : (s.toList == [73, 78, 84]) = false := by rw [hs]; rfl
 have f3 : (s.toList == [73, 83, 66, 76, 65, 78, 75]) = false := by rw [hs]; rfl
 have f4 : (s.toList == [73, 83, 69, 82, 82, 79, 82]) = false := by rw [hs]; rfl
 have f5 : (s.toList == [73, 83, 78, 85, 77, 66, 69, 82]) = true := by rw [hs]; rfl
 clear hs
 go_enter Tryz.func175, Tryz.ntmps175
 go_wp2_with fail
 (try simp only [Exit.inBlock, Exit.then])
 refine bodyPost_ret (results_cell_row rfl _ _ w.heap.size _ _ _ _ rfl (heap_alloc_new _ _) Tryz.underlying196 rfl (by kernel_rfl)) rfl ?_
 exact ⟨rfl, (Gr.refl _).alloc _⟩
set_option maxRecDepth 100000 in
set_option maxHeartbeats 4000000 in
theorem takes_6 (s : ByteArray) (w : World) (hs : s.toList = [73, 83, 84, 69, 88, 84]) :
    Calls Tryz.prog 175 #[.string s] w fun e w' => e = .returned (.agg #[.int .i64 1, .int .i64 1]) ∧ Gr w w' := by
 have f0 : (s.toList == [78, 65]) = false := by rw [hs]; rfl
 have f1 : (s.toList == [65, 66, 83]) = false := by rw [hs]; rfl
 have f2 : (s.toList == [73, 78, 84]) = false := by rw [hs]; rfl
 have f3 : (s.toList == [73, 83, 66, 76, 65, 78, 75]) = false := by rw [hs]; rfl
 have f4 : (s.toList == [73, 83, 69, 82, 82, 79, 82]) = false := by rw [hs]; rfl
 have f5 : (s.toList == [73, 83, 78, 85, 77, 66, 69, 82]) = false := by rw [hs]; rfl
 have f6 : (s.toList == [73, 83, 84, 69, 88, 84]) = true := by rw [hs]; rfl
 clear hs
 go_enter Tryz.func175, Tryz.ntmps175
 go_wp2_with fail
 (try simp only [Exit.inBlock, Exit.then])
 refine bodyPost_ret (results_cell_row rfl _ _ w.heap.size _ _ _ _ rfl (heap_alloc_new _ _) Tryz.underlying196 rfl (by kernel_rfl)) rfl ?_
 exact ⟨rfl, (Gr.refl _).alloc _⟩
set_option maxRecDepth 100000 in
set_option maxHeartbeats 4000000 in
theorem takes_7 (s : ByteArray) (w : World) (hs : s.toList = [76, 69, 78]) :
    Calls Tryz.prog 175 #[.string s] w fun e w' => e = .returned (.agg #[.int .i64 1, .int .i64 1]) ∧ Gr w w' := by
 have f0 : (s.toList == [78, 65]) = false := by rw [hs]; rfl
 have f1 : (s.toList == [65, 66, 83]) = false := by rw [hs]; rfl
 have f2 : (s.toList == [73, 78, 84]) = false := by rw [hs]; rfl
 have f3 : (s.toList == [73, 83, 66, 76, 65, 78, 75]) = false := by rw [hs]; rfl
 have f4 : (s.toList == [73, 83, 69, 82, 82, 79, 82]) = false := by rw [hs]; rfl
 have f5 : (s.toList == [73, 83, 78, 85, 77, 66, 69, 82]) = false := by rw [hs]; rfl
 have f6 : (s.toList == [73, 83, 84, 69, 88, 84]) = false := by rw [hs]; rfl
 have f7 : (s.toList == [76, 69, 78]) = true := by rw [hs]; rfl
 clear hs
 go_enter Tryz.func175, Tryz.ntmps175
 go_wp2_with fail
 (try simp only [Exit.inBlock, Exit.then])
 refine bodyPost_ret (results_cell_row rfl _ _ w.heap.size _ _ _ _ rfl (heap_alloc_new _ _) Tryz.underlying196 rfl (by kernel_rfl)) rfl ?_
 exact ⟨rfl, (Gr.refl _).alloc _⟩
set_option maxRecDepth 100000 in
set_option maxHeartbeats 4000000 in
theorem takes_8 (s : ByteArray) (w : World) (hs : s.toList = [78, 79, 84]) :
    Calls Tryz.prog 175 #[.string s] w fun e w' => e = .returned (.agg #[.int .i64 1, .int .i64 1]) ∧ Gr w w' := by
 have f0 : (s.toList == [78, 65]) = false := by rw [hs]; rfl
 have f1 : (s.toList == [65, 66, 83]) = false := by rw [hs]; rfl
 have f2 : (s.toList == [73, 78, 84]) = false := by rw [hs]; rfl
 have f3 : (s.toList == [73, 83, 66, 76, 65, 78, 75]) = false := by rw [hs]; rfl
 have f4 : (s.toList == [73, 83, 69, 82, 82, 79, 82]) = false := by rw [hs]; rfl
 have f5 : (s.toList == [73, 83, 78, 85, 77, 66, 69, 82]) = false := by rw [hs]; rfl
 have f6 : (s.toList == [73, 83, 84, 69, 88, 84]) = false := by rw [hs]; rfl
 have f7 : (s.toList == [76, 69, 78]) = false := by rw [hs]; rfl
 have f8 : (s.toList == [78, 79, 84]) = true := by rw [hs]; rfl
 clear hs
 go_enter Tryz.func175, Tryz.ntmps175
 go_wp2_with fail
 (try simp only [Exit.inBlock, Exit.then])
 refine bodyPost_ret (results_cell_row rfl _ _ w.heap.size _ _ _ _ rfl (heap_alloc_new _ _) Tryz.underlying196 rfl (by kernel_rfl)) rfl ?_
 exact ⟨rfl, (Gr.refl _).alloc _⟩
set_option maxRecDepth 100000 in
set_option maxHeartbeats 4000000 in
theorem takes_9 (s : ByteArray) (w : World) (hs : s.toList = [83, 73, 71, 78]) :
    Calls Tryz.prog 175 #[.string s] w fun e w' => e = .returned (.agg #[.int .i64 1, .int .i64 1]) ∧ Gr w w' := by
 have f0 : (s.toList == [78, 65]) = false := by rw [hs]; rfl
 have f1 : (s.toList == [65, 66, 83]) = false := by rw [hs]; rfl
 have f2 : (s.toList == [73, 78, 84]) = false := by rw [hs]; rfl
 have f3 : (s.toList == [73, 83, 66, 76, 65, 78, 75]) = false := by rw [hs]; rfl
 have f4 : (s.toList == [73, 83, 69, 82, 82, 79, 82]) = false := by rw [hs]; rfl
 have f5 : (s.toList == [73, 83, 78, 85, 77, 66, 69, 82]) = false := by rw [hs]; rfl
 have f6 : (s.toList == [73, 83, 84, 69, 88, 84]) = false := by rw [hs]; rfl
 have f7 : (s.toList == [76, 69, 78]) = false := by rw [hs]; rfl
 have f8 : (s.toList == [78, 79, 84]) = false := by rw [hs]; rfl
 have f9 : (s.toList == [83, 73, 71, 78]) = true := by rw [hs]; rfl
 clear hs
 go_enter Tryz.func175, Tryz.ntmps175
 go_wp2_with fail
 (try simp only [Exit.inBlock, Exit.then])
 refine bodyPost_ret (results_cell_row rfl _ _ w.heap.size _ _ _ _ rfl (heap_alloc_new _ _) Tryz.underlying196 rfl (by kernel_rfl)) rfl ?_
 exact ⟨rfl, (Gr.refl _).alloc _⟩
set_option maxRecDepth 100000 in
set_option maxHeartbeats 4000000 in
theorem takes_10 (s : ByteArray) (w : World) (hs : s.toList = [83, 73, 78, 71, 76, 69]) :
    Calls Tryz.prog 175 #[.string s] w fun e w' => e = .returned (.agg #[.int .i64 1, .int .i64 1]) ∧ Gr w w' := by
 have f0 : (s.toList == [78, 65]) = false := by rw [hs]; rfl
 have f1 : (s.toList == [65, 66, 83]) = false := by rw [hs]; rfl
 have f2 : (s.toList == [73, 78, 84]) = false := by rw [hs]; rfl
 have f3 : (s.toList == [73, 83, 66, 76, 65, 78, 75]) = false := by rw [hs]; rfl
 have f4 : (s.toList == [73, 83, 69, 82, 82, 79, 82]) = false := by rw [hs]; rfl
 have f5 : (s.toList == [73, 83, 78, 85, 77, 66, 69, 82]) = false := by rw [hs]; rfl
 have f6 : (s.toList == [73, 83, 84, 69, 88, 84]) = false := by rw [hs]; rfl
 have f7 : (s.toList == [76, 69, 78]) = false := by rw [hs]; rfl
 have f8 : (s.toList == [78, 79, 84]) = false := by rw [hs]; rfl
 have f9 : (s.toList == [83, 73, 71, 78]) = false := by rw [hs]; rfl
 have f10 : (s.toList == [83, 73, 78, 71, 76, 69]) = true := by rw [hs]; rfl
 clear hs
 go_enter Tryz.func175, Tryz.ntmps175
 go_wp2_with fail
 (try simp only [Exit.inBlock, Exit.then])
 refine bodyPost_ret (results_cell_row rfl _ _ w.heap.size _ _ _ _ rfl (heap_alloc_new _ _) Tryz.underlying196 rfl (by kernel_rfl)) rfl ?_
 exact ⟨rfl, (Gr.refl _).alloc _⟩
set_option maxRecDepth 100000 in
set_option maxHeartbeats 4000000 in
theorem takes_11 (s : ByteArray) (w : World) (hs : s.toList = [83, 81, 82, 84]) :
    Calls Tryz.prog 175 #[.string s] w fun e w' => e = .returned (.agg #[.int .i64 1, .int .i64 1]) ∧ Gr w w' := by
 have f0 : (s.toList == [78, 65]) = false := by rw [hs]; rfl
 have f1 : (s.toList == [65, 66, 83]) = false := by rw [hs]; rfl
 have f2 : (s.toList == [73, 78, 84]) = false := by rw [hs]; rfl
 have f3 : (s.toList == [73, 83, 66, 76, 65, 78, 75]) = false := by rw [hs]; rfl
 have f4 : (s.toList == [73, 83, 69, 82, 82, 79, 82]) = false := by rw [hs]; rfl
 have f5 : (s.toList == [73, 83, 78, 85, 77, 66, 69, 82]) = false := by rw [hs]; rfl
 have f6 : (s.toList == [73, 83, 84, 69, 88, 84]) = false := by rw [hs]; rfl
 have f7 : (s.toList == [76, 69, 78]) = false := by rw [hs]; rfl
 have f8 : (s.toList == [78, 79, 84]) = false := by rw [hs]; rfl
 have f9 : (s.toList == [83, 73, 71, 78]) = false := by rw [hs]; rfl
 have f10 : (s.toList == [83, 73, 78, 71, 76, 69]) = false := by rw [hs]; rfl
 have f11 : (s.toList == [83, 81, 82, 84]) = true := by rw [hs]; rfl
 clear hs
 go_enter Tryz.func175, Tryz.ntmps175
 go_wp2_with fail
 (try simp only [Exit.inBlock, Exit.then])
 refine bodyPost_ret (results_cell_row rfl _ _ w.heap.size _ _ _ _ rfl (heap_alloc_new _ _) Tryz.underlying196 rfl (by kernel_rfl)) rfl ?_
 exact ⟨rfl, (Gr.refl _).alloc _⟩
set_option maxRecDepth 100000 in
set_option maxHeartbeats 4000000 in
theorem takes_12 (s : ByteArray) (w : World) (hs : s.toList = [84, 82, 85, 78, 67]) :
    Calls Tryz.prog 175 #[.string s] w fun e w' => e = .returned (.agg #[.int .i64 1, .int .i64 1]) ∧ Gr w w' := by
 have f0 : (s.toList == [78, 65]) = false := by rw [hs]; rfl
 have f1 : (s.toList == [65, 66, 83]) = false := by rw [hs]; rfl
 have f2 : (s.toList == [73, 78, 84]) = false := by rw [hs]; rfl
 have f3 : (s.toList == [73, 83, 66, 76, 65, 78, 75]) = false := by rw [hs]; rfl
 have f4 : (s.toList == [73, 83, 69, 82, 82, 79, 82]) = false := by rw [hs]; rfl
 have f5 : (s.toList == [73, 83, 78, 85, 77, 66, 69, 82]) = false := by rw [hs]; rfl
 have f6 : (s.toList == [73, 83, 84, 69, 88, 84]) = false := by rw [hs]; rfl
 have f7 : (s.toList == [76, 69, 78]) = false := by rw [hs]; rfl
 have f8 : (s.toList == [78, 79, 84]) = false := by rw [hs]; rfl
 have f9 : (s.toList == [83, 73, 71, 78]) = false := by rw [hs]; rfl
 have f10 : (s.toList == [83, 73, 78, 71, 76, 69]) = false := by rw [hs]; rfl
 have f11 : (s.toList == [83, 81, 82, 84]) = false := by rw [hs]; rfl
 have f12 : (s.toList == [84, 82, 85, 78, 67]) = true := by rw [hs]; rfl
 clear hs
 go_enter Tryz.func175, Tryz.ntmps175
 go_wp2_with fail
 (try simp only [Exit.inBlock, Exit.then])
 refine bodyPost_ret (results_cell_row rfl _ _ w.heap.size _ _ _ _ rfl (heap_alloc_new _ _) Tryz.underlying196 rfl (by kernel_rfl)) rfl ?_
 exact ⟨rfl, (Gr.refl _).alloc _⟩
set_option maxRecDepth 100000 in
set_option maxHeartbeats 4000000 in
theorem takes_13 (s : ByteArray) (w : World) (hs : s.toList = [86, 65, 76, 85, 69]) :
    Calls Tryz.prog 175 #[.string s] w fun e w' => e = .returned (.agg #[.int .i64 1, .int .i64 1]) ∧ Gr w w' := by
 have f0 : (s.toList == [78, 65]) = false := by rw [hs]; rfl
 have f1 : (s.toList == [65, 66, 83]) = false := by rw [hs]; rfl
 have f2 : (s.toList == [73, 78, 84]) = false := by rw [hs]; rfl
 have f3 : (s.toList == [73, 83, 66, 76, 65, 78, 75]) = false := by rw [hs]; rfl
 have f4 : (s.toList == [73, 83, 69, 82, 82, 79, 82]) = false := by rw [hs]; rfl
 have f5 : (s.toList == [73, 83, 78, 85, 77, 66, 69, 82]) = false := by rw [hs]; rfl
 have f6 : (s.toList == [73, 83, 84, 69, 88, 84]) = false := by rw [hs]; rfl
 have f7 : (s.toList == [76, 69, 78]) = false := by rw [hs]; rfl
 have f8 : (s.toList == [78, 79, 84]) = false := by rw [hs]; rfl
 have f9 : (s.toList == [83, 73, 71, 78]) = false := by rw [hs]; rfl
 have f10 : (s.toList == [83, 73, 78, 71, 76, 69]) = false := by rw [hs]; rfl
 have f11 : (s.toList == [83, 81, 82, 84]) = false := by rw [hs]; rfl
 have f12 : (s.toList == [84, 82, 85, 78, 67]) = false := by rw [hs]; rfl
 have f13 : (s.toList == [86, 65, 76, 85, 69]) = true := by rw [hs]; rfl
 clear hs
 go_enter Tryz.func175, Tryz.ntmps175
 go_wp2_with fail
 (try simp only [Exit.inBlock, Exit.then])
 refine bodyPost_ret (results_cell_row rfl _ _ w.heap.size _ _ _ _ rfl (heap_alloc_new _ _) Tryz.underlying196 rfl (by kernel_rfl)) rfl ?_
 exact ⟨rfl, (Gr.refl _).alloc _⟩
set_option maxRecDepth 100000 in
set_option maxHeartbeats 4000000 in
theorem takes_14 (s : ByteArray) (w : World) (hs : s.toList = [69, 88, 65, 67, 84]) :
    Calls Tryz.prog 175 #[.string s] w fun e w' => e = .returned (.agg #[.int .i64 2, .int .i64 2]) ∧ Gr w w' := by
 have f0 : (s.toList == [78, 65]) = false := by rw [hs]; rfl
 have f1 : (s.toList == [65, 66, 83]) = false := by rw [hs]; rfl
 have f2 : (s.toList == [73, 78, 84]) = false := by rw [hs]; rfl
 have f3 : (s.toList == [73, 83, 66, 76, 65, 78, 75]) = false := by rw [hs]; rfl
 have f4 : (s.toList == [73, 83, 69, 82, 82, 79, 82]) = false := by rw [hs]; rfl
 have f5 : (s.toList == [73, 83, 78, 85, 77, 66, 69, 82]) = false := by rw [hs]; rfl
 have f6 : (s.toList == [73, 83, 84, 69, 88, 84]) = false := by rw [hs]; rfl
 have f7 : (s.toList == [76, 69, 78]) = false := by rw [hs]; rfl
 have f8 : (s.toList == [78, 79, 84]) = false := by rw [hs]; rfl
 have f9 : (s.toList == [83, 73, 71, 78]) = false := by rw [hs]; rfl
 have f10 : (s.toList == [83, 73, 78, 71, 76, 69]) = false := by rw [hs]; rfl
 have f11 : (s.toList == [83, 81, 82, 84]) = false := by rw [hs]; rfl
 have f12 : (s.toList == [84, 82, 85, 78, 67]) = false := by rw [hs]; rfl
 have f13 : (s.toList == [86, 65, 76, 85, 69]) = false := by rw [hs]; rfl
 have f14 : (s.toList == [69, 88, 65, 67, 84]) = true := by rw [hs]; rfl
 clear hs
 go_enter Tryz.func175, Tryz.ntmps175
 go_wp2_with fail
 (try simp only [Exit.inBlock, Exit.then])
 refine bodyPost_ret (results_cell_row rfl _ _ w.heap.size _ _ _ _ rfl (heap_alloc_new _ _) Tryz.underlying196 rfl (by kernel_rfl)) rfl ?_
 exact ⟨rfl, (Gr.refl _).alloc _⟩
set_option maxRecDepth 100000 in
set_option maxHeartbeats 4000000 in
theorem takes_15 (s : ByteArray) (w : World) (hs : s.toList = [73, 70, 69, 82, 82, 79, 82]) :
    Calls Tryz.prog 175 #[.string s] w fun e w' => e = .returned (.agg #[.int .i64 2, .int .i64 2]) ∧ Gr w w' := by
 have f0 : (s.toList == [78, 65]) = false := by rw [hs]; rfl
 have f1 : (s.toList == [65, 66, 83]) = false := by rw [hs]; rfl
 have f2 : (s.toList == [73, 78, 84]) = false := by rw [hs]; rfl
 have f3 : (s.toList == [73, 83, 66, 76, 65, 78, 75]) = false := by rw [hs]; rfl
 have f4 : (s.toList == [73, 83, 69, 82, 82, 79, 82]) = false := by rw [hs]; rfl
 have f5 : (s.toList == [73, 83, 78, 85, 77, 66, 69, 82]) = false := by rw [hs]; rfl
 have f6 : (s.toList == [73, 83, 84, 69, 88, 84]) = false := by rw [hs]; rfl
 have f7 : (s.toList == [76, 69, 78]) = false := by rw [hs]; rfl
 have f8 : (s.toList == [78, 79, 84]) = false := by rw [hs]; rfl
 have f9 : (s.toList == [83, 73, 71, 78]) = false := by rw [hs]; rfl
 have f10 : (s.toList == [83, 73, 78, 71, 76, 69]) = false := by rw [hs]; rfl
 have f11 : (s.toList == [83, 81, 82, 84]) = false := by rw [hs]; rfl
 have f12 : (s.toList == [84, 82, 85, 78, 67]) = false := by rw [hs]; rfl
 have f13 : (s.toList == [86, 65, 76, 85, 69]) = false := by rw [hs]; rfl
 have f14 : (s.toList == [69, 88, 65, 67, 84]) = false := by rw [hs]; rfl
 have f15 : (s.toList == [73, 70, 69, 82, 82, 79, 82]) = true := by rw [hs]; rfl
 clear hs
 go_enter Tryz.func175, Tryz.ntmps175
 go_wp2_with fail
 (try simp only [Exit.inBlock, Exit.then])
 refine bodyPost_ret (results_cell_row rfl _ _ w.heap.size _ _ _ _ rfl (heap_alloc_new _ _) Tryz.underlying196 rfl (by kernel_rfl)) rfl ?_
 exact ⟨rfl, (Gr.refl _).alloc _⟩
set_option maxRecDepth 100000 in
set_option maxHeartbeats 4000000 in
theorem takes_16 (s : ByteArray) (w : World) (hs : s.toList = [76, 65, 82, 71, 69]) :
    Calls Tryz.prog 175 #[.string s] w fun e w' => e = .returned (.agg #[.int .i64 2, .int .i64 2]) ∧ Gr w w' := by
 have f0 : (s.toList == [78, 65]) = false := by rw [hs]; rfl
 have f1 : (s.toList == [65, 66, 83]) = false := by rw [hs]; rfl
 have f2 : (s.toList == [73, 78, 84]) = false := by rw [hs]; rfl
 have f3 : (s.toList == [73, 83, 66, 76, 65, 78, 75]) = false := by rw [hs]; rfl
 have f4 : (s.toList == [73, 83, 69, 82, 82, 79, 82]) = false := by rw [hs]; rfl
 have f5 : (s.toList == [73, 83, 78, 85, 77, 66, 69, 82]) = false := by rw [hs]; rfl
 have f6 : (s.toList == [73, 83, 84, 69, 88, 84]) = false := by rw [hs]; rfl
 have f7 : (s.toList == [76, 69, 78]) = false := by rw [hs]; rfl
 have f8 : (s.toList == [78, 79, 84]) = false := by rw [hs]; rfl
 have f9 : (s.toList == [83, 73, 71, 78]) = false := by rw [hs]; rfl
 have f10 : (s.toList == [83, 73, 78, 71, 76, 69]) = false := by rw [hs]; rfl
 have f11 : (s.toList == [83, 81, 82, 84]) = false := by rw [hs]; rfl
 have f12 : (s.toList == [84, 82, 85, 78, 67]) = false := by rw [hs]; rfl
 have f13 : (s.toList == [86, 65, 76, 85, 69]) = false := by rw [hs]; rfl
 have f14 : (s.toList == [69, 88, 65, 67, 84]) = false := by rw [hs]; rfl
 have f15 : (s.toList == [73, 70, 69, 82, 82, 79, 82]) = false := by rw [hs]; rfl
 have f16 : (s.toList == [76, 65, 82, 71, 69]) = true := by rw [hs]; rfl
 clear hs
 go_enter Tryz.func175, Tryz.ntmps175
 go_wp2_with fail
 (try simp only [Exit.inBlock, Exit.then])
 refine bodyPost_ret (results_cell_row rfl _ _ w.heap.size _ _ _ _ rfl (heap_alloc_new _ _) Tryz.underlying196 rfl (by kernel_rfl)) rfl ?_
 exact ⟨rfl, (Gr.refl _).alloc _⟩
set_option maxRecDepth 100000 in
set_option maxHeartbeats 4000000 in
theorem takes_17 (s : ByteArray) (w : World) (hs : s.toList = [76, 69, 70, 84]) :
    Calls Tryz.prog 175 #[.string s] w fun e w' => e = .returned (.agg #[.int .i64 2, .int .i64 2]) ∧ Gr w w' := by
 have f0 : (s.toList == [78, 65]) = false := by rw [hs]; rfl
 have f1 : (s.toList == [65, 66, 83]) = false := by rw [hs]; rfl
 have f2 : (s.toList == [73, 78, 84]) = false := by rw [hs]; rfl
 have f3 : (s.toList == [73, 83, 66, 76, 65, 78, 75]) = false := by rw [hs]; rfl
 have f4 : (s.toList == [73, 83, 69, 82, 82, 79, 82]) = false := by rw [hs]; rfl
 have f5 : (s.toList == [73, 83, 78, 85, 77, 66, 69, 82]) = false := by rw [hs]; rfl
 have f6 : (s.toList == [73, 83, 84, 69, 88, 84]) = false := by rw [hs]; rfl
 have f7 : (s.toList == [76, 69, 78]) = false := by rw [hs]; rfl
 have f8 : (s.toList == [78, 79, 84]) = false := by rw [hs]; rfl
 have f9 : (s.toList == [83, 73, 71, 78]) = false := by rw [hs]; rfl
 have f10 : (s.toList == [83, 73, 78, 71, 76, 69]) = false := by rw [hs]; rfl
 have f11 : (s.toList == [83, 81, 82, 84]) = false := by rw [hs]; rfl
 have f12 : (s.toList == [84, 82, 85, 78, 67]) = false := by rw [hs]; rfl
 have f13 : (s.toList == [86, 65, 76, 85, 69]) = false := by rw [hs]; rfl
 have f14 : (s.toList == [69, 88, 65, 67, 84]) = false := by rw [hs]; rfl
 have f15 : (s.toList == [73, 70, 69, 82, 82, 79, 82]) = false := by rw [hs]; rfl
 have f16 : (s.toList == [76, 65, 82, 71, 69]) = false := by rw [hs]; rfl
 have f17 : (s.toList == [76, 69, 70, 84]) = true := by rw [hs]; rfl
 clear hs
 go_enter Tryz.func175, Tryz.ntmps175
 go_wp2_with fail
 (try simp only [Exit.inBlock, Exit.then])
 refine bodyPost_ret (results_cell_row rfl _ _ w.heap.size _ _ _ _ rfl (heap_alloc_new _ _) Tryz.underlying196 rfl (by kernel_rfl)) rfl ?_
 exact ⟨rfl, (Gr.refl _).alloc _⟩
set_option maxRecDepth 100000 in
set_option maxHeartbeats 4000000 in
theorem takes_18 (s : ByteArray) (w : World) (hs : s.toList = [77, 79, 68]) :
    Calls Tryz.prog 175 #[.string s] w fun e w' => e = .returned (.agg #[.int .i64 2, .int .i64 2]) ∧ Gr w w' := by
 have f0 : (s.toList == [78, 65]) = false := by rw [hs]; rfl
 have f1 : (s.toList == [65, 66, 83]) = false := by rw [hs]; rfl
 have f2 : (s.toList == [73, 78, 84]) = false := by rw [hs]; rfl
 have f3 : (s.toList == [73, 83, 66, 76, 65, 78, 75]) = false := by rw [hs]; rfl
 have f4 : (s.toList == [73, 83, 69, 82, 82, 79, 82]) = false := by rw [hs]; rfl
 have f5 : (s.toList == [73, 83, 78, 85, 77, 66, 69, 82]) = false := by rw [hs]; rfl
 have f6 : (s.toList == [73, 83, 84, 69, 88, 84]) = false := by rw [hs]; rfl
 have f7 : (s.toList == [76, 69, 78]) = false := by rw [hs]; rfl
 have f8 : (s.toList == [78, 79, 84]) = false := by rw [hs]; rfl
 have f9 : (s.toList == [83, 73, 71, 78]) = false := by rw [hs]; rfl
 have f10 : (s.toList == [83, 73, 78, 71, 76, 69]) = false := by rw [hs]; rfl
 have f11 : (s.toList == [83, 81, 82, 84]) = false := by rw [hs]; rfl
 have f12 : (s.toList == [84, 82, 85, 78, 67]) = false := by rw [hs]; rfl
 have f13 : (s.toList == [86, 65, 76, 85, 69]) = false := by rw [hs]; rfl
 have f14 : (s.toList == [69, 88, 65, 67, 84]) = false := by rw [hs]; rfl
 have f15 : (s.toList == [73, 70, 69, 82, 82, 79, 82]) = false := by rw [hs]; rfl
 have f16 : (s.toList == [76, 65, 82, 71, 69]) = false := by rw [hs]; rfl
 have f17 : (s.toList == [76, 69, 70, 84]) = false := by rw [hs]; rfl
 have f18 : (s.toList == [77, 79, 68]) = true := by rw [hs]; rfl
 clear hs
 go_enter Tryz.func175, Tryz.ntmps175
 go_wp2_with fail
 (try simp only [Exit.inBlock, Exit.then])
 refine bodyPost_ret (results_cell_row rfl _ _ w.heap.size _ _ _ _ rfl (heap_alloc_new _ _) Tryz.underlying196 rfl (by kernel_rfl)) rfl ?_
 exact ⟨rfl, (Gr.refl _).alloc _⟩
set_option maxRecDepth 100000 in
set_option maxHeartbeats 4000000 in
theorem takes_19 (s : ByteArray) (w : World) (hs : s.toList = [80, 69, 82, 67, 69, 78, 84, 73, 76, 69]) :
    Calls Tryz.prog 175 #[.string s] w fun e w' => e = .returned (.agg #[.int .i64 2, .int .i64 2]) ∧ Gr w w' := by
 have f0 : (s.toList == [78, 65]) = false := by rw [hs]; rfl
 have f1 : (s.toList == [65, 66, 83]) = false := by rw [hs]; rfl
 have f2 : (s.toList == [73, 78, 84]) = false := by rw [hs]; rfl
 have f3 : (s.toList == [73, 83, 66, 76, 65, 78, 75]) = false := by rw [hs]; rfl
 have f4 : (s.toList == [73, 83, 69, 82, 82, 79, 82]) = false := by rw [hs]; rfl
 have f5 : (s.toList == [73, 83, 78, 85, 77, 66, 69, 82]) = false := by rw [hs]; rfl
 have f6 : (s.toList == [73, 83, 84, 69, 88, 84]) = false := by rw [hs]; rfl
 have f7 : (s.toList == [76, 69, 78]) = false := by rw [hs]; rfl
 have f8 : (s.toList == [78, 79, 84]) = false := by rw [hs]; rfl
 have f9 : (s.toList == [83, 73, 71, 78]) = false := by rw [hs]; rfl
 have f10 : (s.toList == [83, 73, 78, 71, 76, 69]) = false := by rw [hs]; rfl
 have f11 : (s.toList == [83, 81, 82, 84]) = false := by rw [hs]; rfl
 have f12 : (s.toList == [84, 82, 85, 78, 67]) = false := by rw [hs]; rfl
 have f13 : (s.toList == [86, 65, 76, 85, 69]) = false := by rw [hs]; rfl
 have f14 : (s.toList == [69, 88, 65, 67, 84]) = false := by rw [hs]; rfl
 have f15 : (s.toList == [73, 70, 69, 82, 82, 79, 82]) = false := by rw [hs]; rfl
 have f16 : (s.toList == [76, 65, 82, 71, 69]) = false := by rw [hs]; rfl
 have f17 : (s.toList == [76, 69, 70, 84]) = false := by rw [hs]; rfl
 have f18 : (s.toList == [77, 79, 68]) = false := by rw [hs]; rfl
 have f19 : (s.toList == [80, 69, 82, 67, 69, 78, 84, 73, 76, 69]) = true := by rw [hs]; rfl
 clear hs
 go_enter Tryz.func175, Tryz.ntmps175
 go_wp2_with fail
 (try simp only [Exit.inBlock, Exit.then])
 refine bodyPost_ret (results_cell_row rfl _ _ w.heap.size _ _ _ _ rfl (heap_alloc_new _ _) Tryz.underlying196 rfl (by kernel_rfl)) rfl ?_
 exact ⟨rfl, (Gr.refl _).alloc _⟩
set_option maxRecDepth 100000 in
set_option maxHeartbeats 4000000 in
theorem takes_20 (s : ByteArray) (w : World) (hs : s.toList = [80, 79, 87, 69, 82]) :
    Calls Tryz.prog 175 #[.string s] w fun e w' => e = .returned (.agg #[.int .i64 2, .int .i64 2]) ∧ Gr w w' := by
 have f0 : (s.toList == [78, 65]) = false := by rw [hs]; rfl
 have f1 : (s.toList == [65, 66, 83]) = false := by rw [hs]; rfl
 have f2 : (s.toList == [73, 78, 84]) = false := by rw [hs]; rfl
 have f3 : (s.toList == [73, 83, 66, 76, 65, 78, 75]) = false := by rw [hs]; rfl
 have f4 : (s.toList == [73, 83, 69, 82, 82, 79, 82]) = false := by rw [hs]; rfl
 have f5 : (s.toList == [73, 83, 78, 85, 77, 66, 69, 82]) = false := by rw [hs]; rfl
 have f6 : (s.toList == [73, 83, 84, 69, 88, 84]) = false := by rw [hs]; rfl
 have f7 : (s.toList == [76, 69, 78]) = false := by rw [hs]; rfl
 have f8 : (s.toList == [78, 79, 84]) = false := by rw [hs]; rfl
 have f9 : (s.toList == [83, 73, 71, 78]) = false := by rw [hs]; rfl
 have f10 : (s.toList == [83, 73, 78, 71, 76, 69]) = false := by rw [hs]; rfl
 have f11 : (s.toList == [83, 81, 82, 84]) = false := by rw [hs]; rfl
 have f12 : (s.toList == [84, 82, 85, 78, 67]) = false := by rw [hs]; rfl
 have f13 : (s.toList == [86, 65, 76, 85, 69]) = false := by rw [hs]; rfl
 have f14 : (s.toList == [69, 88, 65, 67, 84]) = false := by rw [hs]; rfl
 have f15 : (s.toList == [73, 70, 69, 82, 82, 79, 82]) = false := by rw [hs]; rfl
 have f16 : (s.toList == [76, 65, 82, 71, 69]) = false := by rw [hs]; rfl
 have f17 : (s.toList == [76, 69, 70, 84]) = false := by rw [hs]; rfl
 have f18 : (s.toList == [77, 79, 68]) = false := by rw [hs]; rfl
 have f19 : (s.toList == [80, 69, 82, 67, 69, 78, 84, 73, 76, 69]) = false := by rw [hs]; rfl
 have f20 : (s.toList == [80, 79, 87, 69, 82]) = true := by rw [hs]; rfl
 clear hs
 go_enter Tryz.func175, Tryz.ntmps175
 go_wp2_with fail
 (try simp only [Exit.inBlock, Exit.then])
 refine bodyPost_ret (results_cell_row rfl _ _ w.heap.size _ _ _ _ rfl (heap_alloc_new _ _) Tryz.underlying196 rfl (by kernel_rfl)) rfl ?_
 exact ⟨rfl, (Gr.refl _).alloc _⟩
set_option maxRecDepth 100000 in
set_option maxHeartbeats 4000000 in
theorem takes_21 (s : ByteArray) (w : World) (hs : s.toList = [82, 69, 80, 84]) :
    Calls Tryz.prog 175 #[.string s] w fun e w' => e = .returned (.agg #[.int .i64 2, .int .i64 2]) ∧ Gr w w' := by
 have f0 : (s.toList == [78, 65]) = false := by rw [hs]; rfl
 have f1 : (s.toList == [65, 66, 83]) = false := by rw [hs]; rfl
 have f2 : (s.toList == [73, 78, 84]) = false := by rw [hs]; rfl
 have f3 : (s.toList == [73, 83, 66, 76, 65, 78, 75]) = false := by rw [hs]; rfl
 have f4 : (s.toList == [73, 83, 69, 82, 82, 79, 82]) = false := by rw [hs]; rfl
 have f5 : (s.toList == [73, 83, 78, 85, 77, 66, 69, 82]) = false := by rw [hs]; rfl
 have f6 : (s.toList == [73, 83, 84, 69, 88, 84]) = false := by rw [hs]; rfl
 have f7 : (s.toList == [76, 69, 78]) = false := by rw [hs]; rfl
 have f8 : (s.toList == [78, 79, 84]) = false := by rw [hs]; rfl
 have f9 : (s.toList == [83, 73, 71, 78]) = false := by rw [hs]; rfl
 have f10 : (s.toList == [83, 73, 78, 71, 76, 69]) = false := by rw [hs]; rfl
 have f11 : (s.toList == [83, 81, 82, 84]) = false := by rw [hs]; rfl
 have f12 : (s.toList == [84, 82, 85, 78, 67]) = false := by rw [hs]; rfl
 have f13 : (s.toList == [86, 65, 76, 85, 69]) = false := by rw [hs]; rfl
 have f14 : (s.toList == [69, 88, 65, 67, 84]) = false := by rw [hs]; rfl
 have f15 : (s.toList == [73, 70, 69, 82, 82, 79, 82]) = false := by rw [hs]; rfl
 have f16 : (s.toList == [76, 65, 82, 71, 69]) = false := by rw [hs]; rfl
 have f17 : (s.toList == [76, 69, 70, 84]) = false := by rw [hs]; rfl
 have f18 : (s.toList == [77, 79, 68]) = false := by rw [hs]; rfl
 have f19 : (s.toList == [80, 69, 82, 67, 69, 78, 84, 73, 76, 69]) = false := by rw [hs]; rfl
 have f20 : (s.toList == [80, 79, 87, 69, 82]) = false := by rw [hs]; rfl
 have f21 : (s.toList == [82, 69, 80, 84]) = true := by rw [hs]; rfl
 clear hs
 go_enter Tryz.func175, Tryz.ntmps175
 go_wp2_with fail
 (try simp only [Exit.inBlock, Exit.then])
 refine bodyPost_ret (results_cell_row rfl _ _ w.heap.size _ _ _ _ rfl (heap_alloc_new _ _) Tryz.underlying196 rfl (by kernel_rfl)) rfl ?_
 exact ⟨rfl, (Gr.refl _).alloc _⟩
set_option maxRecDepth 100000 in
set_option maxHeartbeats 4000000 in
theorem takes_22 (s : ByteArray) (w : World) (hs : s.toList = [82, 73, 71, 72, 84]) :
    Calls Tryz.prog 175 #[.string s] w fun e w' => e = .returned (.agg #[.int .i64 2, .int .i64 2]) ∧ Gr w w' := by
 have f0 : (s.toList == [78, 65]) = false := by rw [hs]; rfl
 have f1 : (s.toList == [65, 66, 83]) = false := by rw [hs]; rfl
 have f2 : (s.toList == [73, 78, 84]) = false := by rw [hs]; rfl
 have f3 : (s.toList == [73, 83, 66, 76, 65, 78, 75]) = false := by rw [hs]; rfl
 have f4 : (s.toList == [73, 83, 69, 82, 82, 79, 82]) = false := by rw [hs]; rfl
 have f5 : (s.toList == [73, 83, 78, 85, 77, 66, 69, 82]) = false := by rw [hs]; rfl
 have f6 : (s.toList == [73, 83, 84, 69, 88, 84]) = false := by rw [hs]; rfl
 have f7 : (s.toList == [76, 69, 78]) = false := by rw [hs]; rfl
 have f8 : (s.toList == [78, 79, 84]) = false := by rw [hs]; rfl
 have f9 : (s.toList == [83, 73, 71, 78]) = false := by rw [hs]; rfl
 have f10 : (s.toList == [83, 73, 78, 71, 76, 69]) = false := by rw [hs]; rfl
 have f11 : (s.toList == [83, 81, 82, 84]) = false := by rw [hs]; rfl
 have f12 : (s.toList == [84, 82, 85, 78, 67]) = false := by rw [hs]; rfl
 have f13 : (s.toList == [86, 65, 76, 85, 69]) = false := by rw [hs]; rfl
 have f14 : (s.toList == [69, 88, 65, 67, 84]) = false := by rw [hs]; rfl
 have f15 : (s.toList == [73, 70, 69, 82, 82, 79, 82]) = false := by rw [hs]; rfl
 have f16 : (s.toList == [76, 65, 82, 71, 69]) = false := by rw [hs]; rfl
 have f17 : (s.toList == [76, 69, 70, 84]) = false := by rw [hs]; rfl
 have f18 : (s.toList == [77, 79, 68]) = false := by rw [hs]; rfl
 have f19 : (s.toList == [80, 69, 82, 67, 69, 78, 84, 73, 76, 69]) = false := by rw [hs]; rfl
 have f20 : (s.toList == [80, 79, 87, 69, 82]) = false := by rw [hs]; rfl
 have f21 : (s.toList == [82, 69, 80, 84]) = false := by rw [hs]; rfl
 have f22 : (s.toList == [82, 73, 71, 72, 84]) = true := by rw [hs]; rfl
 clear hs
 go_enter Tryz.func175, Tryz.ntmps175
 go_wp2_with fail
 (try simp only [Exit.inBlock, Exit.then])
 refine bodyPost_ret (results_cell_row rfl _ _ w.heap.size _ _ _ _ rfl (heap_alloc_new _ _) Tryz.underlying196 rfl (by kernel_rfl)) rfl ?_
 exact ⟨rfl, (Gr.refl _).alloc _⟩
set_option maxRecDepth 100000 in
set_option maxHeartbeats 4000000 in
theorem takes_23 (s : ByteArray) (w : World) (hs : s.toList = [82, 79, 85, 78, 68]) :
    Calls Tryz.prog 175 #[.string s] w fun e w' => e = .returned (.agg #[.int .i64 2, .int .i64 2]) ∧ Gr w w' := by
 have f0 : (s.toList == [78, 65]) = false := by rw [hs]; rfl
 have f1 : (s.toList == [65, 66, 83]) = false := by rw [hs]; rfl
 have f2 : (s.toList == [73, 78, 84]) = false := by rw [hs]; rfl
 have f3 : (s.toList == [73, 83, 66, 76, 65, 78, 75]) = false := by rw [hs]; rfl
 have f4 : (s.toList == [73, 83, 69, 82, 82, 79, 82]) = false := by rw [hs]; rfl
 have f5 : (s.toList == [73, 83, 78, 85, 77, 66, 69, 82]) = false := by rw [hs]; rfl
 have f6 : (s.toList == [73, 83, 84, 69, 88, 84]) = false := by rw [hs]; rfl
 have f7 : (s.toList == [76, 69, 78]) = false := by rw [hs]; rfl
 have f8 : (s.toList == [78, 79, 84]) = false := by rw [hs]; rfl
 have f9 : (s.toList == [83, 73, 71, 78]) = false := by rw [hs]; rfl
 have f10 : (s.toList == [83, 73, 78, 71, 76, 69]) = false := by rw [hs]; rfl
 have f11 : (s.toList == [83, 81, 82, 84]) = false := by rw [hs]; rfl
 have f12 : (s.toList == [84, 82, 85, 78, 67]) = false := by rw [hs]; rfl
 have f13 : (s.toList == [86, 65, 76, 85, 69]) = false := by rw [hs]; rfl
 have f14 : (s.toList == [69, 88, 65, 67, 84]) = false := by rw [hs]; rfl
 have f15 : (s.toList == [73, 70, 69, 82, 82, 79, 82]) = false := by rw [hs]; rfl
 have f16 : (s.toList == [76, 65, 82, 71, 69]) = false := by rw [hs]; rfl
 have f17 : (s.toList == [76, 69, 70, 84]) = false := by rw [hs]; rfl
 have f18 : (s.toList == [77, 79, 68]) = false := by rw [hs]; rfl
 have f19 : (s.toList == [80, 69, 82, 67, 69, 78, 84, 73, 76, 69]) = false := by rw [hs]; rfl
 have f20 : (s.toList == [80, 79, 87, 69, 82]) = false := by rw [hs]; rfl
 have f21 : (s.toList == [82, 69, 80, 84]) = false := by rw [hs]; rfl
 have f22 : (s.toList == [82, 73, 71, 72, 84]) = false := by rw [hs]; rfl
 have f23 : (s.toList == [82, 79, 85, 78, 68]) = true := by rw [hs]; rfl
 clear hs
 go_enter Tryz.func175, Tryz.ntmps175
 go_wp2_with fail
 (try simp only [Exit.inBlock, Exit.then])
 refine bodyPost_ret (results_cell_row rfl _ _ w.heap.size _ _ _ _ rfl (heap_alloc_new _ _) Tryz.underlying196 rfl (by kernel_rfl)) rfl ?_
 exact ⟨rfl, (Gr.refl _).alloc _⟩
set_option maxRecDepth 100000 in
set_option maxHeartbeats 4000000 in
theorem takes_24 (s : ByteArray) (w : World) (hs : s.toList = [82, 79, 85, 78, 68, 68, 79, 87, 78]) :
    Calls Tryz.prog 175 #[.string s] w fun e w' => e = .returned (.agg #[.int .i64 2, .int .i64 2]) ∧ Gr w w' := by
 have f0 : (s.toList == [78, 65]) = false := by rw [hs]; rfl
 have f1 : (s.toList == [65, 66, 83]) = false := by rw [hs]; rfl
 have f2 : (s.toList == [73, 78, 84]) = false := by rw [hs]; rfl
 have f3 : (s.toList == [73, 83, 66, 76, 65, 78, 75]) = false := by rw [hs]; rfl
 have f4 : (s.toList == [73, 83, 69, 82, 82, 79, 82]) = false := by rw [hs]; rfl
 have f5 : (s.toList == [73, 83, 78, 85, 77, 66, 69, 82]) = false := by rw [hs]; rfl
 have f6 : (s.toList == [73, 83, 84, 69, 88, 84]) = false := by rw [hs]; rfl
 have f7 : (s.toList == [76, 69, 78]) = false := by rw [hs]; rfl
 have f8 : (s.toList == [78, 79, 84]) = false := by rw [hs]; rfl
 have f9 : (s.toList == [83, 73, 71, 78]) = false := by rw [hs]; rfl
 have f10 : (s.toList == [83, 73, 78, 71, 76, 69]) = false := by rw [hs]; rfl
 have f11 : (s.toList == [83, 81, 82, 84]) = false := by rw [hs]; rfl
 have f12 : (s.toList == [84, 82, 85, 78, 67]) = false := by rw [hs]; rfl
 have f13 : (s.toList == [86, 65, 76, 85, 69]) = false := by rw [hs]; rfl
 have f14 : (s.toList == [69, 88, 65, 67, 84]) = false := by rw [hs]; rfl
 have f15 : (s.toList == [73, 70, 69, 82, 82, 79, 82]) = false := by rw [hs]; rfl
 have f16 : (s.toList == [76, 65, 82, 71, 69]) = false := by rw [hs]; rfl
 have f17 : (s.toList == [76, 69, 70, 84]) = false := by rw [hs]; rfl
 have f18 : (s.toList == [77, 79, 68]) = false := by rw [hs]; rfl
 have f19 : (s.toList == [80, 69, 82, 67, 69, 78, 84, 73, 76, 69]) = false := by rw [hs]; rfl
 have f20 : (s.toList == [80, 79, 87, 69, 82]) = false := by rw [hs]; rfl
 have f21 : (s.toList == [82, 69, 80, 84]) = false := by rw [hs]; rfl
 have f22 : (s.toList == [82, 73, 71, 72, 84]) = false := by rw [hs]; rfl
 have f23 : (s.toList == [82, 79, 85, 78, 68]) = false := by rw [hs]; rfl
 have f24 : (s.toList == [82, 79, 85, 78, 68, 68, 79, 87, 78]) = true := by rw [hs]; rfl
 clear hs
 go_enter Tryz.func175, Tryz.ntmps175
 go_wp2_with fail
 (try simp only [Exit.inBlock, Exit.then])
 refine bodyPost_ret (results_cell_row rfl _ _ w.heap.size _ _ _ _ rfl (heap_alloc_new _ _) Tryz.underlying196 rfl (by kernel_rfl)) rfl ?_
 exact ⟨rfl, (Gr.refl _).alloc _⟩
set_option maxRecDepth 100000 in
set_option maxHeartbeats 4000000 in
theorem takes_25 (s : ByteArray) (w : World) (hs : s.toList = [82, 79, 85, 78, 68, 69, 86, 69, 78]) :
    Calls Tryz.prog 175 #[.string s] w fun e w' => e = .returned (.agg #[.int .i64 2, .int .i64 2]) ∧ Gr w w' := by
 have f0 : (s.toList == [78, 65]) = false := by rw [hs]; rfl
 have f1 : (s.toList == [65, 66, 83]) = false := by rw [hs]; rfl
 have f2 : (s.toList == [73, 78, 84]) = false := by rw [hs]; rfl
 have f3 : (s.toList == [73, 83, 66, 76, 65, 78, 75]) = false := by rw [hs]; rfl
 have f4 : (s.toList == [73, 83, 69, 82, 82, 79, 82]) = false := by rw [hs]; rfl
 have f5 : (s.toList == [73, 83, 78, 85, 77, 66, 69, 82]) = false := by rw [hs]; rfl
 have f6 : (s.toList == [73, 83, 84, 69, 88, 84]) = false := by rw [hs]; rfl
 have f7 : (s.toList == [76, 69, 78]) = false := by rw [hs]; rfl
 have f8 : (s.toList == [78, 79, 84]) = false := by rw [hs]; rfl
 have f9 : (s.toList == [83, 73, 71, 78]) = false := by rw [hs]; rfl
 have f10 : (s.toList == [83, 73, 78, 71, 76, 69]) = false := by rw [hs]; rfl
 have f11 : (s.toList == [83, 81, 82, 84]) = false := by rw [hs]; rfl
 have f12 : (s.toList == [84, 82, 85, 78, 67]) = false := by rw [hs]; rfl
 have f13 : (s.toList == [86, 65, 76, 85, 69]) = false := by rw [hs]; rfl
 have f14 : (s.toList == [69, 88, 65, 67, 84]) = false := by rw [hs]; rfl
 have f15 : (s.toList == [73, 70, 69, 82, 82, 79, 82]) = false := by rw [hs]; rfl
 have f16 : (s.toList == [76, 65, 82, 71, 69]) = false := by rw [hs]; rfl
 have f17 : (s.toList == [76, 69, 70, 84]) = false := by rw [hs]; rfl
 have f18 : (s.toList == [77, 79, 68]) = false := by rw [hs]; rfl
 have f19 : (s.toList == [80, 69, 82, 67, 69, 78, 84, 73, 76, 69]) = false := by rw [hs]; rfl
 have f20 : (s.toList == [80, 79, 87, 69, 82]) = false := by rw [hs]; rfl
 have f21 : (s.toList == [82, 69, 80, 84]) = false := by rw [hs]; rfl
 have f22 : (s.toList == [82, 73, 71, 72, 84]) = false := by rw [hs]; rfl
 have f23 : (s.toList == [82, 79, 85, 78, 68]) = false := by rw [hs]; rfl
 have f24 : (s.toList == [82, 79, 85, 78, 68, 68, 79, 87, 78]) = false := by rw [hs]; rfl
 have f25 : (s.toList == [82, 79, 85, 78, 68, 69, 86, 69, 78]) = true := by rw [hs]; rfl
 clear hs
 go_enter Tryz.func175, Tryz.ntmps175
 go_wp2_with fail
 (try simp only [Exit.inBlock, Exit.then])
 refine bodyPost_ret (results_cell_row rfl _ _ w.heap.size _ _ _ _ rfl (heap_alloc_new _ _) Tryz.underlying196 rfl (by kernel_rfl)) rfl ?_
 exact ⟨rfl, (Gr.refl _).alloc _⟩
set_option maxRecDepth 100000 in
set_option maxHeartbeats 4000000 in
theorem takes_26 (s : ByteArray) (w : World) (hs : s.toList = [82, 79, 85, 78, 68, 85, 80]) :
    Calls Tryz.prog 175 #[.string s] w fun e w' => e = .returned (.agg #[.int .i64 2, .int .i64 2]) ∧ Gr w w' := by
 have f0 : (s.toList == [78, 65]) = false := by rw [hs]; rfl
 have f1 : (s.toList == [65, 66, 83]) = false := by rw [hs]; rfl
 have f2 : (s.toList == [73, 78, 84]) = false := by rw [hs]; rfl
 have f3 : (s.toList == [73, 83, 66, 76, 65, 78, 75]) = false := by rw [hs]; rfl
 have f4 : (s.toList == [73, 83, 69, 82, 82, 79, 82]) = false := by rw [hs]; rfl
 have f5 : (s.toList == [73, 83, 78, 85, 77, 66, 69, 82]) = false := by rw [hs]; rfl
 have f6 : (s.toList == [73, 83, 84, 69, 88, 84]) = false := by rw [hs]; rfl
 have f7 : (s.toList == [76, 69, 78]) = false := by rw [hs]; rfl
 have f8 : (s.toList == [78, 79, 84]) = false := by rw [hs]; rfl
 have f9 : (s.toList == [83, 73, 71, 78]) = false := by rw [hs]; rfl
 have f10 : (s.toList == [83, 73, 78, 71, 76, 69]) = false := by rw [hs]; rfl
 have f11 : (s.toList == [83, 81, 82, 84]) = false := by rw [hs]; rfl
 have f12 : (s.toList == [84, 82, 85, 78, 67]) = false := by rw [hs]; rfl
 have f13 : (s.toList == [86, 65, 76, 85, 69]) = false := by rw [hs]; rfl
 have f14 : (s.toList == [69, 88, 65, 67, 84]) = false := by rw [hs]; rfl
 have f15 : (s.toList == [73, 70, 69, 82, 82, 79, 82]) = false := by rw [hs]; rfl
 have f16 : (s.toList == [76, 65, 82, 71, 69]) = false := by rw [hs]; rfl
 have f17 : (s.toList == [76, 69, 70, 84]) = false := by rw [hs]; rfl
 have f18 : (s.toList == [77, 79, 68]) = false := by rw [hs]; rfl
 have f19 : (s.toList == [80, 69, 82, 67, 69, 78, 84, 73, 76, 69]) = false := by rw [hs]; rfl
 have f20 : (s.toList == [80, 79, 87, 69, 82]) = false := by rw [hs]; rfl
 have f21 : (s.toList == [82, 69, 80, 84]) = false := by rw [hs]; rfl
 have f22 : (s.toList == [82, 73, 71, 72, 84]) = false := by rw [hs]; rfl
 have f23 : (s.toList == [82, 79, 85, 78, 68]) = false := by rw [hs]; rfl
 have f24 : (s.toList == [82, 79, 85, 78, 68, 68, 79, 87, 78]) = false := by rw [hs]; rfl
 have f25 : (s.toList == [82, 79, 85, 78, 68, 69, 86, 69, 78]) = false := by rw [hs]; rfl
 have f26 : (s.toList == [82, 79, 85, 78, 68, 85, 80]) = true := by rw [hs]; rfl
 clear hs
 go_enter Tryz.func175, Tryz.ntmps175
 go_wp2_with fail
 (try simp only [Exit.inBlock, Exit.then])
 refine bodyPost_ret (results_cell_row rfl _ _ w.heap.size _ _ _ _ rfl (heap_alloc_new _ _) Tryz.underlying196 rfl (by kernel_rfl)) rfl ?_
 exact ⟨rfl, (Gr.refl _).alloc _⟩
set_option maxRecDepth 100000 in
set_option maxHeartbeats 4000000 in
theorem takes_27 (s : ByteArray) (w : World) (hs : s.toList = [83, 77, 65, 76, 76]) :
    Calls Tryz.prog 175 #[.string s] w fun e w' => e = .returned (.agg #[.int .i64 2, .int .i64 2]) ∧ Gr w w' := by
 have f0 : (s.toList == [78, 65]) = false := by rw [hs]; rfl
 have f1 : (s.toList == [65, 66, 83]) = false := by rw [hs]; rfl
 have f2 : (s.toList == [73, 78, 84]) = false := by rw [hs]; rfl
 have f3 : (s.toList == [73, 83, 66, 76, 65, 78, 75]) = false := by rw [hs]; rfl
 have f4 : (s.toList == [73, 83, 69, 82, 82, 79, 82]) = false := by rw [hs]; rfl
 have f5 : (s.toList == [73, 83, 78, 85, 77, 66, 69, 82]) = false := by rw [hs]; rfl
 have f6 : (s.toList == [73, 83, 84, 69, 88, 84]) = false := by rw [hs]; rfl
 have f7 : (s.toList == [76, 69, 78]) = false := by rw [hs]; rfl
 have f8 : (s.toList == [78, 79, 84]) = false := by rw [hs]; rfl
 have f9 : (s.toList == [83, 73, 71, 78]) = false := by rw [hs]; rfl
 have f10 : (s.toList == [83, 73, 78, 71, 76, 69]) = false := by rw [hs]; rfl
 have f11 : (s.toList == [83, 81, 82, 84]) = false := by rw [hs]; rfl
 have f12 : (s.toList == [84, 82, 85, 78, 67]) = false := by rw [hs]; rfl
 have f13 : (s.toList == [86, 65, 76, 85, 69]) = false := by rw [hs]; rfl
 have f14 : (s.toList == [69, 88, 65, 67, 84]) = false := by rw [hs]; rfl
 have f15 : (s.toList == [73, 70, 69, 82, 82, 79, 82]) = false := by rw [hs]; rfl
 have f16 : (s.toList == [76, 65, 82, 71, 69]) = false := by rw [hs]; rfl
 have f17 : (s.toList == [76, 69, 70, 84]) = false := by rw [hs]; rfl
 have f18 : (s.toList == [77, 79, 68]) = false := by rw [hs]; rfl
 have f19 : (s.toList == [80, 69, 82, 67, 69, 78, 84, 73, 76, 69]) = false := by rw [hs]; rfl
 have f20 : (s.toList == [80, 79, 87, 69, 82]) = false := by rw [hs]; rfl
 have f21 : (s.toList == [82, 69, 80, 84]) = false := by rw [hs]; rfl
 have f22 : (s.toList == [82, 73, 71, 72, 84]) = false := by rw [hs]; rfl
 have f23 : (s.toList == [82, 79, 85, 78, 68]) = false := by rw [hs]; rfl
 have f24 : (s.toList == [82, 79, 85, 78, 68, 68, 79, 87, 78]) = false := by rw [hs]; rfl
 have f25 : (s.toList == [82, 79, 85, 78, 68, 69, 86, 69, 78]) = false := by rw [hs]; rfl
 have f26 : (s.toList == [82, 79, 85, 78, 68, 85, 80]) = false := by rw [hs]; rfl
 have f27 : (s.toList == [83, 77, 65, 76, 76]) = true := by rw [hs]; rfl
 clear hs
 go_enter Tryz.func175, Tryz.ntmps175
 go_wp2_with fail
 (try simp only [Exit.inBlock, Exit.then])
 refine bodyPost_ret (results_cell_row rfl _ _ w.heap.size _ _ _ _ rfl (heap_alloc_new _ _) Tryz.underlying196 rfl (by kernel_rfl)) rfl ?_
 exact ⟨rfl, (Gr.refl _).alloc _⟩
set_option maxRecDepth 100000 in
set_option maxHeartbeats 4000000 in
theorem takes_28 (s : ByteArray) (w : World) (hs : s.toList = [83, 85, 77, 80, 82, 79, 68, 85, 67, 84]) :
    Calls Tryz.prog 175 #[.string s] w fun e w' => e = .returned (.agg #[.int .i64 2, .int .i64 2]) ∧ Gr w w' := by
 have f0 : (s.toList == [78, 65]) = false := by rw [hs]; rfl
 have f1 : (s.toList == [65, 66, 83]) = false := by rw [hs]; rfl
 have f2 : (s.toList == [73, 78, 84]) = false := by rw [hs]; rfl
 have f3 : (s.toList == [73, 83, 66, 76, 65, 78, 75]) = false := by rw [hs]; rfl
 have f4 : (s.toList == [73, 83, 69, 82, 82, 79, 82]) = false := by rw [hs]; rfl
 have f5 : (s.toList == [73, 83, 78, 85, 77, 66, 69, 82]) = false := by rw [hs]; rfl
 have f6 : (s.toList == [73, 83, 84, 69, 88, 84]) = false := by rw [hs]; rfl
 have f7 : (s.toList == [76, 69, 78]) = false := by rw [hs]; rfl
 have f8 : (s.toList == [78, 79, 84]) = false := by rw [hs]; rfl
 have f9 : (s.toList == [83, 73, 71, 78]) = false := by rw [hs]; rfl
 have f10 : (s.toList == [83, 73, 78, 71, 76, 69]) = false := by rw [hs]; rfl
 have f11 : (s.toList == [83, 81, 82, 84]) = false := by rw [hs]; rfl
 have f12 : (s.toList == [84, 82, 85, 78, 67]) = false := by rw [hs]; rfl
 have f13 : (s.toList == [86, 65, 76, 85, 69]) = false := by rw [hs]; rfl
 have f14 : (s.toList == [69, 88, 65, 67, 84]) = false := by rw [hs]; rfl
 have f15 : (s.toList == [73, 70, 69, 82, 82, 79, 82]) = false := by rw [hs]; rfl
 have f16 : (s.toList == [76, 65, 82, 71, 69]) = false := by rw [hs]; rfl
 have f17 : (s.toList == [76, 69, 70, 84]) = false := by rw [hs]; rfl
 have f18 : (s.toList == [77, 79, 68]) = false := by rw [hs]; rfl
 have f19 : (s.toList == [80, 69, 82, 67, 69, 78, 84, 73, 76, 69]) = false := by rw [hs]; rfl
 have f20 : (s.toList == [80, 79, 87, 69, 82]) = false := by rw [hs]; rfl
 have f21 : (s.toList == [82, 69, 80, 84]) = false := by rw [hs]; rfl
 have f22 : (s.toList == [82, 73, 71, 72, 84]) = false := by rw [hs]; rfl
 have f23 : (s.toList == [82, 79, 85, 78, 68]) = false := by rw [hs]; rfl
 have f24 : (s.toList == [82, 79, 85, 78, 68, 68, 79, 87, 78]) = false := by rw [hs]; rfl
 have f25 : (s.toList == [82, 79, 85, 78, 68, 69, 86, 69, 78]) = false := by rw [hs]; rfl
 have f26 : (s.toList == [82, 79, 85, 78, 68, 85, 80]) = false := by rw [hs]; rfl
 have f27 : (s.toList == [83, 77, 65, 76, 76]) = false := by rw [hs]; rfl
 have f28 : (s.toList == [83, 85, 77, 80, 82, 79, 68, 85, 67, 84]) = true := by rw [hs]; rfl
 clear hs
 go_enter Tryz.func175, Tryz.ntmps175
 go_wp2_with fail
 (try simp only [Exit.inBlock, Exit.then])
 refine bodyPost_ret (results_cell_row rfl _ _ w.heap.size _ _ _ _ rfl (heap_alloc_new _ _) Tryz.underlying196 rfl (by kernel_rfl)) rfl ?_
 exact ⟨rfl, (Gr.refl _).alloc _⟩
set_option maxRecDepth 100000 in
set_option maxHeartbeats 4000000 in
theorem takes_29 (s : ByteArray) (w : World) (hs : s.toList = [84, 69, 88, 84]) :
    Calls Tryz.prog 175 #[.string s] w fun e w' => e = .returned (.agg #[.int .i64 2, .int .i64 2]) ∧ Gr w w' := by
 have f0 : (s.toList == [78, 65]) = false := by rw [hs]; rfl
 have f1 : (s.toList == [65, 66, 83]) = false := by rw [hs]; rfl
 have f2 : (s.toList == [73, 78, 84]) = false := by rw [hs]; rfl
 have f3 : (s.toList == [73, 83, 66, 76, 65, 78, 75]) = false := by rw [hs]; rfl
 have f4 : (s.toList == [73, 83, 69, 82, 82, 79, 82]) = false := by rw [hs]; rfl
 have f5 : (s.toList == [73, 83, 78, 85, 77, 66, 69, 82]) = false := by rw [hs]; rfl
 have f6 : (s.toList == [73, 83, 84, 69, 88, 84]) = false := by rw [hs]; rfl
 have f7 : (s.toList == [76, 69, 78]) = false := by rw [hs]; rfl
 have f8 : (s.toList == [78, 79, 84]) = false := by rw [hs]; rfl
 have f9 : (s.toList == [83, 73, 71, 78]) = false := by rw [hs]; rfl
 have f10 : (s.toList == [83, 73, 78, 71, 76, 69]) = false := by rw [hs]; rfl
 have f11 : (s.toList == [83, 81, 82, 84]) = false := by rw [hs]; rfl
 have f12 : (s.toList == [84, 82, 85, 78, 67]) = false := by rw [hs]; rfl
 have f13 : (s.toList == [86, 65, 76, 85, 69]) = false := by rw [hs]; rfl
 have f14 : (s.toList == [69, 88, 65, 67, 84]) = false := by rw [hs]; rfl
 have f15 : (s.toList == [73, 70, 69, 82, 82, 79, 82]) = false := by rw [hs]; rfl
 have f16 : (s.toList == [76, 65, 82, 71, 69]) = false := by rw [hs]; rfl
 have f17 : (s.toList == [76, 69, 70, 84]) = false := by rw [hs]; rfl
 have f18 : (s.toList == [77, 79, 68]) = false := by rw [hs]; rfl
 have f19 : (s.toList == [80, 69, 82, 67, 69, 78, 84, 73, 76, 69]) = false := by rw [hs]; rfl
 have f20 : (s.toList == [80, 79, 87, 69, 82]) = false := by rw [hs]; rfl
 have f21 : (s.toList == [82, 69, 80, 84]) = false := by rw [hs]; rfl
 have f22 : (s.toList == [82, 73, 71, 72, 84]) = false := by rw [hs]; rfl
 have f23 : (s.toList == [82, 79, 85, 78, 68]) = false := by rw [hs]; rfl
 have f24 : (s.toList == [82, 79, 85, 78, 68, 68, 79, 87, 78]) = false := by rw [hs]; rfl
 have f25 : (s.toList == [82, 79, 85, 78, 68, 69, 86, 69, 78]) = false := by rw [hs]; rfl
 have f26 : (s.toList == [82, 79, 85, 78, 68, 85, 80]) = false := by rw [hs]; rfl
 have f27 : (s.toList == [83, 77, 65, 76, 76]) = false := by rw [hs]; rfl
 have f28 : (s.toList == [83, 85, 77, 80, 82, 79, 68, 85, 67, 84]) = false := by rw [hs]; rfl
 have f29 : (s.toList == [84, 69, 88, 84]) = true := by rw [hs]; rfl
 clear hs
 go_enter Tryz.func175, Tryz.ntmps175
 go_wp2_with fail
 (try simp only [Exit.inBlock, Exit.then])
 refine bodyPost_ret (results_cell_row rfl _ _ w.heap.size _ _ _ _ rfl (heap_alloc_new _ _) Tryz.underlying196 rfl (by kernel_rfl)) rfl ?_
 exact ⟨rfl, (Gr.refl _).alloc _⟩
end Go.Proofs.YtdoeejhdenifpaaGreatDoor
