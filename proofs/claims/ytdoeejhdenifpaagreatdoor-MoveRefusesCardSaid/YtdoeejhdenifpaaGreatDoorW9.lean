import Derived.Test.YtdoeejhdenifpaaGreatDoorW7
import Derived.Laws.Rows
namespace Go.Proofs.YtdoeejhdenifpaaGreatDoor
open Go.RowKit Go.Sort
set_option maxRecDepth 100000 in
set_option maxHeartbeats 4000000 in
theorem takes_30 (s : ByteArray) (w : World) (hs : s.toList = [73, 70]) :
    Calls Tryz.prog 175 #[.string s] w fun e w' => e = .returned (.agg #[.int .i64 2, .int .i64 3]) ∧ Gr w w' := by
 have f0 : (s.toList == [78, 65]) = false := by rw [hs]; rfl
 have f1 : (s.toList == [65, 66, 83]) = false := by rw [hs]; rfl
 have f2 : (s.toList == [73, 78, 84]) = false := by rw [hs]; rfl
 have f3 : (s.toList == [73, 83, 66, 76, 65, 78, 75]) = false := by rw [hs]; rfl
 have f4 : (s.toList == [73, 83, 69, 82, 82, 79, 82]) = false := by rw [hs]; rfl
 have f5 : (s.toList == [73, 83, 78, 85, 77, 66, 69, 82]) = false := by rw [hs]; rfl
 have f6 : (s.toList == [73, 83, 84, 69, 88, 84]) = false := by rw [hs]; rfl
 have f7 : (s.toList == [76, 69, 78]) = false := by rw [hs]; rfl
 have f8 : (s.toList == [78, 79, 84]) = false := by rw [hs]; rfl
 have f9 : (s.toList == [83, 73, 71, 78]) = false := by rw [hs]; rfl
 have f10 : (s.toList == [83, 73, 78, 71, 76, 69]) = false := by rw [hs]; rfl
 have f11 : (s.toList == [83, 81, 82, 84]) = false := by rw [hs]; rfl
 have f12 : (s.toList == [84, 82, 85, 78, 67]) = false := by rw [hs]; rfl
 have f13 : (s.toList == [86, 65, 76, 85, 69]) = false := by rw [hs]; rfl
 have f14 : (s.toList == [69, 88, 65, 67, 84]) = false := by rw [hs]; rfl
 have f15 : (s.toList == [73, 70, 69, 82, 82, 79, 82]) = false := by rw [hs]; rfl
 have f16 : (s.toList == [76, 65, 82, 71, 69]) = false := by rw [hs]; rfl
 have f17 : (s.toList == [76, 69, 70, 84]) = false := by rw [hs]; rfl
 have f18 : (s.toList == [77, 79, 68]) = false := by rw [hs]; rfl
 have f19 : (s.toList == [80, 69, 82, 67, 69, 78, 84, 73, 76, 69]) = false := by rw [hs]; rfl
 have f20 : (s.toList == [80, 79, 87, 69, 82]) = false := by rw [hs]; rfl
 have f21 : (s.toList == [82, 69, 80, 84]) = false := by rw [hs]; rfl
 have f22 : (s.toList == [82, 73, 71, 72, 84]) = false := by rw [hs]; rfl
 have f23 : (s.toList == [82, 79, 85, 78, 68]) = false := by rw [hs]; rfl
 have f24 : (s.toList == [82, 79, 85, 78, 68, 68, 79, 87, 78]) = false := by rw [hs]; rfl
 have f25 : (s.toList == [82, 79, 85, 78, 68, 69, 86, 69, 78]) = false := by rw [hs]; rfl
 have f26 : (s.toList == [82, 79, 85, 78, 68, 85, 80]) = false := by rw [hs]; rfl
 have f27 : (s.toList == [83, 77, 65, 76, 76]) = false := by rw [hs]; rfl
 have f28 : (s.toList == [83, 85, 77, 80, 82, 79, 68, 85, 67, 84]) = false := by rw [hs]; rfl
 have f29 : (s.toList == [84, 69, 88, 84]) = false := by rw [hs]; rfl
 have f30 : (s.toList == [73, 70]) = true := by rw [hs]; rfl
 clear hs
 go_enter Tryz.func175, Tryz.ntmps175
 go_wp2_with fail
 (try simp only [Exit.inBlock, Exit.then])
 refine bodyPost_ret (results_cell_row rfl _ _ w.heap.size _ _ _ _ rfl (heap_alloc_new _ _) Tryz.underlying196 rfl (by kernel_rfl)) rfl ?_
 exact ⟨rfl, (Gr.refl _).alloc _⟩
set_option maxRecDepth 100000 in
set_option maxHeartbeats 4000000 in
theorem takes_31 (s : ByteArray) (w : World) (hs : s.toList = [82, 65, 78, 75]) :
    Calls Tryz.prog 175 #[.string s] w fun e w' => e = .returned (.agg #[.int .i64 2, .int .i64 3]) ∧ Gr w w' := by
 have f0 : (s.toList == [78, 65]) = false := by rw [hs]; rfl
 have f1 : (s.toList == [65, 66, 83]) = false := by rw [hs]; rfl
 have f2 : (s.toList == [73, 78, 84]) = false := by rw [hs]; rfl
 have f3 : (s.toList == [73, 83, 66, 76, 65, 78, 75]) = false := by rw [hs]; rfl
 have f4 : (s.toList == [73, 83, 69, 82, 82, 79, 82]) = false := by rw [hs]; rfl
 have f5 : (s.toList == [73, 83, 78, 85, 77, 66, 69, 82]) = false := by rw [hs]; rfl
 have f6 : (s.toList == [73, 83, 84, 69, 88, 84]) = false := by rw [hs]; rfl
 have f7 : (s.toList == [76, 69, 78]) = false := by rw [hs]; rfl
 have f8 : (s.toList == [78, 79, 84]) = false := by rw [hs]; rfl
 have f9 : (s.toList == [83, 73, 71, 78]) = false := by rw [hs]; rfl
 have f10 : (s.toList == [83, 73, 78, 71, 76, 69]) = false := by rw [hs]; rfl
 have f11 : (s.toList == [83, 81, 82, 84]) = false := by rw [hs]; rfl
 have f12 : (s.toList == [84, 82, 85, 78, 67]) = false := by rw [hs]; rfl
 have f13 : (s.toList == [86, 65, 76, 85, 69]) = false := by rw [hs]; rfl
 have f14 : (s.toList == [69, 88, 65, 67, 84]) = false := by rw [hs]; rfl
 have f15 : (s.toList == [73, 70, 69, 82, 82, 79, 82]) = false := by rw [hs]; rfl
 have f16 : (s.toList == [76, 65, 82, 71, 69]) = false := by rw [hs]; rfl
 have f17 : (s.toList == [76, 69, 70, 84]) = false := by rw [hs]; rfl
 have f18 : (s.toList == [77, 79, 68]) = false := by rw [hs]; rfl
 have f19 : (s.toList == [80, 69, 82, 67, 69, 78, 84, 73, 76, 69]) = false := by rw [hs]; rfl
 have f20 : (s.toList == [80, 79, 87, 69, 82]) = false := by rw [hs]; rfl
 have f21 : (s.toList == [82, 69, 80, 84]) = false := by rw [hs]; rfl
 have f22 : (s.toList == [82, 73, 71, 72, 84]) = false := by rw [hs]; rfl
 have f23 : (s.toList == [82, 79, 85, 78, 68]) = false := by rw [hs]; rfl
 have f24 : (s.toList == [82, 79, 85, 78, 68, 68, 79, 87, 78]) = false := by rw [hs]; rfl
 have f25 : (s.toList == [82, 79, 85, 78, 68, 69, 86, 69, 78]) = false := by rw [hs]; rfl
 have f26 : (s.toList == [82, 79, 85, 78, 68, 85, 80]) = false := by rw [hs]; rfl
 have f27 : (s.toList == [83, 77, 65, 76, 76]) = false := by rw [hs]; rfl
 have f28 : (s.toList == [83, 85, 77, 80, 82, 79, 68, 85, 67, 84]) = false := by rw [hs]; rfl
 have f29 : (s.toList == [84, 69, 88, 84]) = false := by rw [hs]; rfl
 have f30 : (s.toList == [73, 70]) = false := by rw [hs]; rfl
 have f31 : (s.toList == [82, 65, 78, 75]) = true := by rw [hs]; rfl
 clear hs
 go_enter Tryz.func175, Tryz.ntmps175
 go_wp2_with fail
 (try simp only [Exit.inBlock, Exit.then])
 refine bodyPost_ret (results_cell_row rfl _ _ w.heap.size _ _ _ _ rfl (heap_alloc_new _ _) Tryz.underlying196 rfl (by kernel_rfl)) rfl ?_
 exact ⟨rfl, (Gr.refl _).alloc _⟩
set_option maxRecDepth 100000 in
set_option maxHeartbeats 4000000 in
theorem takes_32 (s : ByteArray) (w : World) (hs : s.toList = [67, 79, 85, 78, 84, 73, 70]) :
    Calls Tryz.prog 175 #[.string s] w fun e w' => e = .returned (.agg #[.int .i64 3, .int .i64 3]) ∧ Gr w w' := by
 have f0 : (s.toList == [78, 65]) = false := by rw [hs]; rfl
 have f1 : (s.toList == [65, 66, 83]) = false := by rw [hs]; rfl
 have f2 : (s.toList == [73, 78, 84]) = false := by rw [hs]; rfl
 have f3 : (s.toList == [73, 83, 66, 76, 65, 78, 75]) = false := by rw [hs]; rfl
 have f4 : (s.toList == [73, 83, 69, 82, 82, 79, 82]) = false := by rw [hs]; rfl
 have f5 : (s.toList == [73, 83, 78, 85, 77, 66, 69, 82]) = false := by rw [hs]; rfl
 have f6 : (s.toList == [73, 83, 84, 69, 88, 84]) = false := by rw [hs]; rfl
 have f7 : (s.toList == [76, 69, 78]) = false := by rw [hs]; rfl
 have f8 : (s.toList == [78, 79, 84]) = false := by rw [hs]; rfl
 have f9 : (s.toList == [83, 73, 71, 78]) = false := by rw [hs]; rfl
 have f10 : (s.toList == [83, 73, 78, 71, 76, 69]) = false := by rw [hs]; rfl
 have f11 : (s.toList == [83, 81, 82, 84]) = false := by rw [hs]; rfl
 have f12 : (s.toList == [84, 82, 85, 78, 67]) = false := by rw [hs]; rfl
 have f13 : (s.toList == [86, 65, 76, 85, 69]) = false := by rw [hs]; rfl
 have f14 : (s.toList == [69, 88, 65, 67, 84]) = false := by rw [hs]; rfl
 have f15 : (s.toList == [73, 70, 69, 82, 82, 79, 82]) = false := by rw [hs]; rfl
 have f16 : (s.toList == [76, 65, 82, 71, 69]) = false := by rw [hs]; rfl
 have f17 : (s.toList == [76, 69, 70, 84]) = false := by rw [hs]; rfl
 have f18 : (s.toList == [77, 79, 68]) = false := by rw [hs]; rfl
 have f19 : (s.toList == [80, 69, 82, 67, 69, 78, 84, 73, 76, 69]) = false := by rw [hs]; rfl
 have f20 : (s.toList == [80, 79, 87, 69, 82]) = false := by rw [hs]; rfl
 have f21 : (s.toList == [82, 69, 80, 84]) = false := by rw [hs]; rfl
 have f22 : (s.toList == [82, 73, 71, 72, 84]) = false := by rw [hs]; rfl
 have f23 : (s.toList == [82, 79, 85, 78, 68]) = false := by rw [hs]; rfl
 have f24 : (s.toList == [82, 79, 85, 78, 68, 68, 79, 87, 78]) = false := by rw [hs]; rfl
 have f25 : (s.toList == [82, 79, 85, 78, 68, 69, 86, 69, 78]) = false := by rw [hs]; rfl
 have f26 : (s.toList == [82, 79, 85, 78, 68, 85, 80]) = false := by rw [hs]; rfl
 have f27 : (s.toList == [83, 77, 65, 76, 76]) = false := by rw [hs]; rfl
 have f28 : (s.toList == [83, 85, 77, 80, 82, 79, 68, 85, 67, 84]) = false := by rw [hs]; rfl
 have f29 : (s.toList == [84, 69, 88, 84]) = false := by rw [hs]; rfl
 have f30 : (s.toList == [73, 70]) = false := by rw [hs]; rfl
 have f31 : (s.toList == [82, 65, 78, 75]) = false := by rw [hs]; rfl
 have f32 : (s.toList == [67, 79, 85, 78, 84, 73, 70]) = true := by rw [hs]; rfl
 clear hs
 go_enter Tryz.func175, Tryz.ntmps175
 go_wp2_with fail
 (try simp only [Exit.inBlock, Exit.then])
 refine bodyPost_ret (results_cell_row rfl _ _ w.heap.size _ _ _ _ rfl (heap_alloc_new _ _) Tryz.underlying196 rfl (by kernel_rfl)) rfl ?_
 exact ⟨rfl, (Gr.refl _).alloc _⟩
set_option maxRecDepth 100000 in
set_option maxHeartbeats 4000000 in
theorem takes_33 (s : ByteArray) (w : World) (hs : s.toList = [70, 85, 83, 69, 68]) :
    Calls Tryz.prog 175 #[.string s] w fun e w' => e = .returned (.agg #[.int .i64 3, .int .i64 3]) ∧ Gr w w' := by
 have f0 : (s.toList == [78, 65]) = false := by rw [hs]; rfl
 have f1 : (s.toList == [65, 66, 83]) = false := by rw [hs]; rfl
 have f2 : (s.toList == [73, 78, 84]) = false := by rw [hs]; rfl
 have f3 : (s.toList == [73, 83, 66, 76, 65, 78, 75]) = false := by rw [hs]; rfl
 have f4 : (s.toList == [73, 83, 69, 82, 82, 79, 82]) = false := by rw [hs]; rfl
 have f5 : (s.toList == [73, 83, 78, 85, 77, 66, 69, 82]) = false := by rw [hs]; rfl
 have f6 : (s.toList == [73, 83, 84, 69, 88, 84]) = false := by rw [hs]; rfl
 have f7 : (s.toList == [76, 69, 78]) = false := by rw [hs]; rfl
 have f8 : (s.toList == [78, 79, 84]) = false := by rw [hs]; rfl
 have f9 : (s.toList == [83, 73, 71, 78]) = false := by rw [hs]; rfl
 have f10 : (s.toList == [83, 73, 78, 71, 76, 69]) = false := by rw [hs]; rfl
 have f11 : (s.toList == [83, 81, 82, 84]) = false := by rw [hs]; rfl
 have f12 : (s.toList == [84, 82, 85, 78, 67]) = false := by rw [hs]; rfl
 have f13 : (s.toList == [86, 65, 76, 85, 69]) = false := by rw [hs]; rfl
 have f14 : (s.toList == [69, 88, 65, 67, 84]) = false := by rw [hs]; rfl
 have f15 : (s.toList == [73, 70, 69, 82, 82, 79, 82]) = false := by rw [hs]; rfl
 have f16 : (s.toList == [76, 65, 82, 71, 69]) = false := by rw [hs]; rfl
 have f17 : (s.toList == [76, 69, 70, 84]) = false := by rw [hs]; rfl
 have f18 : (s.toList == [77, 79, 68]) = false := by rw [hs]; rfl
 have f19 : (s.toList == [80, 69, 82, 67, 69, 78, 84, 73, 76, 69]) = false := by rw [hs]; rfl
 have f20 : (s.toList == [80, 79, 87, 69, 82]) = false := by rw [hs]; rfl
 have f21 : (s.toList == [82, 69, 80, 84]) = false := by rw [hs]; rfl
 have f22 : (s.toList == [82, 73, 71, 72, 84]) = false := by rw [hs]; rfl
 have f23 : (s.toList == [82, 79, 85, 78, 68]) = false := by rw [hs]; rfl
 have f24 : (s.toList == [82, 79, 85, 78, 68, 68, 79, 87, 78]) = false := by rw [hs]; rfl
 have f25 : (s.toList == [82, 79, 85, 78, 68, 69, 86, 69, 78]) = false := by rw [hs]; rfl
 have f26 : (s.toList == [82, 79, 85, 78, 68, 85, 80]) = false := by rw [hs]; rfl
 have f27 : (s.toList == [83, 77, 65, 76, 76]) = false := by rw [hs]; rfl
 have f28 : (s.toList == [83, 85, 77, 80, 82, 79, 68, 85, 67, 84]) = false := by rw [hs]; rfl
 have f29 : (s.toList == [84, 69, 88, 84]) = false := by rw [hs]; rfl
 have f30 : (s.toList == [73, 70]) = false := by rw [hs]; rfl
 have f31 : (s.toList == [82, 65, 78, 75]) = false := by rw [hs]; rfl
 have f32 : (s.toList == [67, 79, 85, 78, 84, 73, 70]) = false := by rw [hs]; rfl
 have f33 : (s.toList == [70, 85, 83, 69, 68]) = true := by rw [hs]; rfl
 clear hs
 go_enter Tryz.func175, Tryz.ntmps175
 go_wp2_with fail
 (try simp only [Exit.inBlock, Exit.then])
 refine bodyPost_ret (results_cell_row rfl _ _ w.heap.size _ _ _ _ rfl (heap_alloc_new _ _) Tryz.underlying196 rfl (by kernel_rfl)) rfl ?_
 exact ⟨rfl, (Gr.refl _).alloc _⟩
set_option maxRecDepth 100000 in
set_option maxHeartbeats 4000000 in
theorem takes_34 (s : ByteArray) (w : World) (hs : s.toList = [77, 73, 68]) :
    Calls Tryz.prog 175 #[.string s] w fun e w' => e = .returned (.agg #[.int .i64 3, .int .i64 3]) ∧ Gr w w' := by
 have f0 : (s.toList == [78, 65]) = false := by rw [hs]; rfl
 have f1 : (s.toList == [65, 66, 83]) = false := by rw [hs]; rfl
 have f2 : (s.toList == [73, 78, 84]) = false := by rw [hs]; rfl
 have f3 : (s.toList == [73, 83, 66, 76, 65, 78, 75]) = false := by rw [hs]; rfl
 have f4 : (s.toList == [73, 83, 69, 82, 82, 79, 82]) = false := by rw [hs]; rfl
 have f5 : (s.toList == [73, 83, 78, 85, 77, 66, 69, 82]) = false := by rw [hs]; rfl
 have f6 : (s.toList == [73, 83, 84, 69, 88, 84]) = false := by rw [hs]; rfl
 have f7 : (s.toList == [76, 69, 78]) = false := by rw [hs]; rfl
 have f8 : (s.toList == [78, 79, 84]) = false := by rw [hs]; rfl
 have f9 : (s.toList == [83, 73, 71, 78]) = false := by rw [hs]; rfl
 have f10 : (s.toList == [83, 73, 78, 71, 76, 69]) = false := by rw [hs]; rfl
 have f11 : (s.toList == [83, 81, 82, 84]) = false := by rw [hs]; rfl
 have f12 : (s.toList == [84, 82, 85, 78, 67]) = false := by rw [hs]; rfl
 have f13 : (s.toList == [86, 65, 76, 85, 69]) = false := by rw [hs]; rfl
 have f14 : (s.toList == [69, 88, 65, 67, 84]) = false := by rw [hs]; rfl
 have f15 : (s.toList == [73, 70, 69, 82, 82, 79, 82]) = false := by rw [hs]; rfl
 have f16 : (s.toList == [76, 65, 82, 71, 69]) = false := by rw [hs]; rfl
 have f17 : (s.toList == [76, 69, 70, 84]) = false := by rw [hs]; rfl
 have f18 : (s.toList == [77, 79, 68]) = false := by rw [hs]; rfl
 have f19 : (s.toList == [80, 69, 82, 67, 69, 78, 84, 73, 76, 69]) = false := by rw [hs]; rfl
 have f20 : (s.toList == [80, 79, 87, 69, 82]) = false := by rw [hs]; rfl
 have f21 : (s.toList == [82, 69, 80, 84]) = false := by rw [hs]; rfl
 have f22 : (s.toList == [82, 73, 71, 72, 84]) = false := by rw [hs]; rfl
 have f23 : (s.toList == [82, 79, 85, 78, 68]) = false := by rw [hs]; rfl
 have f24 : (s.toList == [82, 79, 85, 78, 68, 68, 79, 87, 78]) = false := by rw [hs]; rfl
 have f25 : (s.toList == [82, 79, 85, 78, 68, 69, 86, 69, 78]) = false := by rw [hs]; rfl
 have f26 : (s.toList == [82, 79, 85, 78, 68, 85, 80]) = false := by rw [hs]; rfl
 have f27 : (s.toList == [83, 77, 65, 76, 76]) = false := by rw [hs]; rfl
 have f28 : (s.toList == [83, 85, 77, 80, 82, 79, 68, 85, 67, 84]) = false := by rw [hs]; rfl
 have f29 : (s.toList == [84, 69, 88, 84]) = false := by rw [hs]; rfl
 have f30 : (s.toList == [73, 70]) = false := by rw [hs]; rfl
 have f31 : (s.toList == [82, 65, 78, 75]) = false := by rw [hs]; rfl
 have f32 : (s.toList == [67, 79, 85, 78, 84, 73, 70]) = false := by rw [hs]; rfl
 have f33 : (s.toList == [70, 85, 83, 69, 68]) = false := by rw [hs]; rfl
 have f34 : (s.toList == [77, 73, 68]) = true := by rw [hs]; rfl
 clear hs
 go_enter Tryz.func175, Tryz.ntmps175
 go_wp2_with fail
 (try simp only [Exit.inBlock, Exit.then])
 refine bodyPost_ret (results_cell_row rfl _ _ w.heap.size _ _ _ _ rfl (heap_alloc_new _ _) Tryz.underlying196 rfl (by kernel_rfl)) rfl ?_
 exact ⟨rfl, (Gr.refl _).alloc _⟩
set_option maxRecDepth 100000 in
set_option maxHeartbeats 4000000 in
theorem takes_35 (s : ByteArray) (w : World) (hs : s.toList = [65, 78, 68]) :
    Calls Tryz.prog 175 #[.string s] w fun e w' => e = .returned (.agg #[.int .i64 1, .int .i64 256]) ∧ Gr w w' := by
 have f0 : (s.toList == [78, 65]) = false := by rw [hs]; rfl
 have f1 : (s.toList == [65, 66, 83]) = false := by rw [hs]; rfl
 have f2 : (s.toList == [73, 78, 84]) = false := by rw [hs]; rfl
 have f3 : (s.toList == [73, 83, 66, 76, 65, 78, 75]) = false := by rw [hs]; rfl
 have f4 : (s.toList == [73, 83, 69, 82, 82, 79, 82]) = false := by rw [hs]; rfl
 have f5 : (s.toList == [73, 83, 78, 85, 77, 66, 69, 82]) = false := by rw [hs]; rfl
 have f6 : (s.toList == [73, 83, 84, 69, 88, 84]) = false := by rw [hs]; rfl
 have f7 : (s.toList == [76, 69, 78]) = false := by rw [hs]; rfl
 have f8 : (s.toList == [78, 79, 84]) = false := by rw [hs]; rfl
 have f9 : (s.toList == [83, 73, 71, 78]) = false := by rw [hs]; rfl
 have f10 : (s.toList == [83, 73, 78, 71, 76, 69]) = false := by rw [hs]; rfl
 have f11 : (s.toList == [83, 81, 82, 84]) = false := by rw [hs]; rfl
 have f12 : (s.toList == [84, 82, 85, 78, 67]) = false := by rw [hs]; rfl
 have f13 : (s.toList == [86, 65, 76, 85, 69]) = false := by rw [hs]; rfl
 have f14 : (s.toList == [69, 88, 65, 67, 84]) = false := by rw [hs]; rfl
 have f15 : (s.toList == [73, 70, 69, 82, 82, 79, 82]) = false := by rw [hs]; rfl
 have f16 : (s.toList == [76, 65, 82, 71, 69]) = false := by rw [hs]; rfl
 have f17 : (s.toList == [76, 69, 70, 84]) = false := by rw [hs]; rfl
 have f18 : (s.toList == [77, 79, 68]) = false := by rw [hs]; rfl
 have f19 : (s.toList == [80, 69, 82, 67, 69, 78, 84, 73, 76, 69]) = false := by rw [hs]; rfl
 have f20 : (s.toList == [80, 79, 87, 69, 82]) = false := by rw [hs]; rfl
 have f21 : (s.toList == [82, 69, 80, 84]) = false := by rw [hs]; rfl
 have f22 : (s.toList == [82, 73, 71, 72, 84]) = false := by rw [hs]; rfl
 have f23 : (s.toList == [82, 79, 85, 78, 68]) = false := by rw [hs]; rfl
 have f24 : (s.toList == [82, 79, 85, 78, 68, 68, 79, 87, 78]) = false := by rw [hs]; rfl
 have f25 : (s.toList == [82, 79, 85, 78, 68, 69, 86, 69, 78]) = false := by rw [hs]; rfl
 have f26 : (s.toList == [82, 79, 85, 78, 68, 85, 80]) = false := by rw [hs]; rfl
 have f27 : (s.toList == [83, 77, 65, 76, 76]) = false := by rw [hs]; rfl
 have f28 : (s.toList == [83, 85, 77, 80, 82, 79, 68, 85, 67, 84]) = false := by rw [hs]; rfl
 have f29 : (s.toList == [84, 69, 88, 84]) = false := by rw [hs]; rfl
 have f30 : (s.toList == [73, 70]) = false := by rw [hs]; rfl
 have f31 : (s.toList == [82, 65, 78, 75]) = false := by rw [hs]; rfl
 have f32 : (s.toList == [67, 79, 85, 78, 84, 73, 70]) = false := by rw [hs]; rfl
 have f33 : (s.toList == [70, 85, 83, 69, 68]) = false := by rw [hs]; rfl
 have f34 : (s.toList == [77, 73, 68]) = false := by rw [hs]; rfl
 have f35 : (s.toList == [65, 78, 68]) = true := by rw [hs]; rfl
 clear hs
 go_enter Tryz.func175, Tryz.ntmps175
 go_wp2_with fail
 (try simp only [Exit.inBlock, Exit.then])
 refine bodyPost_ret (results_cell_row rfl _ _ w.heap.size _ _ _ _ rfl (heap_alloc_new _ _) Tryz.underlying196 rfl (by kernel_rfl)) rfl ?_
 exact ⟨rfl, (Gr.refl _).alloc _⟩
set_option maxRecDepth 100000 in
set_option maxHeartbeats 4000000 in
theorem takes_36 (s : ByteArray) (w : World) (hs : s.toList = [65, 86, 69, 82, 65, 71, 69]) :
    Calls Tryz.prog 175 #[.string s] w fun e w' => e = .returned (.agg #[.int .i64 1, .int .i64 256]) ∧ Gr w w' := by
 have f0 : (s.toList == [78, 65]) = false := by rw [hs]; rfl
 have f1 : (s.toList == [65, 66, 83]) = false := by rw [hs]; rfl
 have f2 : (s.toList == [73, 78, 84]) = false := by rw [hs]; rfl
 have f3 : (s.toList == [73, 83, 66, 76, 65, 78, 75]) = false := by rw [hs]; rfl
 have f4 : (s.toList == [73, 83, 69, 82, 82, 79, 82]) = false := by rw [hs]; rfl
 have f5 : (s.toList == [73, 83, 78, 85, 77, 66, 69, 82]) = false := by rw [hs]; rfl
 have f6 : (s.toList == [73, 83, 84, 69, 88, 84]) = false := by rw [hs]; rfl
 have f7 : (s.toList == [76, 69, 78]) = false := by rw [hs]; rfl
 have f8 : (s.toList == [78, 79, 84]) = false := by rw [hs]; rfl
 have f9 : (s.toList == [83, 73, 71, 78]) = false := by rw [hs]; rfl
 have f10 : (s.toList == [83, 73, 78, 71, 76, 69]) = false := by rw [hs]; rfl
 have f11 : (s.toList == [83, 81, 82, 84]) = false := by rw [hs]; rfl
 have f12 : (s.toList == [84, 82, 85, 78, 67]) = false := by rw [hs]; rfl
 have f13 : (s.toList == [86, 65, 76, 85, 69]) = false := by rw [hs]; rfl
 have f14 : (s.toList == [69, 88, 65, 67, 84]) = false := by rw [hs]; rfl
 have f15 : (s.toList == [73, 70, 69, 82, 82, 79, 82]) = false := by rw [hs]; rfl
 have f16 : (s.toList == [76, 65, 82, 71, 69]) = false := by rw [hs]; rfl
 have f17 : (s.toList == [76, 69, 70, 84]) = false := by rw [hs]; rfl
 have f18 : (s.toList == [77, 79, 68]) = false := by rw [hs]; rfl
 have f19 : (s.toList == [80, 69, 82, 67, 69, 78, 84, 73, 76, 69]) = false := by rw [hs]; rfl
 have f20 : (s.toList == [80, 79, 87, 69, 82]) = false := by rw [hs]; rfl
 have f21 : (s.toList == [82, 69, 80, 84]) = false := by rw [hs]; rfl
 have f22 : (s.toList == [82, 73, 71, 72, 84]) = false := by rw [hs]; rfl
 have f23 : (s.toList == [82, 79, 85, 78, 68]) = false := by rw [hs]; rfl
 have f24 : (s.toList == [82, 79, 85, 78, 68, 68, 79, 87, 78]) = false := by rw [hs]; rfl
 have f25 : (s.toList == [82, 79, 85, 78, 68, 69, 86, 69, 78]) = false := by rw [hs]; rfl
 have f26 : (s.toList == [82, 79, 85, 78, 68, 85, 80]) = false := by rw [hs]; rfl
 have f27 : (s.toList == [83, 77, 65, 76, 76]) = false := by rw [hs]; rfl
 have f28 : (s.toList == [83, 85, 77, 80, 82, 79, 68, 85, 67, 84]) = false := by rw [hs]; rfl
 have f29 : (s.toList == [84, 69, 88, 84]) = false := by rw [hs]; rfl
 have f30 : (s.toList == [73, 70]) = false := by rw [hs]; rfl
 have f31 : (s.toList == [82, 65, 78, 75]) = false := by rw [hs]; rfl
 have f32 : (s.toList == [67, 79, 85, 78, 84, 73, 70]) = false := by rw [hs]; rfl
 have f33 : (s.toList == [70, 85, 83, 69, 68]) = false := by rw [hs]; rfl
 have f34 : (s.toList == [77, 73, 68]) = false := by rw [hs]; rfl
 have f35 : (s.toList == [65, 78, 68]) = false := by rw [hs]; rfl
 have f36 : (s.toList == [65, 86, 69, 82, 65, 71, 69]) = true := by rw [hs]; rfl
 clear hs
 go_enter Tryz.func175, Tryz.ntmps175
 go_wp2_with fail
 (try simp only [Exit.inBlock, Exit.then])
 refine bodyPost_ret (results_cell_row rfl _ _ w.heap.size _ _ _ _ rfl (heap_alloc_new _ _) Tryz.underlying196 rfl (by kernel_rfl)) rfl ?_
 exact ⟨rfl, (Gr.refl _).alloc _⟩
set_option maxRecDepth 100000 in
set_option maxHeartbeats 4000000 in
theorem takes_37 (s : ByteArray) (w : World) (hs : s.toList = [67, 79, 85, 78, 84]) :
    Calls Tryz.prog 175 #[.string s] w fun e w' => e = .returned (.agg #[.int .i64 1, .int .i64 256]) ∧ Gr w w' := by
 have f0 : (s.toList == [78, 65]) = false := by rw [hs]; rfl
 have f1 : (s.toList == [65, 66, 83]) = false := by rw [hs]; rfl
 have f2 : (s.toList == [73, 78, 84]) = false := by rw [hs]; rfl
 have f3 : (s.toList == [73, 83, 66, 76, 65, 78, 75]) = false := by rw [hs]; rfl
 have f4 : (s.toList == [73, 83, 69, 82, 82, 79, 82]) = false := by rw [hs]; rfl
 have f5 : (s.toList == [73, 83, 78, 85, 77, 66, 69, 82]) = false := by rw [hs]; rfl
 have f6 : (s.toList == [73, 83, 84, 69, 88, 84]) = false := by rw [hs]; rfl
 have f7 : (s.toList == [76, 69, 78]) = false := by rw [hs]; rfl
 have f8 : (s.toList == [78, 79, 84]) = false := by rw [hs]; rfl
 have f9 : (s.toList == [83, 73, 71, 78]) = false := by rw [hs]; rfl
 have f10 : (s.toList == [83, 73, 78, 71, 76, 69]) = false := by rw [hs]; rfl
 have f11 : (s.toList == [83, 81, 82, 84]) = false := by rw [hs]; rfl
 have f12 : (s.toList == [84, 82, 85, 78, 67]) = false := by rw [hs]; rfl
 have f13 : (s.toList == [86, 65, 76, 85, 69]) = false := by rw [hs]; rfl
 have f14 : (s.toList == [69, 88, 65, 67, 84]) = false := by rw [hs]; rfl
 have f15 : (s.toList == [73, 70, 69, 82, 82, 79, 82]) = false := by rw [hs]; rfl
 have f16 : (s.toList == [76, 65, 82, 71, 69]) = false := by rw [hs]; rfl
 have f17 : (s.toList == [76, 69, 70, 84]) = false := by rw [hs]; rfl
 have f18 : (s.toList == [77, 79, 68]) = false := by rw [hs]; rfl
 have f19 : (s.toList == [80, 69, 82, 67, 69, 78, 84, 73, 76, 69]) = false := by rw [hs]; rfl
 have f20 : (s.toList == [80, 79, 87, 69, 82]) = false := by rw [hs]; rfl
 have f21 : (s.toList == [82, 69, 80, 84]) = false := by rw [hs]; rfl
 have f22 : (s.toList == [82, 73, 71, 72, 84]) = false := by rw [hs]; rfl
 have f23 : (s.toList == [82, 79, 85, 78, 68]) = false := by rw [hs]; rfl
 have f24 : (s.toList == [82, 79, 85, 78, 68, 68, 79, 87, 78]) = false := by rw [hs]; rfl
 have f25 : (s.toList == [82, 79, 85, 78, 68, 69, 86, 69, 78]) = false := by rw [hs]; rfl
 have f26 : (s.toList == [82, 79, 85, 78, 68, 85, 80]) = false := by rw [hs]; rfl
 have f27 : (s.toList == [83, 77, 65, 76, 76]) = false := by rw [hs]; rfl
 have f28 : (s.toList == [83, 85, 77, 80, 82, 79, 68, 85, 67, 84]) = false := by rw [hs]; rfl
 have f29 : (s.toList == [84, 69, 88, 84]) = false := by rw [hs]; rfl
 have f30 : (s.toList == [73, 70]) = false := by rw [hs]; rfl
 have f31 : (s.toList == [82, 65, 78, 75]) = false := by rw [hs]; rfl
 have f32 : (s.toList == [67, 79, 85, 78, 84, 73, 70]) = false := by rw [hs]; rfl
 have f33 : (s.toList == [70, 85, 83, 69, 68]) = false := by rw [hs]; rfl
 have f34 : (s.toList == [77, 73, 68]) = false := by rw [hs]; rfl
 have f35 : (s.toList == [65, 78, 68]) = false := by rw [hs]; rfl
 have f36 : (s.toList == [65, 86, 69, 82, 65, 71, 69]) = false := by rw [hs]; rfl
 have f37 : (s.toList == [67, 79, 85, 78, 84]) = true := by rw [hs]; rfl
 clear hs
 go_enter Tryz.func175, Tryz.ntmps175
 go_wp2_with fail
 (try simp only [Exit.inBlock, Exit.then])
 refine bodyPost_ret (results_cell_row rfl _ _ w.heap.size _ _ _ _ rfl (heap_alloc_new _ _) Tryz.underlying196 rfl (by kernel_rfl)) rfl ?_
 exact ⟨rfl, (Gr.refl _).alloc _⟩
set_option maxRecDepth 100000 in
set_option maxHeartbeats 4000000 in
theorem takes_38 (s : ByteArray) (w : World) (hs : s.toList = [67, 79, 85, 78, 84, 65]) :
    Calls Tryz.prog 175 #[.string s] w fun e w' => e = .returned (.agg #[.int .i64 1, .int .i64 256]) ∧ Gr w w' := by
 have f0 : (s.toList == [78, 65]) = false := by rw [hs]; rfl
 have f1 : (s.toList == [65, 66, 83]) = false := by rw [hs]; rfl
 have f2 : (s.toList == [73, 78, 84]) = false := by rw [hs]; rfl
 have f3 : (s.toList == [73, 83, 66, 76, 65, 78, 75]) = false := by rw [hs]; rfl
 have f4 : (s.toList == [73, 83, 69, 82, 82, 79, 82]) = false := by rw [hs]; rfl
 have f5 : (s.toList == [73, 83, 78, 85, 77, 66, 69, 82]) = false := by rw [hs]; rfl
 have f6 : (s.toList == [73, 83, 84, 69, 88, 84]) = false := by rw [hs]; rfl
 have f7 : (s.toList == [76, 69, 78]) = false := by rw [hs]; rfl
 have f8 : (s.toList == [78, 79, 84]) = false := by rw [hs]; rfl
 have f9 : (s.toList == [83, 73, 71, 78]) = false := by rw [hs]; rfl
 have f10 : (s.toList == [83, 73, 78, 71, 76, 69]) = false := by rw [hs]; rfl
 have f11 : (s.toList == [83, 81, 82, 84]) = false := by rw [hs]; rfl
 have f12 : (s.toList == [84, 82, 85, 78, 67]) = false := by rw [hs]; rfl
 have f13 : (s.toList == [86, 65, 76, 85, 69]) = false := by rw [hs]; rfl
 have f14 : (s.toList == [69, 88, 65, 67, 84]) = false := by rw [hs]; rfl
 have f15 : (s.toList == [73, 70, 69, 82, 82, 79, 82]) = false := by rw [hs]; rfl
 have f16 : (s.toList == [76, 65, 82, 71, 69]) = false := by rw [hs]; rfl
 have f17 : (s.toList == [76, 69, 70, 84]) = false := by rw [hs]; rfl
 have f18 : (s.toList == [77, 79, 68]) = false := by rw [hs]; rfl
 have f19 : (s.toList == [80, 69, 82, 67, 69, 78, 84, 73, 76, 69]) = false := by rw [hs]; rfl
 have f20 : (s.toList == [80, 79, 87, 69, 82]) = false := by rw [hs]; rfl
 have f21 : (s.toList == [82, 69, 80, 84]) = false := by rw [hs]; rfl
 have f22 : (s.toList == [82, 73, 71, 72, 84]) = false := by rw [hs]; rfl
 have f23 : (s.toList == [82, 79, 85, 78, 68]) = false := by rw [hs]; rfl
 have f24 : (s.toList == [82, 79, 85, 78, 68, 68, 79, 87, 78]) = false := by rw [hs]; rfl
 have f25 : (s.toList == [82, 79, 85, 78, 68, 69, 86, 69, 78]) = false := by rw [hs]; rfl
 have f26 : (s.toList == [82, 79, 85, 78, 68, 85, 80]) = false := by rw [hs]; rfl
 have f27 : (s.toList == [83, 77, 65, 76, 76]) = false := by rw [hs]; rfl
 have f28 : (s.toList == [83, 85, 77, 80, 82, 79, 68, 85, 67, 84]) = false := by rw [hs]; rfl
 have f29 : (s.toList == [84, 69, 88, 84]) = false := by rw [hs]; rfl
 have f30 : (s.toList == [73, 70]) = false := by rw [hs]; rfl
 have f31 : (s.toList == [82, 65, 78, 75]) = false := by rw [hs]; rfl
 have f32 : (s.toList == [67, 79, 85, 78, 84, 73, 70]) = false := by rw [hs]; rfl
 have f33 : (s.toList == [70, 85, 83, 69, 68]) = false := by rw [hs]; rfl
 have f34 : (s.toList == [77, 73, 68]) = false := by rw [hs]; rfl
 have f35 : (s.toList == [65, 78, 68]) = false := by rw [hs]; rfl
 have f36 : (s.toList == [65, 86, 69, 82, 65, 71, 69]) = false := by rw [hs]; rfl
 have f37 : (s.toList == [67, 79, 85, 78, 84]) = false := by rw [hs]; rfl
 have f38 : (s.toList == [67, 79, 85, 78, 84, 65]) = true := by rw [hs]; rfl
 clear hs
 go_enter Tryz.func175, Tryz.ntmps175
 go_wp2_with fail
 (try simp only [Exit.inBlock, Exit.then])
 refine bodyPost_ret (results_cell_row rfl _ _ w.heap.size _ _ _ _ rfl (heap_alloc_new _ _) Tryz.underlying196 rfl (by kernel_rfl)) rfl ?_
 exact ⟨rfl, (Gr.refl _).alloc _⟩
set_option maxRecDepth 100000 in
set_option maxHeartbeats 4000000 in
theorem takes_39 (s : ByteArray) (w : World) (hs : s.toList = [74, 79, 73, 78]) :
    Calls Tryz.prog 175 #[.string s] w fun e w' => e = .returned (.agg #[.int .i64 1, .int .i64 256]) ∧ Gr w w' := by
 have f0 : (s.toList == [78, 65]) = false := by rw [hs]; rfl
 have f1 : (s.toList == [65, 66, 83]) = false := by rw [hs]; rfl
 have f2 : (s.toList == [73, 78, 84]) = false := by rw [hs]; rfl
 have f3 : (s.toList == [73, 83, 66, 76, 65, 78, 75]) = false := by rw [hs]; rfl
 have f4 : (s.toList == [73, 83, 69, 82, 82, 79, 82]) = false := by rw [hs]; rfl
 have f5 : (s.toList == [73, 83, 78, 85, 77, 66, 69, 82]) = false := by rw [hs]; rfl
 have f6 : (s.toList == [73, 83, 84, 69, 88, 84]) = false := by rw [hs]; rfl
 have f7 : (s.toList == [76, 69, 78]) = false := by rw [hs]; rfl
 have f8 : (s.toList == [78, 79, 84]) = false := by rw [hs]; rfl
 have f9 : (s.toList == [83, 73, 71, 78]) = false := by rw [hs]; rfl
 have f10 : (s.toList == [83, 73, 78, 71, 76, 69]) = false := by rw [hs]; rfl
 have f11 : (s.toList == [83, 81, 82, 84]) = false := by rw [hs]; rfl
 have f12 : (s.toList == [84, 82, 85, 78, 67]) = false := by rw [hs]; rfl
 have f13 : (s.toList == [86, 65, 76, 85, 69]) = false := by rw [hs]; rfl
 have f14 : (s.toList == [69, 88, 65, 67, 84]) = false := by rw [hs]; rfl
 have f15 : (s.toList == [73, 70, 69, 82, 82, 79, 82]) = false := by rw [hs]; rfl
 have f16 : (s.toList == [76, 65, 82, 71, 69]) = false := by rw [hs]; rfl
 have f17 : (s.toList == [76, 69, 70, 84]) = false := by rw [hs]; rfl
 have f18 : (s.toList == [77, 79, 68]) = false := by rw [hs]; rfl
 have f19 : (s.toList == [80, 69, 82, 67, 69, 78, 84, 73, 76, 69]) = false := by rw [hs]; rfl
 have f20 : (s.toList == [80, 79, 87, 69, 82]) = false := by rw [hs]; rfl
 have f21 : (s.toList == [82, 69, 80, 84]) = false := by rw [hs]; rfl
 have f22 : (s.toList == [82, 73, 71, 72, 84]) = false := by rw [hs]; rfl
 have f23 : (s.toList == [82, 79, 85, 78, 68]) = false := by rw [hs]; rfl
 have f24 : (s.toList == [82, 79, 85, 78, 68, 68, 79, 87, 78]) = false := by rw [hs]; rfl
 have f25 : (s.toList == [82, 79, 85, 78, 68, 69, 86, 69, 78]) = false := by rw [hs]; rfl
 have f26 : (s.toList == [82, 79, 85, 78, 68, 85, 80]) = false := by rw [hs]; rfl
 have f27 : (s.toList == [83, 77, 65, 76, 76]) = false := by rw [hs]; rfl
 have f28 : (s.toList == [83, 85, 77, 80, 82, 79, 68, 85, 67, 84]) = false := by rw [hs]; rfl
 have f29 : (s.toList == [84, 69, 88, 84]) = false := by rw [hs]; rfl
 have f30 : (s.toList == [73, 70]) = false := by rw [hs]; rfl
 have f31 : (s.toList == [82, 65, 78, 75]) = false := by rw [hs]; rfl
 have f32 : (s.toList == [67, 79, 85, 78, 84, 73, 70]) = false := by rw [hs]; rfl
 have f33 : (s.toList == [70, 85, 83, 69, 68]) = false := by rw [hs]; rfl
 have f34 : (s.toList == [77, 73, 68]) = false := by rw [hs]; rfl
 have f35 : (s.toList == [65, 78, 68]) = false := by rw [hs]; rfl
 have f36 : (s.toList == [65, 86, 69, 82, 65, 71, 69]) = false := by rw [hs]; rfl
 have f37 : (s.toList == [67, 79, 85, 78, 84]) = false := by rw [hs]; rfl
 have f38 : (s.toList == [67, 79, 85, 78, 84, 65]) = false := by rw [hs]; rfl
 have f39 : (s.toList == [74, 79, 73, 78]) = true := by rw [hs]; rfl
 clear hs
 go_enter Tryz.func175, Tryz.ntmps175
 go_wp2_with fail
 (try simp only [Exit.inBlock, Exit.then])
 refine bodyPost_ret (results_cell_row rfl _ _ w.heap.size _ _ _ _ rfl (heap_alloc_new _ _) Tryz.underlying196 rfl (by kernel_rfl)) rfl ?_
 exact ⟨rfl, (Gr.refl _).alloc _⟩
set_option maxRecDepth 100000 in
set_option maxHeartbeats 4000000 in
theorem takes_40 (s : ByteArray) (w : World) (hs : s.toList = [77, 65, 88]) :
    Calls Tryz.prog 175 #[.string s] w fun e w' => e = .returned (.agg #[.int .i64 1, .int .i64 256]) ∧ Gr w w' := by
 have f0 : (s.toList == [78, 65]) = false := by rw [hs]; rfl
 have f1 : (s.toList == [65, 66, 83]) = false := by rw [hs]; rfl
 have f2 : (s.toList == [73, 78, 84]) = false := by rw [hs]; rfl
 have f3 : (s.toList == [73, 83, 66, 76, 65, 78, 75]) = false := by rw [hs]; rfl
 have f4 : (s.toList == [73, 83, 69, 82, 82, 79, 82]) = false := by rw [hs]; rfl
 have f5 : (s.toList == [73, 83, 78, 85, 77, 66, 69, 82]) = false := by rw [hs]; rfl
 have f6 : (s.toList == [73, 83, 84, 69, 88, 84]) = false := by rw [hs]; rfl
 have f7 : (s.toList == [76, 69, 78]) = false := by rw [hs]; rfl
 have f8 : (s.toList == [78, 79, 84]) = false := by rw [hs]; rfl
 have f9 : (s.toList == [83, 73, 71, 78]) = false := by rw [hs]; rfl
 have f10 : (s.toList == [83, 73, 78, 71, 76, 69]) = false := by rw [hs]; rfl
 have f11 : (s.toList == [83, 81, 82, 84]) = false := by rw [hs]; rfl
 have f12 : (s.toList == [84, 82, 85, 78, 67]) = false := by rw [hs]; rfl
 have f13 : (s.toList == [86, 65, 76, 85, 69]) = false := by rw [hs]; rfl
 have f14 : (s.toList == [69, 88, 65, 67, 84]) = false := by rw [hs]; rfl
 have f15 : (s.toList == [73, 70, 69, 82, 82, 79, 82]) = false := by rw [hs]; rfl
 have f16 : (s.toList == [76, 65, 82, 71, 69]) = false := by rw [hs]; rfl
 have f17 : (s.toList == [76, 69, 70, 84]) = false := by rw [hs]; rfl
 have f18 : (s.toList == [77, 79, 68]) = false := by rw [hs]; rfl
 have f19 : (s.toList == [80, 69, 82, 67, 69, 78, 84, 73, 76, 69]) = false := by rw [hs]; rfl
 have f20 : (s.toList == [80, 79, 87, 69, 82]) = false := by rw [hs]; rfl
 have f21 : (s.toList == [82, 69, 80, 84]) = false := by rw [hs]; rfl
 have f22 : (s.toList == [82, 73, 71, 72, 84]) = false := by rw [hs]; rfl
 have f23 : (s.toList == [82, 79, 85, 78, 68]) = false := by rw [hs]; rfl
 have f24 : (s.toList == [82, 79, 85, 78, 68, 68, 79, 87, 78]) = false := by rw [hs]; rfl
 have f25 : (s.toList == [82, 79, 85, 78, 68, 69, 86, 69, 78]) = false := by rw [hs]; rfl
 have f26 : (s.toList == [82, 79, 85, 78, 68, 85, 80]) = false := by rw [hs]; rfl
 have f27 : (s.toList == [83, 77, 65, 76, 76]) = false := by rw [hs]; rfl
 have f28 : (s.toList == [83, 85, 77, 80, 82, 79, 68, 85, 67, 84]) = false := by rw [hs]; rfl
 have f29 : (s.toList == [84, 69, 88, 84]) = false := by rw [hs]; rfl
 have f30 : (s.toList == [73, 70]) = false := by rw [hs]; rfl
 have f31 : (s.toList == [82, 65, 78, 75]) = false := by rw [hs]; rfl
 have f32 : (s.toList == [67, 79, 85, 78, 84, 73, 70]) = false := by rw [hs]; rfl
 have f33 : (s.toList == [70, 85, 83, 69, 68]) = false := by rw [hs]; rfl
 have f34 : (s.toList == [77, 73, 68]) = false := by rw [hs]; rfl
 have f35 : (s.toList == [65, 78, 68]) = false := by rw [hs]; rfl
 have f36 : (s.toList == [65, 86, 69, 82, 65, 71, 69]) = false := by rw [hs]; rfl
 have f37 : (s.toList == [67, 79, 85, 78, 84]) = false := by rw [hs]; rfl
 have f38 : (s.toList == [67, 79, 85, 78, 84, 65]) = false := by rw [hs]; rfl
 have f39 : (s.toList == [74, 79, 73, 78]) = false := by rw [hs]; rfl
 have f40 : (s.toList == [77, 65, 88]) = true := by rw [hs]; rfl
 clear hs
 go_enter Tryz.func175, Tryz.ntmps175
 go_wp2_with fail
 (try simp only [Exit.inBlock, Exit.then])
 refine bodyPost_ret (results_cell_row rfl _ _ w.heap.size _ _ _ _ rfl (heap_alloc_new _ _) Tryz.underlying196 rfl (by kernel_rfl)) rfl ?_
 exact ⟨rfl, (Gr.refl _).alloc _⟩
set_option maxRecDepth 100000 in
set_option maxHeartbeats 4000000 in
theorem takes_41 (s : ByteArray) (w : World) (hs : s.toList = [77, 69, 68, 73, 65, 78]) :
    Calls Tryz.prog 175 #[.string s] w fun e w' => e = .returned (.agg #[.int .i64 1, .int .i64 256]) ∧ Gr w w' := by
 have f0 : (s.toList == [78, 65]) = false := by rw [hs]; rfl
 have f1 : (s.toList == [65, 66, 83]) = false := by rw [hs]; rfl
 have f2 : (s.toList == [73, 78, 84]) = false := by rw [hs]; rfl
 have f3 : (s.toList == [73, 83, 66, 76, 65, 78, 75]) = false := by rw [hs]; rfl
 have f4 : (s.toList == [73, 83, 69, 82, 82, 79, 82]) = false := by rw [hs]; rfl
 have f5 : (s.toList == [73, 83, 78, 85, 77, 66, 69, 82]) = false := by rw [hs]; rfl
 have f6 : (s.toList == [73, 83, 84, 69, 88, 84]) = false := by rw [hs]; rfl
 have f7 : (s.toList == [76, 69, 78]) = false := by rw [hs]; rfl
 have f8 : (s.toList == [78, 79, 84]) = false := by rw [hs]; rfl
 have f9 : (s.toList == [83, 73, 71, 78]) = false := by rw [hs]; rfl
 have f10 : (s.toList == [83, 73, 78, 71, 76, 69]) = false := by rw [hs]; rfl
 have f11 : (s.toList == [83, 81, 82, 84]) = false := by rw [hs]; rfl
 have f12 : (s.toList == [84, 82, 85, 78, 67]) = false := by rw [hs]; rfl
 have f13 : (s.toList == [86, 65, 76, 85, 69]) = false := by rw [hs]; rfl
 have f14 : (s.toList == [69, 88, 65, 67, 84]) = false := by rw [hs]; rfl
 have f15 : (s.toList == [73, 70, 69, 82, 82, 79, 82]) = false := by rw [hs]; rfl
 have f16 : (s.toList == [76, 65, 82, 71, 69]) = false := by rw [hs]; rfl
 have f17 : (s.toList == [76, 69, 70, 84]) = false := by rw [hs]; rfl
 have f18 : (s.toList == [77, 79, 68]) = false := by rw [hs]; rfl
 have f19 : (s.toList == [80, 69, 82, 67, 69, 78, 84, 73, 76, 69]) = false := by rw [hs]; rfl
 have f20 : (s.toList == [80, 79, 87, 69, 82]) = false := by rw [hs]; rfl
 have f21 : (s.toList == [82, 69, 80, 84]) = false := by rw [hs]; rfl
 have f22 : (s.toList == [82, 73, 71, 72, 84]) = false := by rw [hs]; rfl
 have f23 : (s.toList == [82, 79, 85, 78, 68]) = false := by rw [hs]; rfl
 have f24 : (s.toList == [82, 79, 85, 78, 68, 68, 79, 87, 78]) = false := by rw [hs]; rfl
 have f25 : (s.toList == [82, 79, 85, 78, 68, 69, 86, 69, 78]) = false := by rw [hs]; rfl
 have f26 : (s.toList == [82, 79, 85, 78, 68, 85, 80]) = false := by rw [hs]; rfl
 have f27 : (s.toList == [83, 77, 65, 76, 76]) = false := by rw [hs]; rfl
 have f28 : (s.toList == [83, 85, 77, 80, 82, 79, 68, 85, 67, 84]) = false := by rw [hs]; rfl
 have f29 : (s.toList == [84, 69, 88, 84]) = false := by rw [hs]; rfl
 have f30 : (s.toList == [73, 70]) = false := by rw [hs]; rfl
 have f31 : (s.toList == [82, 65, 78, 75]) = false := by rw [hs]; rfl
 have f32 : (s.toList == [67, 79, 85, 78, 84, 73, 70]) = false := by rw [hs]; rfl
 have f33 : (s.toList == [70, 85, 83, 69, 68]) = false := by rw [hs]; rfl
 have f34 : (s.toList == [77, 73, 68]) = false := by rw [hs]; rfl
 have f35 : (s.toList == [65, 78, 68]) = false := by rw [hs]; rfl
 have f36 : (s.toList == [65, 86, 69, 82, 65, 71, 69]) = false := by rw [hs]; rfl
 have f37 : (s.toList == [67, 79, 85, 78, 84]) = false := by rw [hs]; rfl
 have f38 : (s.toList == [67, 79, 85, 78, 84, 65]) = false := by rw [hs]; rfl
 have f39 : (s.toList == [74, 79, 73, 78]) = false := by rw [hs]; rfl
 have f40 : (s.toList == [77, 65, 88]) = false := by rw [hs]; rfl
 have f41 : (s.toList == [77, 69, 68, 73, 65, 78]) = true := by rw [hs]; rfl
 clear hs
 go_enter Tryz.func175, Tryz.ntmps175
 go_wp2_with fail
 (try simp only [Exit.inBlock, Exit.then])
 refine bodyPost_ret (results_cell_row rfl _ _ w.heap.size _ _ _ _ rfl (heap_alloc_new _ _) Tryz.underlying196 rfl (by kernel_rfl)) rfl ?_
 exact ⟨rfl, (Gr.refl _).alloc _⟩
set_option maxRecDepth 100000 in
set_option maxHeartbeats 4000000 in
theorem takes_42 (s : ByteArray) (w : World) (hs : s.toList = [77, 73, 78]) :
    Calls Tryz.prog 175 #[.string s] w fun e w' => e = .returned (.agg #[.int .i64 1, .int .i64 256]) ∧ Gr w w' := by
 have f0 : (s.toList == [78, 65]) = false := by rw [hs]; rfl
 have f1 : (s.toList == [65, 66, 83]) = false := by rw [hs]; rfl
 have f2 : (s.toList == [73, 78, 84]) = false := by rw [hs]; rfl
 have f3 : (s.toList == [73, 83, 66, 76, 65, 78, 75]) = false := by rw [hs]; rfl
 have f4 : (s.toList == [73, 83, 69, 82, 82, 79, 82]) = false := by rw [hs]; rfl
 have f5 : (s.toList == [73, 83, 78, 85, 77, 66, 69, 82]) = false := by rw [hs]; rfl
 have f6 : (s.toList == [73, 83, 84, 69, 88, 84]) = false := by rw [hs]; rfl
 have f7 : (s.toList == [76, 69, 78]) = false := by rw [hs]; rfl
 have f8 : (s.toList == [78, 79, 84]) = false := by rw [hs]; rfl
 have f9 : (s.toList == [83, 73, 71, 78]) = false := by rw [hs]; rfl
 have f10 : (s.toList == [83, 73, 78, 71, 76, 69]) = false := by rw [hs]; rfl
 have f11 : (s.toList == [83, 81, 82, 84]) = false := by rw [hs]; rfl
 have f12 : (s.toList == [84, 82, 85, 78, 67]) = false := by rw [hs]; rfl
 have f13 : (s.toList == [86, 65, 76, 85, 69]) = false := by rw [hs]; rfl
 have f14 : (s.toList == [69, 88, 65, 67, 84]) = false := by rw [hs]; rfl
 have f15 : (s.toList == [73, 70, 69, 82, 82, 79, 82]) = false := by rw [hs]; rfl
 have f16 : (s.toList == [76, 65, 82, 71, 69]) = false := by rw [hs]; rfl
 have f17 : (s.toList == [76, 69, 70, 84]) = false := by rw [hs]; rfl
 have f18 : (s.toList == [77, 79, 68]) = false := by rw [hs]; rfl
 have f19 : (s.toList == [80, 69, 82, 67, 69, 78, 84, 73, 76, 69]) = false := by rw [hs]; rfl
 have f20 : (s.toList == [80, 79, 87, 69, 82]) = false := by rw [hs]; rfl
 have f21 : (s.toList == [82, 69, 80, 84]) = false := by rw [hs]; rfl
 have f22 : (s.toList == [82, 73, 71, 72, 84]) = false := by rw [hs]; rfl
 have f23 : (s.toList == [82, 79, 85, 78, 68]) = false := by rw [hs]; rfl
 have f24 : (s.toList == [82, 79, 85, 78, 68, 68, 79, 87, 78]) = false := by rw [hs]; rfl
 have f25 : (s.toList == [82, 79, 85, 78, 68, 69, 86, 69, 78]) = false := by rw [hs]; rfl
 have f26 : (s.toList == [82, 79, 85, 78, 68, 85, 80]) = false := by rw [hs]; rfl
 have f27 : (s.toList == [83, 77, 65, 76, 76]) = false := by rw [hs]; rfl
 have f28 : (s.toList == [83, 85, 77, 80, 82, 79, 68, 85, 67, 84]) = false := by rw [hs]; rfl
 have f29 : (s.toList == [84, 69, 88, 84]) = false := by rw [hs]; rfl
 have f30 : (s.toList == [73, 70]) = false := by rw [hs]; rfl
 have f31 : (s.toList == [82, 65, 78, 75]) = false := by rw [hs]; rfl
 have f32 : (s.toList == [67, 79, 85, 78, 84, 73, 70]) = false := by rw [hs]; rfl
 have f33 : (s.toList == [70, 85, 83, 69, 68]) = false := by rw [hs]; rfl
 have f34 : (s.toList == [77, 73, 68]) = false := by rw [hs]; rfl
 have f35 : (s.toList == [65, 78, 68]) = false := by rw [hs]; rfl
 have f36 : (s.toList == [65, 86, 69, 82, 65, 71, 69]) = false := by rw [hs]; rfl
 have f37 : (s.toList == [67, 79, 85, 78, 84]) = false := by rw [hs]; rfl
 have f38 : (s.toList == [67, 79, 85, 78, 84, 65]) = false := by rw [hs]; rfl
 have f39 : (s.toList == [74, 79, 73, 78]) = false := by rw [hs]; rfl
 have f40 : (s.toList == [77, 65, 88]) = false := by rw [hs]; rfl
 have f41 : (s.toList == [77, 69, 68, 73, 65, 78]) = false := by rw [hs]; rfl
 have f42 : (s.toList == [77, 73, 78]) = true := by rw [hs]; rfl
 clear hs
 go_enter Tryz.func175, Tryz.ntmps175
 go_wp2_with fail
 (try simp only [Exit.inBlock, Exit.then])
 refine bodyPost_ret (results_cell_row rfl _ _ w.heap.size _ _ _ _ rfl (heap_alloc_new _ _) Tryz.underlying196 rfl (by kernel_rfl)) rfl ?_
 exact ⟨rfl, (Gr.refl _).alloc _⟩
set_option maxRecDepth 100000 in
set_option maxHeartbeats 4000000 in
theorem takes_43 (s : ByteArray) (w : World) (hs : s.toList = [77, 79, 68, 69]) :
    Calls Tryz.prog 175 #[.string s] w fun e w' => e = .returned (.agg #[.int .i64 1, .int .i64 256]) ∧ Gr w w' := by
 have f0 : (s.toList == [78, 65]) = false := by rw [hs]; rfl
 have f1 : (s.toList == [65, 66, 83]) = false := by rw [hs]; rfl
 have f2 : (s.toList == [73, 78, 84]) = false := by rw [hs]; rfl
 have f3 : (s.toList == [73, 83, 66, 76, 65, 78, 75]) = false := by rw [hs]; rfl
 have f4 : (s.toList == [73, 83, 69, 82, 82, 79, 82]) = false := by rw [hs]; rfl
 have f5 : (s.toList == [73, 83, 78, 85, 77, 66, 69, 82]) = false := by rw [hs]; rfl
 have f6 : (s.toList == [73, 83, 84, 69, 88, 84]) = false := by rw [hs]; rfl
 have f7 : (s.toList == [76, 69, 78]) = false := by rw [hs]; rfl
 have f8 : (s.toList == [78, 79, 84]) = false := by rw [hs]; rfl
 have f9 : (s.toList == [83, 73, 71, 78]) = false := by rw [hs]; rfl
 have f10 : (s.toList == [83, 73, 78, 71, 76, 69]) = false := by rw [hs]; rfl
 have f11 : (s.toList == [83, 81, 82, 84]) = false := by rw [hs]; rfl
 have f12 : (s.toList == [84, 82, 85, 78, 67]) = false := by rw [hs]; rfl
 have f13 : (s.toList == [86, 65, 76, 85, 69]) = false := by rw [hs]; rfl
 have f14 : (s.toList == [69, 88, 65, 67, 84]) = false := by rw [hs]; rfl
 have f15 : (s.toList == [73, 70, 69, 82, 82, 79, 82]) = false := by rw [hs]; rfl
 have f16 : (s.toList == [76, 65, 82, 71, 69]) = false := by rw [hs]; rfl
 have f17 : (s.toList == [76, 69, 70, 84]) = false := by rw [hs]; rfl
 have f18 : (s.toList == [77, 79, 68]) = false := by rw [hs]; rfl
 have f19 : (s.toList == [80, 69, 82, 67, 69, 78, 84, 73, 76, 69]) = false := by rw [hs]; rfl
 have f20 : (s.toList == [80, 79, 87, 69, 82]) = false := by rw [hs]; rfl
 have f21 : (s.toList == [82, 69, 80, 84]) = false := by rw [hs]; rfl
 have f22 : (s.toList == [82, 73, 71, 72, 84]) = false := by rw [hs]; rfl
 have f23 : (s.toList == [82, 79, 85, 78, 68]) = false := by rw [hs]; rfl
 have f24 : (s.toList == [82, 79, 85, 78, 68, 68, 79, 87, 78]) = false := by rw [hs]; rfl
 have f25 : (s.toList == [82, 79, 85, 78, 68, 69, 86, 69, 78]) = false := by rw [hs]; rfl
 have f26 : (s.toList == [82, 79, 85, 78, 68, 85, 80]) = false := by rw [hs]; rfl
 have f27 : (s.toList == [83, 77, 65, 76, 76]) = false := by rw [hs]; rfl
 have f28 : (s.toList == [83, 85, 77, 80, 82, 79, 68, 85, 67, 84]) = false := by rw [hs]; rfl
 have f29 : (s.toList == [84, 69, 88, 84]) = false := by rw [hs]; rfl
 have f30 : (s.toList == [73, 70]) = false := by rw [hs]; rfl
 have f31 : (s.toList == [82, 65, 78, 75]) = false := by rw [hs]; rfl
 have f32 : (s.toList == [67, 79, 85, 78, 84, 73, 70]) = false := by rw [hs]; rfl
 have f33 : (s.toList == [70, 85, 83, 69, 68]) = false := by rw [hs]; rfl
 have f34 : (s.toList == [77, 73, 68]) = false := by rw [hs]; rfl
 have f35 : (s.toList == [65, 78, 68]) = false := by rw [hs]; rfl
 have f36 : (s.toList == [65, 86, 69, 82, 65, 71, 69]) = false := by rw [hs]; rfl
 have f37 : (s.toList == [67, 79, 85, 78, 84]) = false := by rw [hs]; rfl
 have f38 : (s.toList == [67, 79, 85, 78, 84, 65]) = false := by rw [hs]; rfl
 have f39 : (s.toList == [74, 79, 73, 78]) = false := by rw [hs]; rfl
 have f40 : (s.toList == [77, 65, 88]) = false := by rw [hs]; rfl
 have f41 : (s.toList == [77, 69, 68, 73, 65, 78]) = false := by rw [hs]; rfl
 have f42 : (s.toList == [77, 73, 78]) = false := by rw [hs]; rfl
 have f43 : (s.toList == [77, 79, 68, 69]) = true := by rw [hs]; rfl
 clear hs
 go_enter Tryz.func175, Tryz.ntmps175
 go_wp2_with fail
 (try simp only [Exit.inBlock, Exit.then])
 refine bodyPost_ret (results_cell_row rfl _ _ w.heap.size _ _ _ _ rfl (heap_alloc_new _ _) Tryz.underlying196 rfl (by kernel_rfl)) rfl ?_
 exact ⟨rfl, (Gr.refl _).alloc _⟩
set_option maxRecDepth 100000 in
set_option maxHeartbeats 4000000 in
theorem takes_44 (s : ByteArray) (w : World) (hs : s.toList = [79, 82]) :
    Calls Tryz.prog 175 #[.string s] w fun e w' => e = .returned (.agg #[.int .i64 1, .int .i64 256]) ∧ Gr w w' := by
 have f0 : (s.toList == [78, 65]) = false := by rw [hs]; rfl
 have f1 : (s.toList == [65, 66, 83]) = false := by rw [hs]; rfl
 have f2 : (s.toList == [73, 78, 84]) = false := by rw [hs]; rfl
 have f3 : (s.toList == [73, 83, 66, 76, 65, 78, 75]) = false := by rw [hs]; rfl
 have f4 : (s.toList == [73, 83, 69, 82, 82, 79, 82]) = false := by rw [hs]; rfl
 have f5 : (s.toList == [73, 83, 78, 85, 77, 66, 69, 82]) = false := by rw [hs]; rfl
 have f6 : (s.toList == [73, 83, 84, 69, 88, 84]) = false := by rw [hs]; rfl
 have f7 : (s.toList == [76, 69, 78]) = false := by rw [hs]; rfl
 have f8 : (s.toList == [78, 79, 84]) = false := by rw [hs]; rfl
 have f9 : (s.toList == [83, 73, 71, 78]) = false := by rw [hs]; rfl
 have f10 : (s.toList == [83, 73, 78, 71, 76, 69]) = false := by rw [hs]; rfl
 have f11 : (s.toList == [83, 81, 82, 84]) = false := by rw [hs]; rfl
 have f12 : (s.toList == [84, 82, 85, 78, 67]) = false := by rw [hs]; rfl
 have f13 : (s.toList == [86, 65, 76, 85, 69]) = false := by rw [hs]; rfl
 have f14 : (s.toList == [69, 88, 65, 67, 84]) = false := by rw [hs]; rfl
 have f15 : (s.toList == [73, 70, 69, 82, 82, 79, 82]) = false := by rw [hs]; rfl
 have f16 : (s.toList == [76, 65, 82, 71, 69]) = false := by rw [hs]; rfl
 have f17 : (s.toList == [76, 69, 70, 84]) = false := by rw [hs]; rfl
 have f18 : (s.toList == [77, 79, 68]) = false := by rw [hs]; rfl
 have f19 : (s.toList == [80, 69, 82, 67, 69, 78, 84, 73, 76, 69]) = false := by rw [hs]; rfl
 have f20 : (s.toList == [80, 79, 87, 69, 82]) = false := by rw [hs]; rfl
 have f21 : (s.toList == [82, 69, 80, 84]) = false := by rw [hs]; rfl
 have f22 : (s.toList == [82, 73, 71, 72, 84]) = false := by rw [hs]; rfl
 have f23 : (s.toList == [82, 79, 85, 78, 68]) = false := by rw [hs]; rfl
 have f24 : (s.toList == [82, 79, 85, 78, 68, 68, 79, 87, 78]) = false := by rw [hs]; rfl
 have f25 : (s.toList == [82, 79, 85, 78, 68, 69, 86, 69, 78]) = false := by rw [hs]; rfl
 have f26 : (s.toList == [82, 79, 85, 78, 68, 85, 80]) = false := by rw [hs]; rfl
 have f27 : (s.toList == [83, 77, 65, 76, 76]) = false := by rw [hs]; rfl
 have f28 : (s.toList == [83, 85, 77, 80, 82, 79, 68, 85, 67, 84]) = false := by rw [hs]; rfl
 have f29 : (s.toList == [84, 69, 88, 84]) = false := by rw [hs]; rfl
 have f30 : (s.toList == [73, 70]) = false := by rw [hs]; rfl
 have f31 : (s.toList == [82, 65, 78, 75]) = false := by rw [hs]; rfl
 have f32 : (s.toList == [67, 79, 85, 78, 84, 73, 70]) = false := by rw [hs]; rfl
 have f33 : (s.toList == [70, 85, 83, 69, 68]) = false := by rw [hs]; rfl
 have f34 : (s.toList == [77, 73, 68]) = false := by rw [hs]; rfl
 have f35 : (s.toList == [65, 78, 68]) = false := by rw [hs]; rfl
 have f36 : (s.toList == [65, 86, 69, 82, 65, 71, 69]) = false := by rw [hs]; rfl
 have f37 : (s.toList == [67, 79, 85, 78, 84]) = false := by rw [hs]; rfl
 have f38 : (s.toList == [67, 79, 85, 78, 84, 65]) = false := by rw [hs]; rfl
 have f39 : (s.toList == [74, 79, 73, 78]) = false := by rw [hs]; rfl
 have f40 : (s.toList == [77, 65, 88]) = false := by rw [hs]; rfl
 have f41 : (s.toList == [77, 69, 68, 73, 65, 78]) = false := by rw [hs]; rfl
 have f42 : (s.toList == [77, 73, 78]) = false := by rw [hs]; rfl
 have f43 : (s.toList == [77, 79, 68, 69]) = false := by rw [hs]; rfl
 have f44 : (s.toList == [79, 82]) = true := by rw [hs]; rfl
 clear hs
 go_enter Tryz.func175, Tryz.ntmps175
 go_wp2_with fail
 (try simp only [Exit.inBlock, Exit.then])
 refine bodyPost_ret (results_cell_row rfl _ _ w.heap.size _ _ _ _ rfl (heap_alloc_new _ _) Tryz.underlying196 rfl (by kernel_rfl)) rfl ?_
 exact ⟨rfl, (Gr.refl _).alloc _⟩
set_option maxRecDepth 100000 in
set_option maxHeartbeats 4000000 in
theorem takes_45 (s : ByteArray) (w : World) (hs : s.toList = [83, 84, 68, 69, 86]) :
    Calls Tryz.prog 175 #[.string s] w fun e w' => e = .returned (.agg #[.int .i64 1, .int .i64 256]) ∧ Gr w w' := by
 have f0 : (s.toList == [78, 65]) = false := by rw [hs]; rfl
 have f1 : (s.toList == [65, 66, 83]) = false := by rw [hs]; rfl
 have f2 : (s.toList == [73, 78, 84]) = false := by rw [hs]; rfl
 have f3 : (s.toList == [73, 83, 66, 76, 65, 78, 75]) = false := by rw [hs]; rfl
 have f4 : (s.toList == [73, 83, 69, 82, 82, 79, 82]) = false := by rw [hs]; rfl
 have f5 : (s.toList == [73, 83, 78, 85, 77, 66, 69, 82]) = false := by rw [hs]; rfl
 have f6 : (s.toList == [73, 83, 84, 69, 88, 84]) = false := by rw [hs]; rfl
 have f7 : (s.toList == [76, 69, 78]) = false := by rw [hs]; rfl
 have f8 : (s.toList == [78, 79, 84]) = false := by rw [hs]; rfl
 have f9 : (s.toList == [83, 73, 71, 78]) = false := by rw [hs]; rfl
 have f10 : (s.toList == [83, 73, 78, 71, 76, 69]) = false := by rw [hs]; rfl
 have f11 : (s.toList == [83, 81, 82, 84]) = false := by rw [hs]; rfl
 have f12 : (s.toList == [84, 82, 85, 78, 67]) = false := by rw [hs]; rfl
 have f13 : (s.toList == [86, 65, 76, 85, 69]) = false := by rw [hs]; rfl
 have f14 : (s.toList == [69, 88, 65, 67, 84]) = false := by rw [hs]; rfl
 have f15 : (s.toList == [73, 70, 69, 82, 82, 79, 82]) = false := by rw [hs]; rfl
 have f16 : (s.toList == [76, 65, 82, 71, 69]) = false := by rw [hs]; rfl
 have f17 : (s.toList == [76, 69, 70, 84]) = false := by rw [hs]; rfl
 have f18 : (s.toList == [77, 79, 68]) = false := by rw [hs]; rfl
 have f19 : (s.toList == [80, 69, 82, 67, 69, 78, 84, 73, 76, 69]) = false := by rw [hs]; rfl
 have f20 : (s.toList == [80, 79, 87, 69, 82]) = false := by rw [hs]; rfl
 have f21 : (s.toList == [82, 69, 80, 84]) = false := by rw [hs]; rfl
 have f22 : (s.toList == [82, 73, 71, 72, 84]) = false := by rw [hs]; rfl
 have f23 : (s.toList == [82, 79, 85, 78, 68]) = false := by rw [hs]; rfl
 have f24 : (s.toList == [82, 79, 85, 78, 68, 68, 79, 87, 78]) = false := by rw [hs]; rfl
 have f25 : (s.toList == [82, 79, 85, 78, 68, 69, 86, 69, 78]) = false := by rw [hs]; rfl
 have f26 : (s.toList == [82, 79, 85, 78, 68, 85, 80]) = false := by rw [hs]; rfl
 have f27 : (s.toList == [83, 77, 65, 76, 76]) = false := by rw [hs]; rfl
 have f28 : (s.toList == [83, 85, 77, 80, 82, 79, 68, 85, 67, 84]) = false := by rw [hs]; rfl
 have f29 : (s.toList == [84, 69, 88, 84]) = false := by rw [hs]; rfl
 have f30 : (s.toList == [73, 70]) = false := by rw [hs]; rfl
 have f31 : (s.toList == [82, 65, 78, 75]) = false := by rw [hs]; rfl
 have f32 : (s.toList == [67, 79, 85, 78, 84, 73, 70]) = false := by rw [hs]; rfl
 have f33 : (s.toList == [70, 85, 83, 69, 68]) = false := by rw [hs]; rfl
 have f34 : (s.toList == [77, 73, 68]) = false := by rw [hs]; rfl
 have f35 : (s.toList == [65, 78, 68]) = false := by rw [hs]; rfl
 have f36 : (s.toList == [65, 86, 69, 82, 65, 71, 69]) = false := by rw [hs]; rfl
 have f37 : (s.toList == [67, 79, 85, 78, 84]) = false := by rw [hs]; rfl
 have f38 : (s.toList == [67, 79, 85, 78, 84, 65]) = false := by rw [hs]; rfl
 have f39 : (s.toList == [74, 79, 73, 78]) = false := by rw [hs]; rfl
 have f40 : (s.toList == [77, 65, 88]) = false := by rw [hs]; rfl
 have f41 : (s.toList == [77, 69, 68, 73, 65, 78]) = false := by rw [hs]; rfl
 have f42 : (s.toList == [77, 73, 78]) = false := by rw [hs]; rfl
 have f43 : (s.toList == [77, 79, 68, 69]) = false := by rw [hs]; rfl
 have f44 : (s.toList == [79, 82]) = false := by rw [hs]; rfl
 have f45 : (s.toList == [83, 84, 68, 69, 86]) = true := by rw [hs]; rfl
 clear hs
 go_enter Tryz.func175, Tryz.ntmps175
 go_wp2_with fail
 (try simp only [Exit.inBlock, Exit.then])
 refine bodyPost_ret (results_cell_row rfl _ _ w.heap.size _ _ _ _ rfl (heap_alloc_new _ _) Tryz.underlying196 rfl (by kernel_rfl)) rfl ?_
 exact ⟨rfl, (Gr.refl _).alloc _⟩
set_option maxRecDepth 100000 in
set_option maxHeartbeats 4000000 in
theorem takes_46 (s : ByteArray) (w : World) (hs : s.toList = [83, 84, 68, 69, 86, 80]) :
    Calls Tryz.prog 175 #[.string s] w fun e w' => e = .returned (.agg #[.int .i64 1, .int .i64 256]) ∧ Gr w w' := by
 have f0 : (s.toList == [78, 65]) = false := by rw [hs]; rfl
 have f1 : (s.toList == [65, 66, 83]) = false := by rw [hs]; rfl
 have f2 : (s.toList == [73, 78, 84]) = false := by rw [hs]; rfl
 have f3 : (s.toList == [73, 83, 66, 76, 65, 78, 75]) = false := by rw [hs]; rfl
 have f4 : (s.toList == [73, 83, 69, 82, 82, 79, 82]) = false := by rw [hs]; rfl
 have f5 : (s.toList == [73, 83, 78, 85, 77, 66, 69, 82]) = false := by rw [hs]; rfl
 have f6 : (s.toList == [73, 83, 84, 69, 88, 84]) = false := by rw [hs]; rfl
 have f7 : (s.toList == [76, 69, 78]) = false := by rw [hs]; rfl
 have f8 : (s.toList == [78, 79, 84]) = false := by rw [hs]; rfl
 have f9 : (s.toList == [83, 73, 71, 78]) = false := by rw [hs]; rfl
 have f10 : (s.toList == [83, 73, 78, 71, 76, 69]) = false := by rw [hs]; rfl
 have f11 : (s.toList == [83, 81, 82, 84]) = false := by rw [hs]; rfl
 have f12 : (s.toList == [84, 82, 85, 78, 67]) = false := by rw [hs]; rfl
 have f13 : (s.toList == [86, 65, 76, 85, 69]) = false := by rw [hs]; rfl
 have f14 : (s.toList == [69, 88, 65, 67, 84]) = false := by rw [hs]; rfl
 have f15 : (s.toList == [73, 70, 69, 82, 82, 79, 82]) = false := by rw [hs]; rfl
 have f16 : (s.toList == [76, 65, 82, 71, 69]) = false := by rw [hs]; rfl
 have f17 : (s.toList == [76, 69, 70, 84]) = false := by rw [hs]; rfl
 have f18 : (s.toList == [77, 79, 68]) = false := by rw [hs]; rfl
 have f19 : (s.toList == [80, 69, 82, 67, 69, 78, 84, 73, 76, 69]) = false := by rw [hs]; rfl
 have f20 : (s.toList == [80, 79, 87, 69, 82]) = false := by rw [hs]; rfl
 have f21 : (s.toList == [82, 69, 80, 84]) = false := by rw [hs]; rfl
 have f22 : (s.toList == [82, 73, 71, 72, 84]) = false := by rw [hs]; rfl
 have f23 : (s.toList == [82, 79, 85, 78, 68]) = false := by rw [hs]; rfl
 have f24 : (s.toList == [82, 79, 85, 78, 68, 68, 79, 87, 78]) = false := by rw [hs]; rfl
 have f25 : (s.toList == [82, 79, 85, 78, 68, 69, 86, 69, 78]) = false := by rw [hs]; rfl
 have f26 : (s.toList == [82, 79, 85, 78, 68, 85, 80]) = false := by rw [hs]; rfl
 have f27 : (s.toList == [83, 77, 65, 76, 76]) = false := by rw [hs]; rfl
 have f28 : (s.toList == [83, 85, 77, 80, 82, 79, 68, 85, 67, 84]) = false := by rw [hs]; rfl
 have f29 : (s.toList == [84, 69, 88, 84]) = false := by rw [hs]; rfl
 have f30 : (s.toList == [73, 70]) = false := by rw [hs]; rfl
 have f31 : (s.toList == [82, 65, 78, 75]) = false := by rw [hs]; rfl
 have f32 : (s.toList == [67, 79, 85, 78, 84, 73, 70]) = false := by rw [hs]; rfl
 have f33 : (s.toList == [70, 85, 83, 69, 68]) = false := by rw [hs]; rfl
 have f34 : (s.toList == [77, 73, 68]) = false := by rw [hs]; rfl
 have f35 : (s.toList == [65, 78, 68]) = false := by rw [hs]; rfl
 have f36 : (s.toList == [65, 86, 69, 82, 65, 71, 69]) = false := by rw [hs]; rfl
 have f37 : (s.toList == [67, 79, 85, 78, 84]) = false := by rw [hs]; rfl
 have f38 : (s.toList == [67, 79, 85, 78, 84, 65]) = false := by rw [hs]; rfl
 have f39 : (s.toList == [74, 79, 73, 78]) = false := by rw [hs]; rfl
 have f40 : (s.toList == [77, 65, 88]) = false := by rw [hs]; rfl
 have f41 : (s.toList == [77, 69, 68, 73, 65, 78]) = false := by rw [hs]; rfl
 have f42 : (s.toList == [77, 73, 78]) = false := by rw [hs]; rfl
 have f43 : (s.toList == [77, 79, 68, 69]) = false := by rw [hs]; rfl
 have f44 : (s.toList == [79, 82]) = false := by rw [hs]; rfl
 have f45 : (s.toList == [83, 84, 68, 69, 86]) = false := by rw [hs]; rfl
 have f46 : (s.toList == [83, 84, 68, 69, 86, 80]) = true := by rw [hs]; rfl
 clear hs
 go_enter Tryz.func175, Tryz.ntmps175
 go_wp2_with fail
 (try simp only [Exit.inBlock, Exit.then])
 refine bodyPost_ret (results_cell_row rfl _ _ w.heap.size _ _ _ _ rfl (heap_alloc_new _ _) Tryz.underlying196 rfl (by kernel_rfl)) rfl ?_
 exact ⟨rfl, (Gr.refl _).alloc _⟩
set_option maxRecDepth 100000 in
set_option maxHeartbeats 4000000 in
theorem takes_47 (s : ByteArray) (w : World) (hs : s.toList = [83, 85, 77]) :
    Calls Tryz.prog 175 #[.string s] w fun e w' => e = .returned (.agg #[.int .i64 1, .int .i64 256]) ∧ Gr w w' := by
 have f0 : (s.toList == [78, 65]) = false := by rw [hs]; rfl
 have f1 : (s.toList == [65, 66, 83]) = false := by rw [hs]; rfl
 have f2 : (s.toList == [73, 78, 84]) = false := by rw [hs]; rfl
 have f3 : (s.toList == [73, 83, 66, 76, 65, 78, 75]) = false := by rw [hs]; rfl
 have f4 : (s.toList == [73, 83, 69, 82, 82, 79, 82]) = false := by rw [hs]; rfl
 have f5 : (s.toList == [73, 83, 78, 85, 77, 66, 69, 82]) = false := by rw [hs]; rfl
 have f6 : (s.toList == [73, 83, 84, 69, 88, 84]) = false := by rw [hs]; rfl
 have f7 : (s.toList == [76, 69, 78]) = false := by rw [hs]; rfl
 have f8 : (s.toList == [78, 79, 84]) = false := by rw [hs]; rfl
 have f9 : (s.toList == [83, 73, 71, 78]) = false := by rw [hs]; rfl
 have f10 : (s.toList == [83, 73, 78, 71, 76, 69]) = false := by rw [hs]; rfl
 have f11 : (s.toList == [83, 81, 82, 84]) = false := by rw [hs]; rfl
 have f12 : (s.toList == [84, 82, 85, 78, 67]) = false := by rw [hs]; rfl
 have f13 : (s.toList == [86, 65, 76, 85, 69]) = false := by rw [hs]; rfl
 have f14 : (s.toList == [69, 88, 65, 67, 84]) = false := by rw [hs]; rfl
 have f15 : (s.toList == [73, 70, 69, 82, 82, 79, 82]) = false := by rw [hs]; rfl
 have f16 : (s.toList == [76, 65, 82, 71, 69]) = false := by rw [hs]; rfl
 have f17 : (s.toList == [76, 69, 70, 84]) = false := by rw [hs]; rfl
 have f18 : (s.toList == [77, 79, 68]) = false := by rw [hs]; rfl
 have f19 : (s.toList == [80, 69, 82, 67, 69, 78, 84, 73, 76, 69]) = false := by rw [hs]; rfl
 have f20 : (s.toList == [80, 79, 87, 69, 82]) = false := by rw [hs]; rfl
 have f21 : (s.toList == [82, 69, 80, 84]) = false := by rw [hs]; rfl
 have f22 : (s.toList == [82, 73, 71, 72, 84]) = false := by rw [hs]; rfl
 have f23 : (s.toList == [82, 79, 85, 78, 68]) = false := by rw [hs]; rfl
 have f24 : (s.toList == [82, 79, 85, 78, 68, 68, 79, 87, 78]) = false := by rw [hs]; rfl
 have f25 : (s.toList == [82, 79, 85, 78, 68, 69, 86, 69, 78]) = false := by rw [hs]; rfl
 have f26 : (s.toList == [82, 79, 85, 78, 68, 85, 80]) = false := by rw [hs]; rfl
 have f27 : (s.toList == [83, 77, 65, 76, 76]) = false := by rw [hs]; rfl
 have f28 : (s.toList == [83, 85, 77, 80, 82, 79, 68, 85, 67, 84]) = false := by rw [hs]; rfl
 have f29 : (s.toList == [84, 69, 88, 84]) = false := by rw [hs]; rfl
 have f30 : (s.toList == [73, 70]) = false := by rw [hs]; rfl
 have f31 : (s.toList == [82, 65, 78, 75]) = false := by rw [hs]; rfl
 have f32 : (s.toList == [67, 79, 85, 78, 84, 73, 70]) = false := by rw [hs]; rfl
 have f33 : (s.toList == [70, 85, 83, 69, 68]) = false := by rw [hs]; rfl
 have f34 : (s.toList == [77, 73, 68]) = false := by rw [hs]; rfl
 have f35 : (s.toList == [65, 78, 68]) = false := by rw [hs]; rfl
 have f36 : (s.toList == [65, 86, 69, 82, 65, 71, 69]) = false := by rw [hs]; rfl
 have f37 : (s.toList == [67, 79, 85, 78, 84]) = false := by rw [hs]; rfl
 have f38 : (s.toList == [67, 79, 85, 78, 84, 65]) = false := by rw [hs]; rfl
 have f39 : (s.toList == [74, 79, 73, 78]) = false := by rw [hs]; rfl
 have f40 : (s.toList == [77, 65, 88]) = false := by rw [hs]; rfl
 have f41 : (s.toList == [77, 69, 68, 73, 65, 78]) = false := by rw [hs]; rfl
 have f42 : (s.toList == [77, 73, 78]) = false := by rw [hs]; rfl
 have f43 : (s.toList == [77, 79, 68, 69]) = false := by rw [hs]; rfl
 have f44 : (s.toList == [79, 82]) = false := by rw [hs]; rfl
 have f45 : (s.toList == [83, 84, 68, 69, 86]) = false := by rw [hs]; rfl
 have f46 : (s.toList == [83, 84, 68, 69, 86, 80]) = false := by rw [hs]; rfl
 have f47 : (s.toList == [83, 85, 77]) = true := by rw [hs]; rfl
 clear hs
 go_enter Tryz.func175, Tryz.ntmps175
 go_wp2_with fail
 (try simp only [Exit.inBlock, Exit.then])
 refine bodyPost_ret (results_cell_row rfl _ _ w.heap.size _ _ _ _ rfl (heap_alloc_new _ _) Tryz.underlying196 rfl (by kernel_rfl)) rfl ?_
 exact ⟨rfl, (Gr.refl _).alloc _⟩
set_option maxRecDepth 100000 in
set_option maxHeartbeats 4000000 in
theorem takes_48 (s : ByteArray) (w : World) (hs : s.toList = [83, 85, 77, 83, 81]) :
    Calls Tryz.prog 175 #[.string s] w fun e w' => e = .returned (.agg #[.int .i64 1, .int .i64 256]) ∧ Gr w w' := by
 have f0 : (s.toList == [78, 65]) = false := by rw [hs]; rfl
 have f1 : (s.toList == [65, 66, 83]) = false := by rw [hs]; rfl
 have f2 : (s.toList == [73, 78, 84]) = false := by rw [hs]; rfl
 have f3 : (s.toList == [73, 83, 66, 76, 65, 78, 75]) = false := by rw [hs]; rfl
 have f4 : (s.toList == [73, 83, 69, 82, 82, 79, 82]) = false := by rw [hs]; rfl
 have f5 : (s.toList == [73, 83, 78, 85, 77, 66, 69, 82]) = false := by rw [hs]; rfl
 have f6 : (s.toList == [73, 83, 84, 69, 88, 84]) = false := by rw [hs]; rfl
 have f7 : (s.toList == [76, 69, 78]) = false := by rw [hs]; rfl
 have f8 : (s.toList == [78, 79, 84]) = false := by rw [hs]; rfl
 have f9 : (s.toList == [83, 73, 71, 78]) = false := by rw [hs]; rfl
 have f10 : (s.toList == [83, 73, 78, 71, 76, 69]) = false := by rw [hs]; rfl
 have f11 : (s.toList == [83, 81, 82, 84]) = false := by rw [hs]; rfl
 have f12 : (s.toList == [84, 82, 85, 78, 67]) = false := by rw [hs]; rfl
 have f13 : (s.toList == [86, 65, 76, 85, 69]) = false := by rw [hs]; rfl
 have f14 : (s.toList == [69, 88, 65, 67, 84]) = false := by rw [hs]; rfl
 have f15 : (s.toList == [73, 70, 69, 82, 82, 79, 82]) = false := by rw [hs]; rfl
 have f16 : (s.toList == [76, 65, 82, 71, 69]) = false := by rw [hs]; rfl
 have f17 : (s.toList == [76, 69, 70, 84]) = false := by rw [hs]; rfl
 have f18 : (s.toList == [77, 79, 68]) = false := by rw [hs]; rfl
 have f19 : (s.toList == [80, 69, 82, 67, 69, 78, 84, 73, 76, 69]) = false := by rw [hs]; rfl
 have f20 : (s.toList == [80, 79, 87, 69, 82]) = false := by rw [hs]; rfl
 have f21 : (s.toList == [82, 69, 80, 84]) = false := by rw [hs]; rfl
 have f22 : (s.toList == [82, 73, 71, 72, 84]) = false := by rw [hs]; rfl
 have f23 : (s.toList == [82, 79, 85, 78, 68]) = false := by rw [hs]; rfl
 have f24 : (s.toList == [82, 79, 85, 78, 68, 68, 79, 87, 78]) = false := by rw [hs]; rfl
 have f25 : (s.toList == [82, 79, 85, 78, 68, 69, 86, 69, 78]) = false := by rw [hs]; rfl
 have f26 : (s.toList == [82, 79, 85, 78, 68, 85, 80]) = false := by rw [hs]; rfl
 have f27 : (s.toList == [83, 77, 65, 76, 76]) = false := by rw [hs]; rfl
 have f28 : (s.toList == [83, 85, 77, 80, 82, 79, 68, 85, 67, 84]) = false := by rw [hs]; rfl
 have f29 : (s.toList == [84, 69, 88, 84]) = false := by rw [hs]; rfl
 have f30 : (s.toList == [73, 70]) = false := by rw [hs]; rfl
 have f31 : (s.toList == [82, 65, 78, 75]) = false := by rw [hs]; rfl
 have f32 : (s.toList == [67, 79, 85, 78, 84, 73, 70]) = false := by rw [hs]; rfl
 have f33 : (s.toList == [70, 85, 83, 69, 68]) = false := by rw [hs]; rfl
 have f34 : (s.toList == [77, 73, 68]) = false := by rw [hs]; rfl
 have f35 : (s.toList == [65, 78, 68]) = false := by rw [hs]; rfl
 have f36 : (s.toList == [65, 86, 69, 82, 65, 71, 69]) = false := by rw [hs]; rfl
 have f37 : (s.toList == [67, 79, 85, 78, 84]) = false := by rw [hs]; rfl
 have f38 : (s.toList == [67, 79, 85, 78, 84, 65]) = false := by rw [hs]; rfl
 have f39 : (s.toList == [74, 79, 73, 78]) = false := by rw [hs]; rfl
 have f40 : (s.toList == [77, 65, 88]) = false := by rw [hs]; rfl
 have f41 : (s.toList == [77, 69, 68, 73, 65, 78]) = false := by rw [hs]; rfl
 have f42 : (s.toList == [77, 73, 78]) = false := by rw [hs]; rfl
 have f43 : (s.toList == [77, 79, 68, 69]) = false := by rw [hs]; rfl
 have f44 : (s.toList == [79, 82]) = false := by rw [hs]; rfl
 have f45 : (s.toList == [83, 84, 68, 69, 86]) = false := by rw [hs]; rfl
 have f46 : (s.toList == [83, 84, 68, 69, 86, 80]) = false := by rw [hs]; rfl
 have f47 : (s.toList == [83, 85, 77]) = false := by rw [hs]; rfl
 have f48 : (s.toList == [83, 85, 77, 83, 81]) = true := by rw [hs]; rfl
 clear hs
 go_enter Tryz.func175, Tryz.ntmps175
 go_wp2_with fail
 (try simp only [Exit.inBlock, Exit.then])
 refine bodyPost_ret (results_cell_row rfl _ _ w.heap.size _ _ _ _ rfl (heap_alloc_new _ _) Tryz.underlying196 rfl (by kernel_rfl)) rfl ?_
 exact ⟨rfl, (Gr.refl _).alloc _⟩
set_option maxRecDepth 100000 in
set_option maxHeartbeats 4000000 in
theorem takes_49 (s : ByteArray) (w : World) (hs : s.toList = [86, 65, 82]) :
    Calls Tryz.prog 175 #[.string s] w fun e w' => e = .returned (.agg #[.int .i64 1, .int .i64 256]) ∧ Gr w w' := by
 have f0 : (s.toList == [78, 65]) = false := by rw [hs]; rfl
 have f1 : (s.toList == [65, 66, 83]) = false := by rw [hs]; rfl
 have f2 : (s.toList == [73, 78, 84]) = false := by rw [hs]; rfl
 have f3 : (s.toList == [73, 83, 66, 76, 65, 78, 75]) = false := by rw [hs]; rfl
 have f4 : (s.toList == [73, 83, 69, 82, 82, 79, 82]) = false := by rw [hs]; rfl
 have f5 : (s.toList == [73, 83, 78, 85, 77, 66, 69, 82]) = false := by rw [hs]; rfl
 have f6 : (s.toList == [73, 83, 84, 69, 88, 84]) = false := by rw [hs]; rfl
 have f7 : (s.toList == [76, 69, 78]) = false := by rw [hs]; rfl
 have f8 : (s.toList == [78, 79, 84]) = false := by rw [hs]; rfl
 have f9 : (s.toList == [83, 73, 71, 78]) = false := by rw [hs]; rfl
 have f10 : (s.toList == [83, 73, 78, 71, 76, 69]) = false := by rw [hs]; rfl
 have f11 : (s.toList == [83, 81, 82, 84]) = false := by rw [hs]; rfl
 have f12 : (s.toList == [84, 82, 85, 78, 67]) = false := by rw [hs]; rfl
 have f13 : (s.toList == [86, 65, 76, 85, 69]) = false := by rw [hs]; rfl
 have f14 : (s.toList == [69, 88, 65, 67, 84]) = false := by rw [hs]; rfl
 have f15 : (s.toList == [73, 70, 69, 82, 82, 79, 82]) = false := by rw [hs]; rfl
 have f16 : (s.toList == [76, 65, 82, 71, 69]) = false := by rw [hs]; rfl
 have f17 : (s.toList == [76, 69, 70, 84]) = false := by rw [hs]; rfl
 have f18 : (s.toList == [77, 79, 68]) = false := by rw [hs]; rfl
 have f19 : (s.toList == [80, 69, 82, 67, 69, 78, 84, 73, 76, 69]) = false := by rw [hs]; rfl
 have f20 : (s.toList == [80, 79, 87, 69, 82]) = false := by rw [hs]; rfl
 have f21 : (s.toList == [82, 69, 80, 84]) = false := by rw [hs]; rfl
 have f22 : (s.toList == [82, 73, 71, 72, 84]) = false := by rw [hs]; rfl
 have f23 : (s.toList == [82, 79, 85, 78, 68]) = false := by rw [hs]; rfl
 have f24 : (s.toList == [82, 79, 85, 78, 68, 68, 79, 87, 78]) = false := by rw [hs]; rfl
 have f25 : (s.toList == [82, 79, 85, 78, 68, 69, 86, 69, 78]) = false := by rw [hs]; rfl
 have f26 : (s.toList == [82, 79, 85, 78, 68, 85, 80]) = false := by rw [hs]; rfl
 have f27 : (s.toList == [83, 77, 65, 76, 76]) = false := by rw [hs]; rfl
 have f28 : (s.toList == [83, 85, 77, 80, 82, 79, 68, 85, 67, 84]) = false := by rw [hs]; rfl
 have f29 : (s.toList == [84, 69, 88, 84]) = false := by rw [hs]; rfl
 have f30 : (s.toList == [73, 70]) = false := by rw [hs]; rfl
 have f31 : (s.toList == [82, 65, 78, 75]) = false := by rw [hs]; rfl
 have f32 : (s.toList == [67, 79, 85, 78, 84, 73, 70]) = false := by rw [hs]; rfl
 have f33 : (s.toList == [70, 85, 83, 69, 68]) = false := by rw [hs]; rfl
 have f34 : (s.toList == [77, 73, 68]) = false := by rw [hs]; rfl
 have f35 : (s.toList == [65, 78, 68]) = false := by rw [hs]; rfl
 have f36 : (s.toList == [65, 86, 69, 82, 65, 71, 69]) = false := by rw [hs]; rfl
 have f37 : (s.toList == [67, 79, 85, 78, 84]) = false := by rw [hs]; rfl
 have f38 : (s.toList == [67, 79, 85, 78, 84, 65]) = false := by rw [hs]; rfl
 have f39 : (s.toList == [74, 79, 73, 78]) = false := by rw [hs]; rfl
 have f40 : (s.toList == [77, 65, 88]) = false := by rw [hs]; rfl
 have f41 : (s.toList == [77, 69, 68, 73, 65, 78]) = false := by rw [hs]; rfl
 have f42 : (s.toList == [77, 73, 78]) = false := by rw [hs]; rfl
 have f43 : (s.toList == [77, 79, 68, 69]) = false := by rw [hs]; rfl
 have f44 : (s.toList == [79, 82]) = false := by rw [hs]; rfl
 have f45 : (s.toList == [83, 84, 68, 69, 86]) = false := by rw [hs]; rfl
 have f46 : (s.toList == [83, 84, 68, 69, 86, 80]) = false := by rw [hs]; rfl
 have f47 : (s.toList == [83, 85, 77]) = false := by rw [hs]; rfl
 have f48 : (s.toList == [83, 85, 77, 83, 81]) = false := by rw [hs]; rfl
 have f49 : (s.toList == [86, 65, 82]) = true := by rw [hs]; rfl
 clear hs
 go_enter Tryz.func175, Tryz.ntmps175
 go_wp2_with fail
 (try simp only [Exit.inBlock, Exit.then])
 refine bodyPost_ret (results_cell_row rfl _ _ w.heap.size _ _ _ _ rfl (heap_alloc_new _ _) Tryz.underlying196 rfl (by kernel_rfl)) rfl ?_
 exact ⟨rfl, (Gr.refl _).alloc _⟩
set_option maxRecDepth 100000 in
set_option maxHeartbeats 4000000 in
theorem takes_50 (s : ByteArray) (w : World) (hs : s.toList = [86, 65, 82, 80]) :
    Calls Tryz.prog 175 #[.string s] w fun e w' => e = .returned (.agg #[.int .i64 1, .int .i64 256]) ∧ Gr w w' := by
 have f0 : (s.toList == [78, 65]) = false := by rw [hs]; rfl
 have f1 : (s.toList == [65, 66, 83]) = false := by rw [hs]; rfl
 have f2 : (s.toList == [73, 78, 84]) = false := by rw [hs]; rfl
 have f3 : (s.toList == [73, 83, 66, 76, 65, 78, 75]) = false := by rw [hs]; rfl
 have f4 : (s.toList == [73, 83, 69, 82, 82, 79, 82]) = false := by rw [hs]; rfl
 have f5 : (s.toList == [73, 83, 78, 85, 77, 66, 69, 82]) = false := by rw [hs]; rfl
 have f6 : (s.toList == [73, 83, 84, 69, 88, 84]) = false := by rw [hs]; rfl
 have f7 : (s.toList == [76, 69, 78]) = false := by rw [hs]; rfl
 have f8 : (s.toList == [78, 79, 84]) = false := by rw [hs]; rfl
 have f9 : (s.toList == [83, 73, 71, 78]) = false := by rw [hs]; rfl
 have f10 : (s.toList == [83, 73, 78, 71, 76, 69]) = false := by rw [hs]; rfl
 have f11 : (s.toList == [83, 81, 82, 84]) = false := by rw [hs]; rfl
 have f12 : (s.toList == [84, 82, 85, 78, 67]) = false := by rw [hs]; rfl
 have f13 : (s.toList == [86, 65, 76, 85, 69]) = false := by rw [hs]; rfl
 have f14 : (s.toList == [69, 88, 65, 67, 84]) = false := by rw [hs]; rfl
 have f15 : (s.toList == [73, 70, 69, 82, 82, 79, 82]) = false := by rw [hs]; rfl
 have f16 : (s.toList == [76, 65, 82, 71, 69]) = false := by rw [hs]; rfl
 have f17 : (s.toList == [76, 69, 70, 84]) = false := by rw [hs]; rfl
 have f18 : (s.toList == [77, 79, 68]) = false := by rw [hs]; rfl
 have f19 : (s.toList == [80, 69, 82, 67, 69, 78, 84, 73, 76, 69]) = false := by rw [hs]; rfl
 have f20 : (s.toList == [80, 79, 87, 69, 82]) = false := by rw [hs]; rfl
 have f21 : (s.toList == [82, 69, 80, 84]) = false := by rw [hs]; rfl
 have f22 : (s.toList == [82, 73, 71, 72, 84]) = false := by rw [hs]; rfl
 have f23 : (s.toList == [82, 79, 85, 78, 68]) = false := by rw [hs]; rfl
 have f24 : (s.toList == [82, 79, 85, 78, 68, 68, 79, 87, 78]) = false := by rw [hs]; rfl
 have f25 : (s.toList == [82, 79, 85, 78, 68, 69, 86, 69, 78]) = false := by rw [hs]; rfl
 have f26 : (s.toList == [82, 79, 85, 78, 68, 85, 80]) = false := by rw [hs]; rfl
 have f27 : (s.toList == [83, 77, 65, 76, 76]) = false := by rw [hs]; rfl
 have f28 : (s.toList == [83, 85, 77, 80, 82, 79, 68, 85, 67, 84]) = false := by rw [hs]; rfl
 have f29 : (s.toList == [84, 69, 88, 84]) = false := by rw [hs]; rfl
 have f30 : (s.toList == [73, 70]) = false := by rw [hs]; rfl
 have f31 : (s.toList == [82, 65, 78, 75]) = false := by rw [hs]; rfl
 have f32 : (s.toList == [67, 79, 85, 78, 84, 73, 70]) = false := by rw [hs]; rfl
 have f33 : (s.toList == [70, 85, 83, 69, 68]) = false := by rw [hs]; rfl
 have f34 : (s.toList == [77, 73, 68]) = false := by rw [hs]; rfl
 have f35 : (s.toList == [65, 78, 68]) = false := by rw [hs]; rfl
 have f36 : (s.toList == [65, 86, 69, 82, 65, 71, 69]) = false := by rw [hs]; rfl
 have f37 : (s.toList == [67, 79, 85, 78, 84]) = false := by rw [hs]; rfl
 have f38 : (s.toList == [67, 79, 85, 78, 84, 65]) = false := by rw [hs]; rfl
 have f39 : (s.toList == [74, 79, 73, 78]) = false := by rw [hs]; rfl
 have f40 : (s.toList == [77, 65, 88]) = false := by rw [hs]; rfl
 have f41 : (s.toList == [77, 69, 68, 73, 65, 78]) = false := by rw [hs]; rfl
 have f42 : (s.toList == [77, 73, 78]) = false := by rw [hs]; rfl
 have f43 : (s.toList == [77, 79, 68, 69]) = false := by rw [hs]; rfl
 have f44 : (s.toList == [79, 82]) = false := by rw [hs]; rfl
 have f45 : (s.toList == [83, 84, 68, 69, 86]) = false := by rw [hs]; rfl
 have f46 : (s.toList == [83, 84, 68, 69, 86, 80]) = false := by rw [hs]; rfl
 have f47 : (s.toList == [83, 85, 77]) = false := by rw [hs]; rfl
 have f48 : (s.toList == [83, 85, 77, 83, 81]) = false := by rw [hs]; rfl
 have f49 : (s.toList == [86, 65, 82]) = false := by rw [hs]; rfl
 have f50 : (s.toList == [86, 65, 82, 80]) = true := by rw [hs]; rfl
 clear hs
 go_enter Tryz.func175, Tryz.ntmps175
 go_wp2_with fail
 (try simp only [Exit.inBlock, Exit.then])
 refine bodyPost_ret (results_cell_row rfl _ _ w.heap.size _ _ _ _ rfl (heap_alloc_new _ _) Tryz.underlying196 rfl (by kernel_rfl)) rfl ?_
 exact ⟨rfl, (Gr.refl _).alloc _⟩
set_option maxRecDepth 100000 in
set_option maxHeartbeats 4000000 in
theorem takes_51 (s : ByteArray) (w : World) (hs : s.toList = [67, 72, 79, 79, 83, 69]) :
    Calls Tryz.prog 175 #[.string s] w fun e w' => e = .returned (.agg #[.int .i64 2, .int .i64 256]) ∧ Gr w w' := by
 have f0 : (s.toList == [78, 65]) = false := by rw [hs]; rfl
 have f1 : (s.toList == [65, 66, 83]) = false := by rw [hs]; rfl
 have f2 : (s.toList == [73, 78, 84]) = false := by rw [hs]; rfl
 have f3 : (s.toList == [73, 83, 66, 76, 65, 78, 75]) = false := by rw [hs]; rfl
 have f4 : (s.toList == [73, 83, 69, 82, 82, 79, 82]) = false := by rw [hs]; rfl
 have f5 : (s.toList == [73, 83, 78, 85, 77, 66, 69, 82]) = false := by rw [hs]; rfl
 have f6 : (s.toList == [73, 83, 84, 69, 88, 84]) = false := by rw [hs]; rfl
 have f7 : (s.toList == [76, 69, 78]) = false := by rw [hs]; rfl
 have f8 : (s.toList == [78, 79, 84]) = false := by rw [hs]; rfl
 have f9 : (s.toList == [83, 73, 71, 78]) = false := by rw [hs]; rfl
 have f10 : (s.toList == [83, 73, 78, 71, 76, 69]) = false := by rw [hs]; rfl
 have f11 : (s.toList == [83, 81, 82, 84]) = false := by rw [hs]; rfl
 have f12 : (s.toList == [84, 82, 85, 78, 67]) = false := by rw [hs]; rfl
 have f13 : (s.toList == [86, 65, 76, 85, 69]) = false := by rw [hs]; rfl
 have f14 : (s.toList == [69, 88, 65, 67, 84]) = false := by rw [hs]; rfl
 have f15 : (s.toList == [73, 70, 69, 82, 82, 79, 82]) = false := by rw [hs]; rfl
 have f16 : (s.toList == [76, 65, 82, 71, 69]) = false := by rw [hs]; rfl
 have f17 : (s.toList == [76, 69, 70, 84]) = false := by rw [hs]; rfl
 have f18 : (s.toList == [77, 79, 68]) = false := by rw [hs]; rfl
 have f19 : (s.toList == [80, 69, 82, 67, 69, 78, 84, 73, 76, 69]) = false := by rw [hs]; rfl
 have f20 : (s.toList == [80, 79, 87, 69, 82]) = false := by rw [hs]; rfl
 have f21 : (s.toList == [82, 69, 80, 84]) = false := by rw [hs]; rfl
 have f22 : (s.toList == [82, 73, 71, 72, 84]) = false := by rw [hs]; rfl
 have f23 : (s.toList == [82, 79, 85, 78, 68]) = false := by rw [hs]; rfl
 have f24 : (s.toList == [82, 79, 85, 78, 68, 68, 79, 87, 78]) = false := by rw [hs]; rfl
 have f25 : (s.toList == [82, 79, 85, 78, 68, 69, 86, 69, 78]) = false := by rw [hs]; rfl
 have f26 : (s.toList == [82, 79, 85, 78, 68, 85, 80]) = false := by rw [hs]; rfl
 have f27 : (s.toList == [83, 77, 65, 76, 76]) = false := by rw [hs]; rfl
 have f28 : (s.toList == [83, 85, 77, 80, 82, 79, 68, 85, 67, 84]) = false := by rw [hs]; rfl
 have f29 : (s.toList == [84, 69, 88, 84]) = false := by rw [hs]; rfl
 have f30 : (s.toList == [73, 70]) = false := by rw [hs]; rfl
 have f31 : (s.toList == [82, 65, 78, 75]) = false := by rw [hs]; rfl
 have f32 : (s.toList == [67, 79, 85, 78, 84, 73, 70]) = false := by rw [hs]; rfl
 have f33 : (s.toList == [70, 85, 83, 69, 68]) = false := by rw [hs]; rfl
 have f34 : (s.toList == [77, 73, 68]) = false := by rw [hs]; rfl
 have f35 : (s.toList == [65, 78, 68]) = false := by rw [hs]; rfl
 have f36 : (s.toList == [65, 86, 69, 82, 65, 71, 69]) = false := by rw [hs]; rfl
 have f37 : (s.toList == [67, 79, 85, 78, 84]) = false := by rw [hs]; rfl
 have f38 : (s.toList == [67, 79, 85, 78, 84, 65]) = false := by rw [hs]; rfl
 have f39 : (s.toList == [74, 79, 73, 78]) = false := by rw [hs]; rfl
 have f40 : (s.toList == [77, 65, 88]) = false := by rw [hs]; rfl
 have f41 : (s.toList == [77, 69, 68, 73, 65, 78]) = false := by rw [hs]; rfl
 have f42 : (s.toList == [77, 73, 78]) = false := by rw [hs]; rfl
 have f43 : (s.toList == [77, 79, 68, 69]) = false := by rw [hs]; rfl
 have f44 : (s.toList == [79, 82]) = false := by rw [hs]; rfl
 have f45 : (s.toList == [83, 84, 68, 69, 86]) = false := by rw [hs]; rfl
 have f46 : (s.toList == [83, 84, 68, 69, 86, 80]) = false := by rw [hs]; rfl
 have f47 : (s.toList == [83, 85, 77]) = false := by rw [hs]; rfl
 have f48 : (s.toList == [83, 85, 77, 83, 81]) = false := by rw [hs]; rfl
 have f49 : (s.toList == [86, 65, 82]) = false := by rw [hs]; rfl
 have f50 : (s.toList == [86, 65, 82, 80]) = false := by rw [hs]; rfl
 have f51 : (s.toList == [67, 72, 79, 79, 83, 69]) = true := by rw [hs]; rfl
 clear hs
 go_enter Tryz.func175, Tryz.ntmps175
 go_wp2_with fail
 (try simp only [Exit.inBlock, Exit.then])
 refine bodyPost_ret (results_cell_row rfl _ _ w.heap.size _ _ _ _ rfl (heap_alloc_new _ _) Tryz.underlying196 rfl (by kernel_rfl)) rfl ?_
 exact ⟨rfl, (Gr.refl _).alloc _⟩
set_option maxRecDepth 100000 in
set_option maxHeartbeats 4000000 in
theorem takes_none (s : ByteArray) (w : World) (f0 : (s.toList == [78, 65]) = false) (f1 : (s.toList == [65, 66, 83]) = false) (f2 : (s.toList == [73, 78, 84]) = false) (f3 : (s.toList == [73, 83, 66, 76, 65, 78, 75]) = false) (f4 : (s.toList == [73, 83, 69, 82, 82, 79, 82]) = false) (f5 : (s.toList == [73, 83, 78, 85, 77, 66, 69, 82]) = false) (f6 : (s.toList == [73, 83, 84, 69, 88, 84]) = false) (f7 : (s.toList == [76, 69, 78]) = false) (f8 : (s.toList == [78, 79, 84]) = false) (f9 : (s.toList == [83, 73, 71, 78]) = false) (f10 : (s.toList == [83, 73, 78, 71, 76, 69]) = false) (f11 : (s.toList == [83, 81, 82, 84]) = false) (f12 : (s.toList == [84, 82, 85, 78, 67]) = false) (f13 : (s.toList == [86, 65, 76, 85, 69]) = false) (f14 : (s.toList == [69, 88, 65, 67, 84]) = false) (f15 : (s.toList == [73, 70, 69, 82, 82, 79, 82]) = false) (f16 : (s.toList == [76, 65, 82, 71, 69]) = false) (f17 : (s.toList == [76, 69, 70, 84]) = false) (f18 : (s.toList == [77, 79, 68]) = false) (f19 : (s.toList == [80, 69, 82, 67, 69, 78, 84, 73, 76, 69]) = false) (f20 : (s.toList == [80, 79, 87, 69, 82]) = false) (f21 : (s.toList == [82, 69, 80, 84]) = false) (f22 : (s.toList == [82, 73, 71, 72, 84]) = false) (f23 : (s.toList == [82, 79, 85, 78, 68]) = false) (f24 : (s.toList == [82, 79, 85, 78, 68, 68, 79, 87, 78]) = false) (f25 : (s.toList == [82, 79, 85, 78, 68, 69, 86, 69, 78]) = false) (f26 : (s.toList == [82, 79, 85, 78, 68, 85, 80]) = false) (f27 : (s.toList == [83, 77, 65, 76, 76]) = false) (f28 : (s.toList == [83, 85, 77, 80, 82, 79, 68, 85, 67, 84]) = false) (f29 : (s.toList == [84, 69, 88, 84]) = false) (f30 : (s.toList == [73, 70]) = false) (f31 : (s.toList == [82, 65, 78, 75]) = false) (f32 : (s.toList == [67, 79, 85, 78, 84, 73, 70]) = false) (f33 : (s.toList == [70, 85, 83, 69, 68]) = false) (f34 : (s.toList == [77, 73, 68]) = false) (f35 : (s.toList == [65, 78, 68]) = false) (f36 : (s.toList == [65, 86, 69, 82, 65, 71, 69]) = false) (f37 : (s.toList == [67, 79, 85, 78, 84]) = false) (f38 : (s.toList == [67, 79, 85, 78, 84, 65]) = false) (f39 : (s.toList == [74, 79, 73, 78]) = false) (f40 : (s.toList == [77, 65, 88]) = false) (f41 : (s.toList == [77, 69, 68, 73, 65, 78]) = false) (f42 : (s.toList == [77, 73, 78]) = false) (f43 : (s.toList == [77, 79, 68, 69]) = false) (f44 : (s.toList == [79, 82]) = false) (f45 : (s.toList == [83, 84, 68, 69, 86]) = false) (f46 : (s.toList == [83, 84, 68, 69, 86, 80]) = false) (f47 : (s.toList == [83, 85, 77]) = false) (f48 : (s.toList == [83, 85, 77, 83, 81]) = false) (f49 : (s.toList == [86, 65, 82]) = false) (f50 : (s.toList == [86, 65, 82, 80]) = false) (f51 : (s.toList == [67, 72, 79, 79, 83, 69]) = false)  :
    Calls Tryz.prog 175 #[.string s] w fun e w' => e = .returned (.agg #[.int .i64 (-1), .int .i64 (-1)]) ∧ Gr w w' := by
 go_enter Tryz.func175, Tryz.ntmps175
 go_wp2_with fail
 (try simp only [Exit.inBlock, Exit.then])
 refine bodyPost_ret (results_cell_row rfl _ _ w.heap.size _ _ _ _ rfl (heap_alloc_new _ _) Tryz.underlying196 rfl (by kernel_rfl)) rfl ?_
 exact ⟨rfl, (Gr.refl _).alloc _⟩
end Go.Proofs.YtdoeejhdenifpaaGreatDoor
