import Derived.Test.YtdoeejhdenifpaaGreatDoorW8
import Derived.Test.YtdoeejhdenifpaaGreatDoorW9
import Derived.Laws.Rows
import Derived.Test.YtdoeejhdenifpaaGreatDoorA1
import Derived.Test.YtdoeejhdenifpaaGreatDoorProg
import Derived.Shelf.Unicode.ValidAny
namespace Go.Proofs.YtdoeejhdenifpaaGreatDoor
open Go.RowKit Go.Sort
def takesF (s : List UInt8) : Int × Int :=
 if s = [78, 65] then (0, 0) else
 if s = [65, 66, 83] then (1, 1) else
 if s = [73, 78, 84] then (1, 1) else
 if s = [73, 83, 66, 76, 65, 78, 75] then (1, 1) else
 if s = [73, 83, 69, 82, 82, 79, 82] then (1, 1) else
 if s = [73, 83, 78, 85, 77, 66, 69, 82] then (1, 1) else
 if s = [73, 83, 84, 69, 88, 84] then (1, 1) else
 if s = [76, 69, 78] then (1, 1) else
 if s = [78, 79, 84] then (1, 1) else
 if s = [83, 73, 71, 78] then (1, 1) else
 if s = [83, 73, 78, 71, 76, 69] then (1, 1) else
 if s = [83, 81, 82, 84] then (1, 1) else
 if s = [84, 82, 85, 78, 67] then (1, 1) else
 if s = [86, 65, 76, 85, 69] then (1, 1) else
 if s = [69, 88, 65, 67, 84] then (2, 2) else
 if s = [73, 70, 69, 82, 82, 79, 82] then (2, 2) else
 if s = [76, 65, 82, 71, 69] then (2, 2) else
 if s = [76, 69, 70, 84] then (2, 2) else
 if s = [77, 79, 68] then (2, 2) else
 if s = [80, 69, 82, 67, 69, 78, 84, 73, 76, 69] then (2, 2) else
 if s = [80, 79, 87, 69, 82] then (2, 2) else
 if s = [82, 69, 80, 84] then (2, 2) else
 if s = [82, 73, 71, 72, 84] then (2, 2) else
 if s = [82, 79, 85, 78, 68] then (2, 2) else
 if s = [82, 79, 85, 78, 68, 68, 79, 87, 78] then (2, 2) else
 if s = [82, 79, 85, 78, 68, 69, 86, 69, 78] then (2, 2) else
 if s = [82, 79, 85, 78, 68, 85, 80] then (2, 2) else
 if s = [83, 77, 65, 76, 76] then (2, 2) else
 if s = [83, 85, 77, 80, 82, 79, 68, 85, 67, 84] then (2, 2) else
 if s = [84, 69, 88, 84] then (2, 2) else
 if s = [73, 70] then (2, 3) else
 if s = [82, 65, 78, 75] then (2, 3) else
 if s = [67, 79, 85, 78, 84, 73, 70] then (3, 3) else
 if s = [70, 85, 83, 69, 68] then (3, 3) else
 if s = [77, 73, 68] then (3, 3) else
 if s = [65, 78, 68] then (1, 256) else
 if s = [65, 86, 69, 82, 65, 71, 69] then (1, 256) else
 if s = [67, 79, 85, 78, 84] then (1, 256) else
 if s = [67, 79, 85, 78, 84, 65] then (1, 256) else
 if s = [74, 79, 73, 78] then (1, 256) else
 if s = [77, 65, 88] then (1, 256) else
 if s = [77, 69, 68, 73, 65, 78] then (1, 256) else
 if s = [77, 73, 78] then (1, 256) else
 if s = [77, 79, 68, 69] then (1, 256) else
 if s = [79, 82] then (1, 256) else
 if s = [83, 84, 68, 69, 86] then (1, 256) else
 if s = [83, 84, 68, 69, 86, 80] then (1, 256) else
 if s = [83, 85, 77] then (1, 256) else
 if s = [83, 85, 77, 83, 81] then (1, 256) else
 if s = [86, 65, 82] then (1, 256) else
 if s = [86, 65, 82, 80] then (1, 256) else
 if s = [67, 72, 79, 79, 83, 69] then (2, 256) else
 (-1, -1)
set_option maxRecDepth 100000 in
set_option maxHeartbeats 4000000 in
theorem takes_any (s : ByteArray) (w : World) : Calls Tryz.prog 175 #[.string s] w fun e w' => e = .returned (.agg #[.int .i64 (takesF s.toList).1, .int .i64 (takesF s.toList).2]) ∧ Gr w w' := by
 by_cases h0 : s.toList = [78, 65]
 · have e : takesF s.toList = (0, 0) := by rw [h0]; rfl
   rw [e]; exact takes_0 s w h0
 by_cases h1 : s.toList = [65, 66, 83]
 · have e : takesF s.toList = (1, 1) := by rw [h1]; rfl
   rw [e]; exact takes_1 s w h1
 by_cases h2 : s.toList = [73, 78, 84]
 · have e : takesF s.toList = (1, 1) := by rw [h2]; rfl
   rw [e]; exact takes_2 s w h2
 by_cases h3 : s.toList = [73, 83, 66, 76, 65, 78, 75]
 · have e : takesF s.toList = (1, 1) := by rw [h3]; rfl
   rw [e]; exact takes_3 s w h3
 by_cases h4 : s.toList = [73, 83, 69, 82, 82, 79, 82]
 · have e : takesF s.toList = (1, 1) := by rw [h4]; rfl
   rw [e]; exact takes_4 s w h4
 by_cases h5 : s.toList = [73, 83, 78, 85, 77, 66, 69, 82]
 · have e : takesF s.toList = (1, 1) := by rw [h5]; rfl
   rw [e]; exact takes_5 s w h5
 by_cases h6 : s.toList = [73, 83, 84, 69, 88, 84]
 · have e : takesF s.toList = (1, 1) := by rw [h6]; rfl
   rw [e]; exact takes_6 s w h6
 by_cases h7 : s.toList = [76, 69, 78]
 · have e : takesF s.toList = (1, 1) := by rw [h7]; rfl
   rw [e]; exact takes_7 s w h7
 by_cases h8 : s.toList = [78, 79, 84]
 · have e : takesF s.toList = (1, 1) := by rw [h8]; rfl
   rw [e]; exact takes_8 s w h8
 by_cases h9 : s.toList = [83, 73, 71, 78]
 · have e : takesF s.toList = (1, 1) := by rw [h9]; rfl
   rw [e]; exact takes_9 s w h9
 by_cases h10 : s.toList = [83, 73, 78, 71, 76, 69]
 · have e : takesF s.toList = (1, 1) := by rw [h10]; rfl
   rw [e]; exact takes_10 s w h10
 by_cases h11 : s.toList = [83, 81, 82, 84]
 · have e : takesF s.toList = (1, 1) := by rw [h11]; rfl
   rw [e]; exact takes_11 s w h11
 by_cases h12 : s.toList = [84, 82, 85, 78, 67]
 · have e : takesF s.toList = (1, 1) := by rw [h12]; rfl
   rw [e]; exact takes_12 s w h12
 by_cases h13 : s.toList = [86, 65, 76, 85, 69]
 · have e : takesF s.toList = (1, 1) := by rw [h13]; rfl
   rw [e]; exact takes_13 s w h13
 by_cases h14 : s.toList = [69, 88, 65, 67, 84]
 · have e : takesF s.toList = (2, 2) := by rw [h14]; rfl
   rw [e]; exact takes_14 s w h14
 by_cases h15 : s.toList = [73, 70, 69, 82, 82, 79, 82]
 · have e : takesF s.toList = (2, 2) := by rw [h15]; rfl
   rw [e]; exact takes_15 s w h15
 by_cases h16 : s.toList = [76, 65, 82, 71, 69]
 · have e : takesF s.toList = (2, 2) := by rw [h16]; rfl
   rw [e]; exact takes_16 s w h16
 by_cases h17 : s.toList = [76, 69, 70, 84]
 · have e : takesF s.toList = (2, 2) := by rw [h17]; rfl
   rw [e]; exact takes_17 s w h17
 by_cases h18 : s.toList = [77, 79, 68]
 · have e : takesF s.toList = (2, 2) := by rw [h18]; rfl
   rw [e]; exact takes_18 s w h18
 by_cases h19 : s.toList = [80, 69, 82, 67, 69, 78, 84, 73, 76, 69]
 · have e : takesF s.toList = (2, 2) := by rw [h19]; rfl
   rw [e]; exact takes_19 s w h19
 by_cases h20 : s.toList = [80, 79, 87, 69, 82]
 · have e : takesF s.toList = (2, 2) := by rw [h20]; rfl
   rw [e]; exact takes_20 s w h20
 by_cases h21 : s.toList = [82, 69, 80, 84]
 · have e : takesF s.toList = (2, 2) := by rw [h21]; rfl
   rw [e]; exact takes_21 s w h21
 by_cases h22 : s.toList = [82, 73, 71, 72, 84]
 · have e : takesF s.toList = (2, 2) := by rw [h22]; rfl
   rw [e]; exact takes_22 s w h22
 by_cases h23 : s.toList = [82, 79, 85, 78, 68]
 · have e : takesF s.toList = (2, 2) := by rw [h23]; rfl
   rw [e]; exact takes_23 s w h23
 by_cases h24 : s.toList = [82, 79, 85, 78, 68, 68, 79, 87, 78]
 · have e : takesF s.toList = (2, 2) := by rw [h24]; rfl
   rw [e]; exact takes_24 s w h24
 by_cases h25 : s.toList = [82, 79, 85, 78, 68, 69, 86, 69, 78]
 · have e : takesF s.toList = (2, 2) := by rw [h25]; rfl
   rw [e]; exact takes_25 s w h25
 by_cases h26 : s.toList = [82, 79, 85, 78, 68, 85, 80]
 · have e : takesF s.toList = (2, 2) := by rw [h26]; rfl
   rw [e]; exact takes_26 s w h26
 by_cases h27 : s.toList = [83, 77, 65, 76, 76]
 · have e : takesF s.toList = (2, 2) := by rw [h27]; rfl
   rw [e]; exact takes_27 s w h27
 by_cases h28 : s.toList = [83, 85, 77, 80, 82, 79, 68, 85, 67, 84]
 · have e : takesF s.toList = (2, 2) := by rw [h28]; rfl
   rw [e]; exact takes_28 s w h28
 by_cases h29 : s.toList = [84, 69, 88, 84]
 · have e : takesF s.toList = (2, 2) := by rw [h29]; rfl
   rw [e]; exact takes_29 s w h29
 by_cases h30 : s.toList = [73, 70]
 · have e : takesF s.toList = (2, 3) := by rw [h30]; rfl
   rw [e]; exact takes_30 s w h30
 by_cases h31 : s.toList = [82, 65, 78, 75]
 · have e : takesF s.toList = (2, 3) := by rw [h31]; rfl
   rw [e]; exact takes_31 s w h31
 by_cases h32 : s.toList = [67, 79, 85, 78, 84, 73, 70]
 · have e : takesF s.toList = (3, 3) := by rw [h32]; rfl
   rw [e]; exact takes_32 s w h32
 by_cases h33 : s.toList = [70, 85, 83, 69, 68]
 · have e : takesF s.toList = (3, 3) := by rw [h33]; rfl
   rw [e]; exact takes_33 s w h33
 by_cases h34 : s.toList = [77, 73, 68]
 · have e : takesF s.toList = (3, 3) := by rw [h34]; rfl
   rw [e]; exact takes_34 s w h34
 by_cases h35 : s.toList = [65, 78, 68]
 · have e : takesF s.toList = (1, 256) := by rw [h35]; rfl
   rw [e]; exact takes_35 s w h35
 by_cases h36 : s.toList = [65, 86, 69, 82, 65, 71, 69]
 · have e : takesF s.toList = (1, 256) := by rw [h36]; rfl
   rw [e]; exact takes_36 s w h36
 by_cases h37 : s.toList = [67, 79, 85, 78, 84]
 · have e : takesF s.toList = (1, 256) := by rw [h37]; rfl
   rw [e]; exact takes_37 s w h37
 by_cases h38 : s.toList = [67, 79, 85, 78, 84, 65]
 · have e : takesF s.toList = (1, 256) := by rw [h38]; rfl
   rw [e]; exact takes_38 s w h38
 by_cases h39 : s.toList = [74, 79, 73, 78]
 · have e : takesF s.toList = (1, 256) := by rw [h39]; rfl
   rw [e]; exact takes_39 s w h39
 by_cases h40 : s.toList = [77, 65, 88]
 · have e : takesF s.toList = (1, 256) := by rw [h40]; rfl
   rw [e]; exact takes_40 s w h40
 by_cases h41 : s.toList = [77, 69, 68, 73, 65, 78]
 · have e : takesF s.toList = (1, 256) := by rw [h41]; rfl
   rw [e]; exact takes_41 s w h41
 by_cases h42 : s.toList = [77, 73, 78]
 · have e : takesF s.toList = (1, 256) := by rw [h42]; rfl
   rw [e]; exact takes_42 s w h42
 by_cases h43 : s.toList = [77, 79, 68, 69]
 · have e : takesF s.toList = (1, 256) := by rw [h43]; rfl
   rw [e]; exact takes_43 s w h43
 by_cases h44 : s.toList = [79, 82]
 · have e : takesF s.toList = (1, 256) := by rw [h44]; rfl
   rw [e]; exact takes_44 s w h44
 by_cases h45 : s.toList = [83, 84, 68, 69, 86]
 · have e : takesF s.toList = (1, 256) := by rw [h45]; rfl
   rw [e]; exact takes_45 s w h45
 by_cases h46 : s.toList = [83, 84, 68, 69, 86, 80]
 · have e : takesF s.toList = (1, 256) := by rw [h46]; rfl
   rw [e]; exact takes_46 s w h46
 by_cases h47 : s.toList = [83, 85, 77]
 · have e : takesF s.toList = (1, 256) := by rw [h47]; rfl
   rw [e]; exact takes_47 s w h47
 by_cases h48 : s.toList = [83, 85, 77, 83, 81]
 · have e : takesF s.toList = (1, 256) := by rw [h48]; rfl
   rw [e]; exact takes_48 s w h48
 by_cases h49 : s.toList = [86, 65, 82]
 · have e : takesF s.toList = (1, 256) := by rw [h49]; rfl
   rw [e]; exact takes_49 s w h49
 by_cases h50 : s.toList = [86, 65, 82, 80]
 · have e : takesF s.toList = (1, 256) := by rw [h50]; rfl
   rw [e]; exact takes_50 s w h50
 by_cases h51 : s.toList = [67, 72, 79, 79, 83, 69]
 · have e : takesF s.toList = (2, 256) := by rw [h51]; rfl
   rw [e]; exact takes_51 s w h51
 have e : takesF s.toList = (-1, -1) := by unfold takesF; rw [if_neg h0, if_neg h1, if_neg h2, if_neg h3, if_neg h4, if_neg h5, if_neg h6, if_neg h7, if_neg h8, if_neg h9, if_neg h10, if_neg h11, if_neg h12, if_neg h13, if_neg h14, if_neg h15, if_neg h16, if_neg h17, if_neg h18, if_neg h19, if_neg h20, if_neg h21, if_neg h22, if_neg h23, if_neg h24, if_neg h25, if_neg h26, if_neg h27, if_neg h28, if_neg h29, if_neg h30, if_neg h31, if_neg h32, if_neg h33, if_neg h34, if_neg h35, if_neg h36, if_neg h37, if_neg h38, if_neg h39, if_neg h40, if_neg h41, if_neg h42, if_neg h43, if_neg h44, if_neg h45, if_neg h46, if_neg h47, if_neg h48, if_neg h49, if_neg h50, if_neg h51]
 rw [e]; exact takes_none s w (beq_eq_false_iff_ne.2 h0) (beq_eq_false_iff_ne.2 h1) (beq_eq_false_iff_ne.2 h2) (beq_eq_false_iff_ne.2 h3) (beq_eq_false_iff_ne.2 h4) (beq_eq_false_iff_ne.2 h5) (beq_eq_false_iff_ne.2 h6) (beq_eq_false_iff_ne.2 h7) (beq_eq_false_iff_ne.2 h8) (beq_eq_false_iff_ne.2 h9) (beq_eq_false_iff_ne.2 h10) (beq_eq_false_iff_ne.2 h11) (beq_eq_false_iff_ne.2 h12) (beq_eq_false_iff_ne.2 h13) (beq_eq_false_iff_ne.2 h14) (beq_eq_false_iff_ne.2 h15) (beq_eq_false_iff_ne.2 h16) (beq_eq_false_iff_ne.2 h17) (beq_eq_false_iff_ne.2 h18) (beq_eq_false_iff_ne.2 h19) (beq_eq_false_iff_ne.2 h20) (beq_eq_false_iff_ne.2 h21) (beq_eq_false_iff_ne.2 h22) (beq_eq_false_iff_ne.2 h23) (beq_eq_false_iff_ne.2 h24) (beq_eq_false_iff_ne.2 h25) (beq_eq_false_iff_ne.2 h26) (beq_eq_false_iff_ne.2 h27) (beq_eq_false_iff_ne.2 h28) (beq_eq_false_iff_ne.2 h29) (beq_eq_false_iff_ne.2 h30) (beq_eq_false_iff_ne.2 h31) (beq_eq_false_iff_ne.2 h32) (beq_eq_false_iff_ne.2 h33) (beq_eq_false_iff_ne.2 h34) (beq_eq_false_iff_ne.2 h35) (beq_eq_false_iff_ne.2 h36) (beq_eq_false_iff_ne.2 h37) (beq_eq_false_iff_ne.2 h38) (beq_eq_false_iff_ne.2 h39) (beq_eq_false_iff_ne.2 h40) (beq_eq_false_iff_ne.2 h41) (beq_eq_false_iff_ne.2 h42) (beq_eq_false_iff_ne.2 h43) (beq_eq_false_iff_ne.2 h44) (beq_eq_false_iff_ne.2 h45) (beq_eq_false_iff_ne.2 h46) (beq_eq_false_iff_ne.2 h47) (beq_eq_false_iff_ne.2 h48) (beq_eq_false_iff_ne.2 h49) (beq_eq_false_iff_ne.2 h50) (beq_eq_false_iff_ne.2 h51)
end Go.Proofs.YtdoeejhdenifpaaGreatDoor
namespace Go.Proofs.YtdoeejhdenifpaaGreatDoor
open Go.RowKit Go.Sort
def knownF (s : List UInt8) : Int × Int × Bool := if (takesF s).1 < 0 then (0, 0, false) else ((takesF s).1, (takesF s).2, true)
set_option maxRecDepth 100000 in
set_option maxHeartbeats 2000000 in
theorem Known_any (s : ByteArray) (w : World) :
    Calls Tryz.prog 161 #[.string s] w fun e w' => e = .returned (.tuple #[.int .i64 (knownF s.toList).1, .int .i64 (knownF s.toList).2.1, .bool (knownF s.toList).2.2]) ∧ Gr w w' := by
 have hc := takes_any s w
 have HC := Lib.hid hc
 generalize hn : knownF s.toList = ans
 have HA := Lib.hid hn
 unfold knownF at HA
 generalize takesF s.toList = tk at HC HA
 obtain ⟨t1, t2⟩ := tk
 simp only at HA
 clear hc hn
 go_enter Tryz.func161, Tryz.ntmps161
 go_wp2_with fail
 refine (HC.out).mono ?_
 rintro e w1 ⟨rfl, hg1⟩
 obtain ⟨w2, hw2⟩ : ∃ w2, w1.alloc (.cells #[.int .i64 t1, .int .i64 t2] 196) = w2 := ⟨_, rfl⟩
 have hg2 : Gr w1 w2 := by rw [← hw2]; exact (Gr.refl _).alloc _
 have e0 : w2.cell? ⟨w1.heap.size, 0, none⟩ = some (.int .i64 t1) := by rw [← hw2]; simp
 have e1 : w2.cell? ⟨w1.heap.size, 1, none⟩ = some (.int .i64 t2) := by rw [← hw2]; simp
 have HG2 := Lib.hid (hg1.trans hg2)
 clear hg2 hg1
 go_wp2_with fail
 · go_ret3
   refine ⟨?_, HG2.out⟩
   rw [← HA.out, if_pos (by assumption)]
   rfl
 · have i0 : (0 : Int) < (2 : Int) := by decide
   have i1 : (1 : Int) < (2 : Int) := by decide
   go_quiet (fail)
   go_wp2_with fail
   go_ret3
   refine ⟨?_, HG2.out.drewN _⟩
   rw [← HA.out, if_neg (by omega)]
   rfl
theorem valid_gr (c r : Int) (w : World) : Calls Tryz.prog 63 #[.agg #[.int .i64 c, .int .i64 r]] w fun e w' => e = .returned (.bool (validB c r)) ∧ Gr w w' :=
 (valid_any c r w).mono fun _ _ ⟨h1, h2⟩ => ⟨h1, h2 ▸ (Gr.refl _).alloc _⟩
set_option maxRecDepth 100000 in
set_option maxHeartbeats 2000000 in
theorem ValidArea_any (a1 a2 b1 b2 : Int) (w : World) :
    Calls Tryz.prog 40 #[.agg #[.int .i64 a1, .int .i64 a2, .int .i64 b1, .int .i64 b2]] w fun e w' => e = .returned (.bool (validB a1 a2 && validB b1 b2 && decide (a1 ≤ b1) && decide (a2 ≤ b2))) ∧ Gr w w' := by
 generalize hn : (validB a1 a2 && validB b1 b2 && decide (a1 ≤ b1) && decide (a2 ≤ b2)) = ans
 have HA := Lib.hid hn
 clear hn
 obtain ⟨w0, hw0⟩ : ∃ w0, w.alloc (.cells #[.int .i64 a1, .int .i64 a2, .int .i64 b1, .int .i64 b2] 26) = w0 := ⟨_, rfl⟩
 have hg0 : Gr w w0 := by rw [← hw0]; exact (Gr.refl _).alloc _
 have hs0 : w0.heap.size = w.heap.size + 1 := by rw [← hw0]; simp
 have c0 : w0.cell? ⟨w.heap.size, 0, none⟩ = some (.int .i64 a1) := by rw [← hw0]; simp
 have c1 : w0.cell? ⟨w.heap.size, 1, none⟩ = some (.int .i64 a2) := by rw [← hw0]; simp
 have c2 : w0.cell? ⟨w.heap.size, 2, none⟩ = some (.int .i64 b1) := by rw [← hw0]; simp
 have c3 : w0.cell? ⟨w.heap.size, 3, none⟩ = some (.int .i64 b2) := by rw [← hw0]; simp
 have HG0 := Lib.hid hg0
 have H1 := Lib.hid (valid_gr a1 a2)
 have H2 := Lib.hid (valid_gr b1 b2)
 clear hg0
 generalize hv1 : validB a1 a2 = v1 at H1 HA
 generalize hv2 : validB b1 b2 = v2 at H2 HA
 clear hv1 hv2
 go_enter Tryz.func40, Tryz.ntmps40
 go_wp2_with fail
 refine (H1.out _).mono ?_
 rintro e w1 ⟨rfl, hg1⟩
 have kk := fun o => (hg1.xt.cells).1 w.heap.size o (by omega)
 have k0 := (kk 0).trans c0
 have k1 := (kk 1).trans c1
 have k2 := (kk 2).trans c2
 have k3 := (kk 3).trans c3
 have hs1 : w.heap.size < w1.heap.size := by have := hg1.xt.sz; omega
 have HG1 := Lib.hid hg1
 clear hg1 kk c0 c1 c2 c3 hw0
 cases v1 with
 | false =>
  go_wp2_with fail
  go_ret
  exact ⟨by rw [← HA.out]; simp, HG0.out.trans HG1.out⟩
 | true =>
  go_wp2_with fail
  refine (H2.out _).mono ?_
  rintro e w2 ⟨rfl, hg2⟩
  have kk := fun o => (hg2.xt.cells).1 w.heap.size o (by omega)
  have l0 := (kk 0).trans k0
  have l1 := (kk 1).trans k1
  have l2 := (kk 2).trans k2
  have l3 := (kk 3).trans k3
  have HG2 := Lib.hid hg2
  clear hg2 kk k0 k1 k2 k3
  cases v2 with
  | false =>
   go_wp2_with fail
   go_ret
   exact ⟨by rw [← HA.out]; simp, (HG0.out.trans HG1.out).trans HG2.out⟩
  | true =>
   go_wp2_with fail
   all_goals (go_ret; exact ⟨by rw [← HA.out]; first | (simp [*]; done) | (simp [*]; omega), (HG0.out.trans HG1.out).trans HG2.out⟩)
end Go.Proofs.YtdoeejhdenifpaaGreatDoor
namespace Go.Proofs.YtdoeejhdenifpaaGreatDoor
open Go.RowKit Go.Sort
@[go_sem] theorem run_store_float {P : Program} (w : World) (a : Addr) (m : Mode) (k : FloatKind) (b : Nat) : (store a (.float k b) m).run P w = stored P w a (.float k b) m := run_store P w a _ m rfl
mutual
def measT : NodeT → Int × Int
 | .mk _ _ _ _ _ _ _ _ args => (wrap64 ((measL args 0 0).1 + 1), wrap64 ((measL args 0 0).2 + 1))
def measL : List NodeT → Int → Int → Int × Int
 | [], n, d => (n, d)
 | t :: r, n, d => measL r (wrap64 (n + (measT t).1)) (max d (measT t).2)
end
theorem measT_eq (t : NodeT) : measT t = (wrap64 ((measL t.args 0 0).1 + 1), wrap64 ((measL t.args 0 0).2 + 1)) := by cases t; simp [measT, NodeT.args]
set_option maxRecDepth 100000 in
set_option maxHeartbeats 4000000 in
theorem measure_any : ∀ (n : Nat) (t : NodeT) (a : Option Addr) (cap : Nat) (w : World), ArgsIn w n (.slice a t.args.length cap) t.args →
    Calls Tryz.prog 134 #[nodeV t a t.args.length cap] w fun e w' => e = .returned (.tuple #[.int .i64 (measT t).1, .int .i64 (measT t).2]) ∧ Gr w w' := by
 intro n
 induction n using Nat.strongRecOn with
 | ind n ih =>
  intro t a cap w hin
  have HIN := Lib.hid hin
  obtain ⟨_, _, he, q1, q2⟩ := hin.shape
  cases he
  have IH := Lib.hid ih
  obtain ⟨w0, hw0, hg0, hs0, hN⟩ := boxN w t a t.args.length cap 49
  have HG0 := Lib.hid hg0
  have HN := Lib.hid hN
  have c14 := hN.c14
  rw [Nat.zero_add] at c14
  generalize hmt : measT t = mt
  have HM := Lib.hid hmt
  have HW : Hid (measL (t.args.drop 0) 0 0 = measL t.args 0 0) := by rw [List.drop_zero]; rfl
  clear hin hN hg0 ih hmt
  go_enter Tryz.func134, Tryz.ntmps134
  go_wp2_with fail
  clear hw0
  go_loopw [2, 3, 11] (fun s2 s3 s11 wr => ∃ (i : Nat) (x y : Int), i ≤ t.args.length ∧ s11 = .int .i64 i ∧ s2 = .int .i64 x ∧ s3 = .int .i64 y ∧ Hid (measL (t.args.drop i) x y = measL t.args 0 0) ∧ Hid (Gr w0 wr)) (fun _ _ s11 _ => t.args.length - (intOf s11).toNat)
  case atStart => exact ⟨0, 0, 0, Nat.zero_le _, rfl, rfl, rfl, HW, Gr.refl _⟩
  case round =>
   obtain ⟨i, x, y, hi, rfl, rfl, rfl, HWi, HG⟩ := hrel
   by_cases hlt : i < t.args.length
   · have hii : (i : Int) < (t.args.length : Int) := by omega
     obtain ⟨u, hx⟩ : ∃ u, t.args[i]? = some u := ⟨t.args[i], by simp [hlt]⟩
     have hdr := drop_at hx
     obtain ⟨n', b, off, a', c', hn, rfl, hA, hI⟩ := HIN.out.at hx
     have hxw : Xt w wr := HG0.out.xt.trans HG.out.xt
     obtain ⟨d0, d1, d2, d3, d4, d5, d6, d7, d8, d9, d10, d11, d12, d13, d14⟩ := hA.xt hxw
     obtain ⟨w1, hw1, hg1, hs1, hB⟩ := boxN wr u a' u.args.length c' 49
     obtain ⟨e0, e1, e2, e3, e4, e5, e6, e7, e8, e9, e10, e11, e12, e13, e14⟩ := hB
     simp only [Nat.zero_add] at e0 e1 e2 e3 e4 e5 e6 e7 e8 e9 e10 e11 e12 e13 e14
     have hcall := IH.out n' (by omega) u a' c' w1 ((hI.xt hxw).xt hg1.xt)
     have HSTEP : Hid (measL (t.args.drop (i + 1)) (wrap64 (x + (measT u).1)) (max y (measT u).2) = measL t.args 0 0) := by
      have h := HWi.out
      rw [hdr] at h
      simp only [measL] at h
      exact h
     have HCALL := Lib.hid hcall
     have HG1 := Lib.hid hg1
     generalize measT u = mu at HSTEP HCALL
     obtain ⟨m1, m2⟩ := mu
     simp only at HSTEP HCALL
     clear hx hdr hA hI hn hcall hxw hg1
     go_wp2_with fail
     refine (HCALL.out).mono ?_
     rintro e w2 ⟨rfl, hg2⟩
     have HG2 := Lib.hid hg2
     clear hg2 d0 d1 d2 d3 d4 d5 d6 d7 d8 d9 d10 d11 d12 d13 d14 e0 e1 e2 e3 e4 e5 e6 e7 e8 e9 e10 e11 e12 e13 e14
     go_wp2_with fail
     go_roundw
     case rel => exact ⟨i + 1, _, _, by omega, by go_num, rfl, rfl, (by first | exact HSTEP | (rw [show (if y < m2 then m2 else y) = max y m2 from by omega]; exact HSTEP)), (HG.out.trans HG1.out).trans HG2.out⟩
     case measure => simp [intOf]; omega
   · have HE : Hid ((x, y) = measL t.args 0 0) := by
      have h := HWi.out
      rw [List.drop_eq_nil_of_le (by omega)] at h
      simp only [measL] at h
      exact h
     go_wp2_with fail
     go_ret2
     refine ⟨?_, HG0.out.trans HG.out⟩
     rw [← HM.out, measT_eq, ← HE.out]
     rfl
end Go.Proofs.YtdoeejhdenifpaaGreatDoor
namespace Go.Proofs.YtdoeejhdenifpaaGreatDoor
open Go.Shelf Go.RowKit Go.Lib
def Tryz.valid8_ren : Go.Shelf.Ren := ⟨fun | 196 => 133 | 259 => 159 | n => n, fun | 9 => 9 | 4 => 4 | 3 => 3 | 5 => 5 | 12 => 12 | 119 => 180 | 0 => 0 | 46 => 184 | 139 => 183 | 138 => 182 | 53 => 159 | n => n, fun | 3 => 1 | 4 => 2 | n => n⟩
set_option maxRecDepth 100000 in
theorem Tryz.valid8 : Lays.n196 Tryz.prog Tryz.valid8_ren := {
 mixed := by kernel_rfl
 f196 := Tryz.func133.trans (congrArg some (by kernel_rfl))
 f259 := Tryz.func159.trans (congrArg some (by kernel_rfl))
 t0 := Tryz.underlying0
 a0 := Tryz.isAgg0
 z0 := Tryz.sizeOf0
 v0 := Tryz.zeroValue0
 t3 := Tryz.underlying3
 a3 := Tryz.isAgg3
 z3 := Tryz.sizeOf3
 v3 := Tryz.zeroValue3
 t4 := Tryz.underlying4
 a4 := Tryz.isAgg4
 z4 := Tryz.sizeOf4
 v4 := Tryz.zeroValue4
 t5 := Tryz.underlying5
 a5 := Tryz.isAgg5
 z5 := Tryz.sizeOf5
 v5 := Tryz.zeroValue5
 t9 := Tryz.underlying9
 a9 := Tryz.isAgg9
 z9 := Tryz.sizeOf9
 v9 := Tryz.zeroValue9
 t12 := Tryz.underlying12
 a12 := Tryz.isAgg12
 z12 := Tryz.sizeOf12
 v12 := Tryz.zeroValue12
 t46 := Tryz.underlying184
 a46 := Tryz.isAgg184
 z46 := Tryz.sizeOf184
 v46 := Tryz.zeroValue184
 t53 := Tryz.underlying159
 a53 := Tryz.isAgg159
 z53 := Tryz.sizeOf159
 v53 := Tryz.zeroValue159
 t119 := Tryz.underlying180
 a119 := Tryz.isAgg180
 z119 := Tryz.sizeOf180
 t138 := Tryz.underlying182
 a138 := Tryz.isAgg182
 z138 := Tryz.sizeOf182
 v138 := Tryz.zeroValue182
 t139 := Tryz.underlying183
 a139 := Tryz.isAgg183
 z139 := Tryz.sizeOf183
 v139 := Tryz.zeroValue183
 g3 := by kernel_rfl
 g4 := by kernel_rfl
}
def Tabs (w : World) : Prop := Lib.Utf8Tabs (Tryz.valid8_ren.g 3) (Tryz.valid8_ren.g 4) w
theorem validString_any (s : ByteArray) (w : World) (hs : s.size ≤ 9223372036854775807) (hT : Tabs w) :
    Calls Tryz.prog 133 #[.string s] w fun e w' => e = .returned (.bool (Lib.validD s.data.toList)) ∧ Below w.heap.size w w' :=
 Any.utf8_ValidString Tryz.valid8 s w hs hT
end Go.Proofs.YtdoeejhdenifpaaGreatDoor
namespace Go.Proofs.YtdoeejhdenifpaaGreatDoor
open Go.RowKit Go.Sort
theorem Tabs.xt {w w' : World} (h : Tabs w) (hx : Xt w w') : Tabs w' := by
 refine ⟨fun c hc => ?_, fun i hi => ⟨?_, ?_⟩⟩
 · exact ((hx.cells).1 _ _ (World.block_lt_of_cell? w _ (h.1 c hc))).trans (h.1 c hc)
 · exact ((hx.cells).1 _ _ (World.block_lt_of_cell? w _ (h.2 i hi).1)).trans (h.2 i hi).1
 · exact ((hx.cells).1 _ _ (World.block_lt_of_cell? w _ (h.2 i hi).2)).trans (h.2 i hi).2
abbrev nodeW (k op : Int) (x : Nat) (s : ByteArray) (b : Bool) (f : Int) (r q : RefT) (a : Option Addr) (n cap : Nat) : Value :=
 .agg #[.int .i64 k, .int .i64 op, .float .f64 x, .string s, .bool b, .int .i64 f, .int .i64 r.a.1, .int .i64 r.a.2, .bool r.cf, .bool r.rf, .int .i64 q.a.1, .int .i64 q.a.2, .bool q.cf, .bool q.rf, .slice a n cap]
abbrev zR : RefT := ⟨(0, 0), false, false⟩
end Go.Proofs.YtdoeejhdenifpaaGreatDoor
