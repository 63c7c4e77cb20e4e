/- The document's Known is the program's (made by mkv4.py). -/
import Derived.Test.YtlgkaipgdhcajaaGreatDoorA14
import Derived.Test.YtlgkaipgdhcajaaGreatDoorA3
namespace Go.Proofs.YtlgkaipgdhcajaaGreatDoor
open Go.RowKit Go.Sort

def wordsOf (cur : List UInt8) : List UInt8 → List (List UInt8)
  | [] => [cur]
  | c :: r => if c = 32 then cur :: wordsOf [] r else wordsOf (cur ++ [c]) r
theorem oneR_words (n : List UInt8) : ∀ (L cur : List UInt8), oneR n cur L = ((wordsOf cur L).any (fun x => x == n) && !(n == []))
  | [], cur => by simp [oneR, wordsOf]
  | c :: r, cur => by
    unfold oneR wordsOf
    by_cases h : c = 32
    · rw [if_pos h, if_pos h, oneR_words n r, List.any_cons, Bool.and_or_distrib_right]
    · rw [if_neg h, if_neg h, oneR_words n r]
def names0 : List UInt8 := [65, 66, 83, 32, 73, 78, 84, 32, 73, 83, 66, 76, 65, 78, 75, 32, 73, 83, 69, 82, 82, 79, 82, 32, 73, 83, 78, 85, 77, 66, 69, 82, 32, 73, 83, 84, 69, 88, 84, 32, 76, 69, 78, 32, 78, 79, 84, 32, 83, 73, 71, 78, 32, 83, 73, 78, 71, 76, 69, 32, 83, 81, 82, 84, 32, 84, 82, 85, 78, 67, 32, 86, 65, 76, 85, 69]
theorem words0 : wordsOf [] names0 = [[65, 66, 83], [73, 78, 84], [73, 83, 66, 76, 65, 78, 75], [73, 83, 69, 82, 82, 79, 82], [73, 83, 78, 85, 77, 66, 69, 82], [73, 83, 84, 69, 88, 84], [76, 69, 78], [78, 79, 84], [83, 73, 71, 78], [83, 73, 78, 71, 76, 69], [83, 81, 82, 84], [84, 82, 85, 78, 67], [86, 65, 76, 85, 69]] := by kernel_rfl
def names1 : List UInt8 := [69, 88, 65, 67, 84, 32, 73, 70, 69, 82, 82, 79, 82, 32, 76, 65, 82, 71, 69, 32, 76, 69, 70, 84, 32, 77, 79, 68, 32, 80, 69, 82, 67, 69, 78, 84, 73, 76, 69, 32, 80, 79, 87, 69, 82, 32, 82, 69, 80, 84, 32, 82, 73, 71, 72, 84, 32, 82, 79, 85, 78, 68, 32, 82, 79, 85, 78, 68, 68, 79, 87, 78, 32, 82, 79, 85, 78, 68, 69, 86, 69, 78, 32, 82, 79, 85, 78, 68, 85, 80, 32, 83, 77, 65, 76, 76, 32, 83, 85, 77, 80, 82, 79, 68, 85, 67, 84, 32, 84, 69, 88, 84]
theorem words1 : wordsOf [] names1 = [[69, 88, 65, 67, 84], [73, 70, 69, 82, 82, 79, 82], [76, 65, 82, 71, 69], [76, 69, 70, 84], [77, 79, 68], [80, 69, 82, 67, 69, 78, 84, 73, 76, 69], [80, 79, 87, 69, 82], [82, 69, 80, 84], [82, 73, 71, 72, 84], [82, 79, 85, 78, 68], [82, 79, 85, 78, 68, 68, 79, 87, 78], [82, 79, 85, 78, 68, 69, 86, 69, 78], [82, 79, 85, 78, 68, 85, 80], [83, 77, 65, 76, 76], [83, 85, 77, 80, 82, 79, 68, 85, 67, 84], [84, 69, 88, 84]] := by kernel_rfl
def names2 : List UInt8 := [73, 70, 32, 82, 65, 78, 75]
theorem words2 : wordsOf [] names2 = [[73, 70], [82, 65, 78, 75]] := by kernel_rfl
def names3 : List UInt8 := [67, 79, 85, 78, 84, 73, 70, 32, 70, 85, 83, 69, 68, 32, 77, 73, 68]
theorem words3 : wordsOf [] names3 = [[67, 79, 85, 78, 84, 73, 70], [70, 85, 83, 69, 68], [77, 73, 68]] := by kernel_rfl
def names4 : List UInt8 := [65, 78, 68, 32, 65, 86, 69, 82, 65, 71, 69, 32, 67, 79, 85, 78, 84, 32, 67, 79, 85, 78, 84, 65, 32, 74, 79, 73, 78, 32, 77, 65, 88, 32, 77, 69, 68, 73, 65, 78, 32, 77, 73, 78, 32, 77, 79, 68, 69, 32, 79, 82, 32, 83, 84, 68, 69, 86, 32, 83, 84, 68, 69, 86, 80, 32, 83, 85, 77, 32, 83, 85, 77, 83, 81, 32, 86, 65, 82, 32, 86, 65, 82, 80]
theorem words4 : wordsOf [] names4 = [[65, 78, 68], [65, 86, 69, 82, 65, 71, 69], [67, 79, 85, 78, 84], [67, 79, 85, 78, 84, 65], [74, 79, 73, 78], [77, 65, 88], [77, 69, 68, 73, 65, 78], [77, 73, 78], [77, 79, 68, 69], [79, 82], [83, 84, 68, 69, 86], [83, 84, 68, 69, 86, 80], [83, 85, 77], [83, 85, 77, 83, 81], [86, 65, 82], [86, 65, 82, 80]] := by kernel_rfl
def docF (n : List UInt8) : Int × Int × Bool :=
  if (n == [78, 65]) = true then (0, 0, true) else
  if oneR n [] names0 = true then (1, 1, true) else
  if oneR n [] names1 = true then (2, 2, true) else
  if oneR n [] names2 = true then (2, 3, true) else
  if oneR n [] names3 = true then (3, 3, true) else
  if oneR n [] names4 = true then (1, 256, true) else
  if (n == [67, 72, 79, 79, 83, 69]) = true then (2, 256, true) else (0, 0, false)
set_option maxRecDepth 100000 in
set_option maxHeartbeats 4000000 in
theorem docF_eq (n : List UInt8) : docF n = knownF n := by
  by_cases h0 : n = [78, 65]
  · rw [h0]; kernel_rfl
  by_cases h1 : n = [65, 66, 83]
  · rw [h1]; kernel_rfl
  by_cases h2 : n = [73, 78, 84]
  · rw [h2]; kernel_rfl
  by_cases h3 : n = [73, 83, 66, 76, 65, 78, 75]
  · rw [h3]; kernel_rfl
  by_cases h4 : n = [73, 83, 69, 82, 82, 79, 82]
  · rw [h4]; kernel_rfl
  by_cases h5 : n = [73, 83, 78, 85, 77, 66, 69, 82]
  · rw [h5]; kernel_rfl
  by_cases h6 : n = [73, 83, 84, 69, 88, 84]
  · rw [h6]; kernel_rfl
  by_cases h7 : n = [76, 69, 78]
  · rw [h7]; kernel_rfl
  by_cases h8 : n = [78, 79, 84]
  · rw [h8]; kernel_rfl
  by_cases h9 : n = [83, 73, 71, 78]
  · rw [h9]; kernel_rfl
  by_cases h10 : n = [83, 73, 78, 71, 76, 69]
  · rw [h10]; kernel_rfl
  by_cases h11 : n = [83, 81, 82, 84]
  · rw [h11]; kernel_rfl
  by_cases h12 : n = [84, 82, 85, 78, 67]
  · rw [h12]; kernel_rfl
  by_cases h13 : n = [86, 65, 76, 85, 69]
  · rw [h13]; kernel_rfl
  by_cases h14 : n = [69, 88, 65, 67, 84]
  · rw [h14]; kernel_rfl
  by_cases h15 : n = [73, 70, 69, 82, 82, 79, 82]
  · rw [h15]; kernel_rfl
  by_cases h16 : n = [76, 65, 82, 71, 69]
  · rw [h16]; kernel_rfl
  by_cases h17 : n = [76, 69, 70, 84]
  · rw [h17]; kernel_rfl
  by_cases h18 : n = [77, 79, 68]
  · rw [h18]; kernel_rfl
  by_cases h19 : n = [80, 69, 82, 67, 69, 78, 84, 73, 76, 69]
  · rw [h19]; kernel_rfl
  by_cases h20 : n = [80, 79, 87, 69, 82]
  · rw [h20]; kernel_rfl
  by_cases h21 : n = [82, 69, 80, 84]
  · rw [h21]; kernel_rfl
  by_cases h22 : n = [82, 73, 71, 72, 84]
  · rw [h22]; kernel_rfl
  by_cases h23 : n = [82, 79, 85, 78, 68]
  · rw [h23]; kernel_rfl
  by_cases h24 : n = [82, 79, 85, 78, 68, 68, 79, 87, 78]
  · rw [h24]; kernel_rfl
  by_cases h25 : n = [82, 79, 85, 78, 68, 69, 86, 69, 78]
  · rw [h25]; kernel_rfl
  by_cases h26 : n = [82, 79, 85, 78, 68, 85, 80]
  · rw [h26]; kernel_rfl
  by_cases h27 : n = [83, 77, 65, 76, 76]
  · rw [h27]; kernel_rfl
  by_cases h28 : n = [83, 85, 77, 80, 82, 79, 68, 85, 67, 84]
  · rw [h28]; kernel_rfl
  by_cases h29 : n = [84, 69, 88, 84]
  · rw [h29]; kernel_rfl
  by_cases h30 : n = [73, 70]
  · rw [h30]; kernel_rfl
  by_cases h31 : n = [82, 65, 78, 75]
  · rw [h31]; kernel_rfl
  by_cases h32 : n = [67, 79, 85, 78, 84, 73, 70]
  · rw [h32]; kernel_rfl
  by_cases h33 : n = [70, 85, 83, 69, 68]
  · rw [h33]; kernel_rfl
  by_cases h34 : n = [77, 73, 68]
  · rw [h34]; kernel_rfl
  by_cases h35 : n = [65, 78, 68]
  · rw [h35]; kernel_rfl
  by_cases h36 : n = [65, 86, 69, 82, 65, 71, 69]
  · rw [h36]; kernel_rfl
  by_cases h37 : n = [67, 79, 85, 78, 84]
  · rw [h37]; kernel_rfl
  by_cases h38 : n = [67, 79, 85, 78, 84, 65]
  · rw [h38]; kernel_rfl
  by_cases h39 : n = [74, 79, 73, 78]
  · rw [h39]; kernel_rfl
  by_cases h40 : n = [77, 65, 88]
  · rw [h40]; kernel_rfl
  by_cases h41 : n = [77, 69, 68, 73, 65, 78]
  · rw [h41]; kernel_rfl
  by_cases h42 : n = [77, 73, 78]
  · rw [h42]; kernel_rfl
  by_cases h43 : n = [77, 79, 68, 69]
  · rw [h43]; kernel_rfl
  by_cases h44 : n = [79, 82]
  · rw [h44]; kernel_rfl
  by_cases h45 : n = [83, 84, 68, 69, 86]
  · rw [h45]; kernel_rfl
  by_cases h46 : n = [83, 84, 68, 69, 86, 80]
  · rw [h46]; kernel_rfl
  by_cases h47 : n = [83, 85, 77]
  · rw [h47]; kernel_rfl
  by_cases h48 : n = [83, 85, 77, 83, 81]
  · rw [h48]; kernel_rfl
  by_cases h49 : n = [86, 65, 82]
  · rw [h49]; kernel_rfl
  by_cases h50 : n = [86, 65, 82, 80]
  · rw [h50]; kernel_rfl
  by_cases h51 : n = [67, 72, 79, 79, 83, 69]
  · rw [h51]; kernel_rfl
  have hk : takesF n = (-1, -1) := by
    unfold takesF
    simp only [h0, h1, h2, h3, h4, h5, h6, h7, h8, h9, h10, h11, h12, h13, h14, h15, h16, h17, h18, h19, h20, h21, h22, h23, h24, h25, h26, h27, h28, h29, h30, h31, h32, h33, h34, h35, h36, h37, h38, h39, h40, h41, h42, h43, h44, h45, h46, h47, h48, h49, h50, h51, if_false]
  have hf : knownF n = (0, 0, false) := by unfold knownF; rw [hk]; rfl
  rw [hf]
  have o0 : oneR n [] names0 = false := by
    rw [oneR_words, words0]
    simp only [List.any_cons, List.any_nil, beq_eq_false_iff_ne.2 (Ne.symm h1), beq_eq_false_iff_ne.2 (Ne.symm h2), beq_eq_false_iff_ne.2 (Ne.symm h3), beq_eq_false_iff_ne.2 (Ne.symm h4), beq_eq_false_iff_ne.2 (Ne.symm h5), beq_eq_false_iff_ne.2 (Ne.symm h6), beq_eq_false_iff_ne.2 (Ne.symm h7), beq_eq_false_iff_ne.2 (Ne.symm h8), beq_eq_false_iff_ne.2 (Ne.symm h9), beq_eq_false_iff_ne.2 (Ne.symm h10), beq_eq_false_iff_ne.2 (Ne.symm h11), beq_eq_false_iff_ne.2 (Ne.symm h12), beq_eq_false_iff_ne.2 (Ne.symm h13), Bool.or_false, Bool.false_and]
  have o1 : oneR n [] names1 = false := by
    rw [oneR_words, words1]
    simp only [List.any_cons, List.any_nil, beq_eq_false_iff_ne.2 (Ne.symm h14), beq_eq_false_iff_ne.2 (Ne.symm h15), beq_eq_false_iff_ne.2 (Ne.symm h16), beq_eq_false_iff_ne.2 (Ne.symm h17), beq_eq_false_iff_ne.2 (Ne.symm h18), beq_eq_false_iff_ne.2 (Ne.symm h19), beq_eq_false_iff_ne.2 (Ne.symm h20), beq_eq_false_iff_ne.2 (Ne.symm h21), beq_eq_false_iff_ne.2 (Ne.symm h22), beq_eq_false_iff_ne.2 (Ne.symm h23), beq_eq_false_iff_ne.2 (Ne.symm h24), beq_eq_false_iff_ne.2 (Ne.symm h25), beq_eq_false_iff_ne.2 (Ne.symm h26), beq_eq_false_iff_ne.2 (Ne.symm h27), beq_eq_false_iff_ne.2 (Ne.symm h28), beq_eq_false_iff_ne.2 (Ne.symm h29), Bool.or_false, Bool.false_and]
  have o2 : oneR n [] names2 = false := by
    rw [oneR_words, words2]
    simp only [List.any_cons, List.any_nil, beq_eq_false_iff_ne.2 (Ne.symm h30), beq_eq_false_iff_ne.2 (Ne.symm h31), Bool.or_false, Bool.false_and]
  have o3 : oneR n [] names3 = false := by
    rw [oneR_words, words3]
    simp only [List.any_cons, List.any_nil, beq_eq_false_iff_ne.2 (Ne.symm h32), beq_eq_false_iff_ne.2 (Ne.symm h33), beq_eq_false_iff_ne.2 (Ne.symm h34), Bool.or_false, Bool.false_and]
  have o4 : oneR n [] names4 = false := by
    rw [oneR_words, words4]
    simp only [List.any_cons, List.any_nil, beq_eq_false_iff_ne.2 (Ne.symm h35), beq_eq_false_iff_ne.2 (Ne.symm h36), beq_eq_false_iff_ne.2 (Ne.symm h37), beq_eq_false_iff_ne.2 (Ne.symm h38), beq_eq_false_iff_ne.2 (Ne.symm h39), beq_eq_false_iff_ne.2 (Ne.symm h40), beq_eq_false_iff_ne.2 (Ne.symm h41), beq_eq_false_iff_ne.2 (Ne.symm h42), beq_eq_false_iff_ne.2 (Ne.symm h43), beq_eq_false_iff_ne.2 (Ne.symm h44), beq_eq_false_iff_ne.2 (Ne.symm h45), beq_eq_false_iff_ne.2 (Ne.symm h46), beq_eq_false_iff_ne.2 (Ne.symm h47), beq_eq_false_iff_ne.2 (Ne.symm h48), beq_eq_false_iff_ne.2 (Ne.symm h49), beq_eq_false_iff_ne.2 (Ne.symm h50), Bool.or_false, Bool.false_and]
  unfold docF
  rw [o0, o1, o2, o3, o4, beq_eq_false_iff_ne.2 h0, beq_eq_false_iff_ne.2 h51]
  rfl
set_option maxRecDepth 100000 in
set_option maxHeartbeats 4000000 in
theorem Known12_any (s : ByteArray) (w : World) :
    Calls Tryz.prog 112 #[.string s] w fun e w' => e = .returned (.tuple #[.int .i64 (knownF s.toList).1, .int .i64 (knownF s.toList).2.1, .bool (knownF s.toList).2.2]) ∧ w = w' := by
  rw [← docF_eq]
  have H1 := Lib.hid (fun W => one_any s names0 (by decide) W)
  have H2 := Lib.hid (fun W => one_any s names1 (by decide) W)
  have H3 := Lib.hid (fun W => one_any s names2 (by decide) W)
  have H4 := Lib.hid (fun W => one_any s names3 (by decide) W)
  have H5 := Lib.hid (fun W => one_any s names4 (by decide) W)
  unfold docF
  generalize oneR s.toList [] names0 = b1 at H1 ⊢
  generalize oneR s.toList [] names1 = b2 at H2 ⊢
  generalize oneR s.toList [] names2 = b3 at H3 ⊢
  generalize oneR s.toList [] names3 = b4 at H4 ⊢
  generalize oneR s.toList [] names4 = b5 at H5 ⊢
  obtain ⟨b0, hb0⟩ : ∃ b, (s.toList == [78, 65]) = b := ⟨_, rfl⟩
  obtain ⟨b6, hb6⟩ : ∃ b, (s.toList == [67, 72, 79, 79, 83, 69]) = b := ⟨_, rfl⟩
  rw [hb0, hb6]
  cases b0 with
  | true =>
    go_enter Tryz.func112, Tryz.ntmps112
    go_wp2_with (first | (refine (H1.out _).mono ?_; clear H1; rintro e w' ⟨rfl, rfl⟩) | (refine (H2.out _).mono ?_; clear H2; rintro e w' ⟨rfl, rfl⟩) | (refine (H3.out _).mono ?_; clear H3; rintro e w' ⟨rfl, rfl⟩) | (refine (H4.out _).mono ?_; clear H4; rintro e w' ⟨rfl, rfl⟩) | (refine (H5.out _).mono ?_; clear H5; rintro e w' ⟨rfl, rfl⟩))
    go_ret3
    exact ⟨rfl, rfl⟩
  | false =>
    cases b1 with
    | true =>
      go_enter Tryz.func112, Tryz.ntmps112
      go_wp2_with (first | (refine (H1.out _).mono ?_; clear H1; rintro e w' ⟨rfl, rfl⟩) | (refine (H2.out _).mono ?_; clear H2; rintro e w' ⟨rfl, rfl⟩) | (refine (H3.out _).mono ?_; clear H3; rintro e w' ⟨rfl, rfl⟩) | (refine (H4.out _).mono ?_; clear H4; rintro e w' ⟨rfl, rfl⟩) | (refine (H5.out _).mono ?_; clear H5; rintro e w' ⟨rfl, rfl⟩))
      go_ret3
      exact ⟨rfl, rfl⟩
    | false =>
      cases b2 with
      | true =>
        go_enter Tryz.func112, Tryz.ntmps112
        go_wp2_with (first | (refine (H1.out _).mono ?_; clear H1; rintro e w' ⟨rfl, rfl⟩) | (refine (H2.out _).mono ?_; clear H2; rintro e w' ⟨rfl, rfl⟩) | (refine (H3.out _).mono ?_; clear H3; rintro e w' ⟨rfl, rfl⟩) | (refine (H4.out _).mono ?_; clear H4; rintro e w' ⟨rfl, rfl⟩) | (refine (H5.out _).mono ?_; clear H5; rintro e w' ⟨rfl, rfl⟩))
        go_ret3
        exact ⟨rfl, rfl⟩
      | false =>
        cases b3 with
        | true =>
          go_enter Tryz.func112, Tryz.ntmps112
          go_wp2_with (first | (refine (H1.out _).mono ?_; clear H1; rintro e w' ⟨rfl, rfl⟩) | (refine (H2.out _).mono ?_; clear H2; rintro e w' ⟨rfl, rfl⟩) | (refine (H3.out _).mono ?_; clear H3; rintro e w' ⟨rfl, rfl⟩) | (refine (H4.out _).mono ?_; clear H4; rintro e w' ⟨rfl, rfl⟩) | (refine (H5.out _).mono ?_; clear H5; rintro e w' ⟨rfl, rfl⟩))
          go_ret3
          exact ⟨rfl, rfl⟩
        | false =>
          cases b4 with
          | true =>
            go_enter Tryz.func112, Tryz.ntmps112
            go_wp2_with (first | (refine (H1.out _).mono ?_; clear H1; rintro e w' ⟨rfl, rfl⟩) | (refine (H2.out _).mono ?_; clear H2; rintro e w' ⟨rfl, rfl⟩) | (refine (H3.out _).mono ?_; clear H3; rintro e w' ⟨rfl, rfl⟩) | (refine (H4.out _).mono ?_; clear H4; rintro e w' ⟨rfl, rfl⟩) | (refine (H5.out _).mono ?_; clear H5; rintro e w' ⟨rfl, rfl⟩))
            go_ret3
            exact ⟨rfl, rfl⟩
          | false =>
            cases b5 with
            | true =>
              go_enter Tryz.func112, Tryz.ntmps112
              go_wp2_with (first | (refine (H1.out _).mono ?_; clear H1; rintro e w' ⟨rfl, rfl⟩) | (refine (H2.out _).mono ?_; clear H2; rintro e w' ⟨rfl, rfl⟩) | (refine (H3.out _).mono ?_; clear H3; rintro e w' ⟨rfl, rfl⟩) | (refine (H4.out _).mono ?_; clear H4; rintro e w' ⟨rfl, rfl⟩) | (refine (H5.out _).mono ?_; clear H5; rintro e w' ⟨rfl, rfl⟩))
              go_ret3
              exact ⟨rfl, rfl⟩
            | false =>
              cases b6 with
              | true =>
                go_enter Tryz.func112, Tryz.ntmps112
                go_wp2_with (first | (refine (H1.out _).mono ?_; clear H1; rintro e w' ⟨rfl, rfl⟩) | (refine (H2.out _).mono ?_; clear H2; rintro e w' ⟨rfl, rfl⟩) | (refine (H3.out _).mono ?_; clear H3; rintro e w' ⟨rfl, rfl⟩) | (refine (H4.out _).mono ?_; clear H4; rintro e w' ⟨rfl, rfl⟩) | (refine (H5.out _).mono ?_; clear H5; rintro e w' ⟨rfl, rfl⟩))
                go_ret3
                exact ⟨rfl, rfl⟩
              | false =>
                go_enter Tryz.func112, Tryz.ntmps112
                go_wp2_with (first | (refine (H1.out _).mono ?_; clear H1; rintro e w' ⟨rfl, rfl⟩) | (refine (H2.out _).mono ?_; clear H2; rintro e w' ⟨rfl, rfl⟩) | (refine (H3.out _).mono ?_; clear H3; rintro e w' ⟨rfl, rfl⟩) | (refine (H4.out _).mono ?_; clear H4; rintro e w' ⟨rfl, rfl⟩) | (refine (H5.out _).mono ?_; clear H5; rintro e w' ⟨rfl, rfl⟩))
                go_ret3
                exact ⟨rfl, rfl⟩
end Go.Proofs.YtlgkaipgdhcajaaGreatDoor
