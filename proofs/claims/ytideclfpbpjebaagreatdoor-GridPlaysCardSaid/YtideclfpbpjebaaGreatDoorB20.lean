import Derived.Test.YtideclfpbpjebaaGreatDoorB13
namespace Go.Proofs.YtideclfpbpjebaaGreatDoor
section
open Go.RowKit Go.Sort

theorem one0 (x : Nat) : (((oneX x : Nat) : Int) = ((oneX 0 : Nat) : Int)) = ((x : Int) = 0) := by
  have h0 : nanX 0 = false := by decide
  have e0 : oneX 0 = 0 := by rw [oneX_eq, h0]; rfl
  rw [e0, oneX_eq, eq_iff_iff]
  by_cases h : nanX x = true
  · have h2 : x ≠ 0 := by intro e; rw [e, h0] at h; cases h
    rw [if_pos h]
    constructor
    · intro e; exact absurd e (by decide)
    · intro e; exact absurd (by omega) h2
  · rw [if_neg h]; exact Iff.rfl
theorem ref0 (r : RefT) : refB r zR = (decide (r.a.1 = 0) && decide (r.a.2 = 0) && !r.cf && !r.rf) := by
  obtain ⟨⟨a, b⟩, c, d⟩ := r
  unfold refB
  cases c <;> cases d <;> simp
theorem refR (r : RefT) : refB r r = true := by unfold refB; simp
theorem len0 (l : List NodeT) : (0 == (l.length : Int)) = ((l.length : Int) == 0) := by rw [Bool.eq_iff_iff]; simp only [beq_iff_eq]; omega
theorem len1 (l : List NodeT) : (1 == (l.length : Int)) = ((l.length : Int) == 1) := by rw [Bool.eq_iff_iff]; simp only [beq_iff_eq]; omega
theorem len2 (l : List NodeT) : (2 == (l.length : Int)) = ((l.length : Int) == 2) := by rw [Bool.eq_iff_iff]; simp only [beq_iff_eq]; omega
set_option maxHeartbeats 2000000 in
theorem Made12_any (t : NodeT) (a : Option Addr) (cap : Nat) (w : World) (hok : t.ok) :
    Calls Tryz.prog 129 #[nodeV t a t.args.length cap] w fun e w' => e = .returned (.bool (madeB t)) ∧ Gr w w' := by
  have hx := NodeT.ok_x hok
  have hs := NodeT.ok_sz hok
  clear hok
  by_cases h1 : t.kind = 1
  · refine (made12_1 t a cap w h1).mono fun e w' h => ⟨h.1.trans ?_, h.2⟩
    obtain ⟨k, op, x, s, b, f, r, q, args⟩ := t
    simp only [NodeT.kind, NodeT.x] at h1 hx
    subst h1
    simp only [madeB, reduceIte, Int.reduceEq, num_eq hx]
    simp only [bareB, alikeB, ref0, len0, toList_nil, NodeT.kind, NodeT.op, NodeT.x, NodeT.s, NodeT.b, NodeT.f, NodeT.ref, NodeT.to, NodeT.args, Bool.true_or, Bool.false_or, decide_true, Bool.true_and, Bool.and_true]
    refine congrArg (fun z => Ending.returned (.bool z)) ?_
    cases b <;> (try simp only [Bool.not_true, Bool.not_false, decide_true, decide_false, Bool.and_false, Bool.false_and, Bool.and_true, Bool.true_eq_false]) <;> ac_rfl
  by_cases h2 : t.kind = 2
  · refine (made12_2 t a cap w h2 hs).mono fun e w' h => ⟨h.1.trans ?_, h.2⟩
    obtain ⟨k, op, x, s, b, f, r, q, args⟩ := t
    simp only [NodeT.kind] at h2
    subst h2
    simp only [madeB, reduceIte, Int.reduceEq]
    simp only [bareB, alikeB, ref0, len0, one0, NodeT.kind, NodeT.op, NodeT.x, NodeT.s, NodeT.b, NodeT.f, NodeT.ref, NodeT.to, NodeT.args, Bool.true_or, Bool.false_or, decide_true, Bool.true_and, Bool.and_true]
    refine congrArg (fun z => Ending.returned (.bool z)) ?_
    cases b <;> (try simp only [Bool.not_true, Bool.not_false, decide_true, decide_false, Bool.and_false, Bool.false_and, Bool.and_true, Bool.true_eq_false]) <;> ac_rfl
  by_cases h3 : t.kind = 3
  · refine (made12_3 t a cap w h3).mono fun e w' h => ⟨h.1.trans ?_, h.2⟩
    obtain ⟨k, op, x, s, b, f, r, q, args⟩ := t
    simp only [NodeT.kind] at h3
    subst h3
    simp only [madeB, reduceIte, Int.reduceEq]
    simp only [bareB, alikeB, ref0, len0, one0, toList_nil, NodeT.kind, NodeT.op, NodeT.x, NodeT.s, NodeT.b, NodeT.f, NodeT.ref, NodeT.to, NodeT.args, Bool.true_or, Bool.false_or, decide_true, Bool.true_and, Bool.and_true]
    refine congrArg (fun z => Ending.returned (.bool z)) ?_
    cases b <;> (try simp only [Bool.not_true, Bool.not_false, decide_true, decide_false, Bool.and_false, Bool.false_and, Bool.and_true, Bool.true_and, Bool.true_eq_false, Bool.false_eq_true]) <;> ac_rfl
  by_cases h4 : t.kind = 4
  · refine (made12_4 t a cap w h4).mono fun e w' h => ⟨h.1.trans ?_, h.2⟩
    obtain ⟨k, op, x, s, b, f, r, q, args⟩ := t
    simp only [NodeT.kind] at h4
    subst h4
    simp only [madeB, reduceIte, Int.reduceEq]
    simp only [bareB, alikeB, ref0, len0, one0, toList_nil, NodeT.kind, NodeT.op, NodeT.x, NodeT.s, NodeT.b, NodeT.f, NodeT.ref, NodeT.to, NodeT.args, Bool.true_or, Bool.false_or, decide_true, Bool.true_and, Bool.and_true]
    refine congrArg (fun z => Ending.returned (.bool z)) ?_
    cases b <;> (try simp only [Bool.not_true, Bool.not_false, decide_true, decide_false, Bool.and_false, Bool.false_and, Bool.and_true, Bool.true_eq_false]) <;> ac_rfl
  by_cases h5 : t.kind = 5
  · refine (made12_5 t a cap w h5).mono fun e w' h => ⟨h.1.trans ?_, h.2⟩
    obtain ⟨k, op, x, s, b, f, r, q, args⟩ := t
    simp only [NodeT.kind] at h5
    subst h5
    simp only [madeB, reduceIte, Int.reduceEq]
    simp only [bareB, alikeB, ref0, refR, len0, one0, toList_nil, NodeT.kind, NodeT.op, NodeT.x, NodeT.s, NodeT.b, NodeT.f, NodeT.ref, NodeT.to, NodeT.args, Bool.true_or, Bool.false_or, decide_true, Bool.true_and, Bool.and_true]
    refine congrArg (fun z => Ending.returned (.bool z)) ?_
    cases b <;> (try simp only [Bool.not_true, Bool.not_false, decide_true, decide_false, Bool.and_false, Bool.false_and, Bool.and_true, Bool.true_eq_false]) <;> ac_rfl
  by_cases h6 : t.kind = 6
  · refine (made12_6 t a cap w h6).mono fun e w' h => ⟨h.1.trans ?_, h.2⟩
    obtain ⟨k, op, x, s, b, f, r, q, args⟩ := t
    simp only [NodeT.kind] at h6
    subst h6
    simp only [madeB, reduceIte, Int.reduceEq]
    simp only [bareB, alikeB, refR, len0, one0, toList_nil, NodeT.kind, NodeT.op, NodeT.x, NodeT.s, NodeT.b, NodeT.f, NodeT.ref, NodeT.to, NodeT.args, Bool.true_or, Bool.false_or, decide_true, Bool.true_and, Bool.and_true]
    refine congrArg (fun z => Ending.returned (.bool z)) ?_
    cases b <;> (try simp only [Bool.not_true, Bool.not_false, decide_true, decide_false, Bool.and_false, Bool.false_and, Bool.and_true, Bool.true_eq_false]) <;> ac_rfl
  by_cases h7 : t.kind = 7
  · refine (made12_7 t a cap w h7).mono fun e w' h => ⟨h.1.trans ?_, h.2⟩
    obtain ⟨k, op, x, s, b, f, r, q, args⟩ := t
    simp only [NodeT.kind] at h7
    subst h7
    simp only [madeB, reduceIte, Int.reduceEq]
    simp only [bareB, alikeB, ref0, len1, one0, toList_nil, NodeT.kind, NodeT.op, NodeT.x, NodeT.s, NodeT.b, NodeT.f, NodeT.ref, NodeT.to, NodeT.args, Bool.true_or, Bool.false_or, decide_true, Bool.true_and, Bool.and_true]
    refine congrArg (fun z => Ending.returned (.bool z)) ?_
    cases b <;> (try simp only [Bool.not_true, Bool.not_false, decide_true, decide_false, Bool.and_false, Bool.false_and, Bool.and_true, Bool.true_eq_false]) <;> ac_rfl
  by_cases h8 : t.kind = 8
  · refine (made12_8 t a cap w h8).mono fun e w' h => ⟨h.1.trans ?_, h.2⟩
    obtain ⟨k, op, x, s, b, f, r, q, args⟩ := t
    simp only [NodeT.kind] at h8
    subst h8
    simp only [madeB, reduceIte, Int.reduceEq]
    simp only [bareB, alikeB, ref0, len2, one0, toList_nil, NodeT.kind, NodeT.op, NodeT.x, NodeT.s, NodeT.b, NodeT.f, NodeT.ref, NodeT.to, NodeT.args, Bool.true_or, Bool.false_or, decide_true, Bool.true_and, Bool.and_true]
    refine congrArg (fun z => Ending.returned (.bool z)) ?_
    cases b <;> (try simp only [Bool.not_true, Bool.not_false, decide_true, decide_false, Bool.and_false, Bool.false_and, Bool.and_true, Bool.true_eq_false]) <;> ac_rfl
  by_cases h9 : t.kind = 9
  · refine (made12_9 t a cap w h9).mono fun e w' h => ⟨h.1.trans ?_, h.2⟩
    obtain ⟨k, op, x, s, b, f, r, q, args⟩ := t
    simp only [NodeT.kind] at h9
    subst h9
    simp only [madeB, reduceIte, Int.reduceEq]
    simp only [bareB, alikeB, ref0, one0, NodeT.kind, NodeT.op, NodeT.x, NodeT.s, NodeT.b, NodeT.f, NodeT.ref, NodeT.to, NodeT.args, Bool.true_or, Bool.false_or, decide_true, Bool.true_and, Bool.and_true, beq_self_eq_true]
    refine congrArg (fun z => Ending.returned (.bool z)) ?_
    cases b <;> (try simp only [Bool.not_true, Bool.not_false, decide_true, decide_false, Bool.and_false, Bool.false_and, Bool.and_true, Bool.true_eq_false]) <;> ac_rfl
  have hm : madeB t = false := by
    obtain ⟨k, op, x, s, b, f, r, q, args⟩ := t
    simp only [NodeT.kind] at h1 h2 h3 h4 h5 h6 h7 h8 h9
    simp only [madeB, h1, h2, h3, h4, h5, h6, h7, h8, h9, if_false]
  rw [hm]
  have e1 : (t.kind == 1) = false := by simpa using h1
  have e2 : (t.kind == 2) = false := by simpa using h2
  have e3 : (t.kind == 3) = false := by simpa using h3
  have e4 : (t.kind == 4) = false := by simpa using h4
  have e5 : (t.kind == 5) = false := by simpa using h5
  have e6 : (t.kind == 6) = false := by simpa using h6
  have e7 : (t.kind == 7) = false := by simpa using h7
  have e8 : (t.kind == 8) = false := by simpa using h8
  have e9 : (t.kind == 9) = false := by simpa using h9
  obtain ⟨w0, hw0, hg0, hs0, hN⟩ := boxN w t a t.args.length cap 44
  have c0 := hN.c0
  have HG0 := Lib.hid hg0
  clear h1 h2 h3 h4 h5 h6 h7 h8 h9 hN hg0 hm
  go_enter Tryz.func129, Tryz.ntmps129
  go_wp2_with fail
  go_ret
  exact ⟨rfl, HG0.out⟩
end
end Go.Proofs.YtideclfpbpjebaaGreatDoor
