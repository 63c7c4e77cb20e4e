import Derived.Test.YtfpdleljhbkehaaGreatDoorB1
import Derived.Test.YtfpdleljhbkehaaGreatDoorW43
import Derived.Test.YtfpdleljhbkehaaGreatDoorA3
/- What a number's bits tell: two numbers stand as their bits do; Class, Negative, place. -/
namespace Go.Proofs.YtfpdleljhbkehaaGreatDoor
open Go.RowKit Go.Sort

def valR (r : Nat) : Nat := if r < 4503599627370496 then r else (4503599627370496 + r % 4503599627370496) * 2 ^ (r / 4503599627370496 - 1)
theorem valR_step (r : Nat) : valR r < valR (r + 1) := by
  unfold valR
  by_cases h1 : r + 1 < 4503599627370496
  · rw [if_pos (by omega), if_pos h1]; omega
  · rw [if_neg h1]
    by_cases h2 : r < 4503599627370496
    · have : r + 1 = 4503599627370496 := by omega
      rw [if_pos h2, this]
      simp; omega
    · rw [if_neg h2]
      by_cases h3 : r % 4503599627370496 + 1 < 4503599627370496
      · have e1 : (r + 1) % 4503599627370496 = r % 4503599627370496 + 1 := by omega
        have e2 : (r + 1) / 4503599627370496 = r / 4503599627370496 := by omega
        rw [e1, e2]
        exact Nat.mul_lt_mul_of_pos_right (by omega) (Nat.two_pow_pos _)
      · have e1 : (r + 1) % 4503599627370496 = 0 := by omega
        have e2 : (r + 1) / 4503599627370496 - 1 = (r / 4503599627370496 - 1) + 1 := by omega
        rw [e1, e2, Nat.pow_succ]
        have hp := Nat.two_pow_pos (r / 4503599627370496 - 1)
        generalize 2 ^ (r / 4503599627370496 - 1) = p at hp
        have : r % 4503599627370496 ≤ 4503599627370495 := by omega
        calc (4503599627370496 + r % 4503599627370496) * p ≤ 9007199254740991 * p := Nat.mul_le_mul_right _ (by omega)
          _ < (4503599627370496 + 0) * (p * 2) := by omega
theorem valR_lt {r q : Nat} (h : r < q) : valR r < valR q := by
  induction q with
  | zero => omega
  | succ q ih =>
    rcases Nat.lt_or_ge r q with h1 | h1
    · exact Nat.lt_trans (ih h1) (valR_step q)
    · obtain rfl : r = q := by omega
      exact valR_step r
theorem valR_compare (r q : Nat) : compare ((valR r : Nat) : Int) ((valR q : Nat) : Int) = compare r q := by
  rcases Nat.lt_trichotomy r q with h | h | h
  · rw [Nat.compare_eq_lt.2 h, Int.compare_eq_lt]; exact_mod_cast valR_lt h
  · subst h; rw [Nat.compare_eq_eq.2 rfl, Int.compare_eq_eq.2 rfl]
  · rw [Nat.compare_eq_gt.2 h, Int.compare_eq_gt]; exact_mod_cast valR_lt h
/-- A number's datum has this value. -/
theorem read_num {x : Nat} (h : x < 9218868437227405312) : ∃ m e : Nat, (FloatKind.format .f64).read x = .number false m (-1074 + e) ∧ m * 2 ^ e = valR x := by
  have e0 : (FloatKind.format .f64).signWeight = 9223372036854775808 := by decide
  have e2 : (FloatKind.format .f64).infRung = 9218868437227405312 := by decide
  have e3 : (FloatKind.format .f64).binade = 4503599627370496 := by decide
  have e4 : (FloatKind.format .f64).leastPlace = -1074 := by decide
  unfold Ieee.Format.read valR
  simp only [e0, e2, e3, e4]
  have e5 : x % 9223372036854775808 = x := Nat.mod_eq_of_lt (by omega)
  have e6 : (x / 9223372036854775808 % 2 == 1) = false := by rw [Nat.div_eq_of_lt (by omega)]; rfl
  rw [e5, e6]
  by_cases h1 : x < 4503599627370496
  · rw [if_pos h1, if_pos h1]
    exact ⟨x, 0, rfl, by simp⟩
  · rw [if_neg h1, if_neg h1, if_pos h]
    exact ⟨_, _, rfl, rfl⟩
theorem compare_mul (a b p : Nat) (hp : 0 < p) : compare ((a * p : Nat) : Int) ((b * p : Nat) : Int) = compare (a : Int) (b : Int) := by
  rcases Nat.lt_trichotomy a b with h | h | h
  · have h2 : a * p < b * p := Nat.mul_lt_mul_of_pos_right h hp
    have e1 : compare (a : Int) (b : Int) = .lt := Int.compare_eq_lt.2 (by omega)
    rw [e1]; exact Int.compare_eq_lt.2 (by omega)
  · subst h; rw [Int.compare_eq_eq.2 rfl, Int.compare_eq_eq.2 rfl]
  · have h2 : b * p < a * p := Nat.mul_lt_mul_of_pos_right h hp
    have e1 : compare (a : Int) (b : Int) = .gt := Int.compare_eq_gt.2 (by omega)
    rw [e1]; exact Int.compare_eq_gt.2 (by omega)
/-- Two numbers that are not below nought stand as their bits do. -/
theorem order_bits {x y : Nat} (hx : x < 9218868437227405312) (hy : y < 9218868437227405312) : (FloatKind.format .f64).order x y = some (compare x y) := by
  obtain ⟨m, e, h1, h2⟩ := read_num hx
  obtain ⟨n, f, h3, h4⟩ := read_num hy
  unfold Ieee.Format.order
  rw [h1, h3]
  simp only [Ieee.Datum.order]
  congr 1
  rcases Nat.le_total e f with h | h
  · obtain ⟨d, rfl⟩ := Nat.exists_eq_add_of_le h
    have e1 : ((-1074 + (e : Int)) - min (-1074 + (e : Int)) (-1074 + ((e + d : Nat) : Int))).toNat = 0 := by omega
    have e2 : ((-1074 + ((e + d : Nat) : Int)) - min (-1074 + (e : Int)) (-1074 + ((e + d : Nat) : Int))).toNat = d := by omega
    rw [e1, e2, ← valR_compare, ← h2, ← h4, Nat.pow_add, ← Nat.mul_assoc]
    have a1 : Ieee.signed false m 0 = ((m : Nat) : Int) := by simp [Ieee.signed]
    have a2 : Ieee.signed false n d = ((n * 2 ^ d : Nat) : Int) := by simp [Ieee.signed, Nat.shiftLeft_eq]
    rw [a1, a2, Nat.mul_right_comm, compare_mul _ _ _ (Nat.two_pow_pos e)]
  · obtain ⟨d, rfl⟩ := Nat.exists_eq_add_of_le h
    have e1 : ((-1074 + ((f + d : Nat) : Int)) - min (-1074 + ((f + d : Nat) : Int)) (-1074 + (f : Int))).toNat = d := by omega
    have e2 : ((-1074 + (f : Int)) - min (-1074 + ((f + d : Nat) : Int)) (-1074 + (f : Int))).toNat = 0 := by omega
    rw [e1, e2, ← valR_compare, ← h2, ← h4, Nat.pow_add, ← Nat.mul_assoc]
    have a1 : Ieee.signed false n 0 = ((n : Nat) : Int) := by simp [Ieee.signed]
    have a2 : Ieee.signed false m d = ((m * 2 ^ d : Nat) : Int) := by simp [Ieee.signed, Nat.shiftLeft_eq]
    rw [a1, a2, Nat.mul_right_comm, compare_mul _ _ _ (Nat.two_pow_pos f)]
theorem absX_eq (x : Nat) : absX x = x % 9223372036854775808 := by unfold absX; rw [andNot_sign]; rfl
theorem ordX_self (x : Nat) : (ordX x x != some .eq) = nanX x := order_self x
theorem nanX_low {r : Nat} (h : r ≤ 9218868437227405312) : nanX r = false := by unfold nanX; rw [decide_eq_false_iff_not]; omega
theorem ord_inf : ordX 9218868437227405312 9218868437227405311 = some .gt := by decide
theorem class_num {x : Nat} : decide (2 < classX x) = decide (x % 9223372036854775808 < 9218868437227405312) := by
  unfold classX
  rw [ordX_self, absX_eq]
  by_cases h : 9218868437227405312 < x % 9223372036854775808
  · have hn : nanX x = true := by unfold nanX; simpa using h
    rw [hn, if_pos rfl]
    rw [decide_eq_decide]; omega
  · have hn : nanX x = false := by unfold nanX; simpa using h
    rw [hn]
    by_cases h2 : x % 9223372036854775808 = 9218868437227405312
    · rw [h2, ord_inf]; simp
    · have hlt : x % 9223372036854775808 < 9218868437227405312 := by omega
      have e1 : ordX (x % 9223372036854775808) 9218868437227405311 = some (compare (x % 9223372036854775808) 9218868437227405311) := order_bits hlt (by decide)
      rw [e1]
      have e2 : (some (compare (x % 9223372036854775808) 9218868437227405311) == some Ordering.gt) = false := by
        rw [beq_eq_false_iff_ne]
        intro e
        have := Nat.compare_eq_gt.1 (Option.some.inj e)
        omega
      rw [e2]
      have e3 : decide (x % 9223372036854775808 < 9218868437227405312) = true := by simpa using hlt
      rw [e3]
      simp only [Bool.false_eq_true, if_false]
      split
      · rfl
      · split <;> rfl
theorem sign_eq {x : Nat} (h : x < 18446744073709551616) : signX x = !((x : Int) / 9223372036854775808 == 0) := by
  unfold signX wrap64
  rw [Bool.eq_iff_iff]
  simp only [decide_eq_true_eq, Bool.not_eq_true', beq_eq_false_iff_ne, ne_eq]
  omega
theorem num_eq {x : Nat} (h : x < 18446744073709551616) : (decide (2 < classX x) && !negX x) = (decide (x % 9223372036854775808 < 9218868437227405312) && ((x : Int) / 9223372036854775808 == 0)) := by
  rw [class_num]
  by_cases h1 : x % 9223372036854775808 < 9218868437227405312
  · have hn : nanX x = false := by unfold nanX; rw [decide_eq_false_iff_not]; omega
    have h2 : ((FloatKind.format .f64).order x x == some .eq) = true := by
      have := order_self x
      rw [hn] at this
      simpa [bne] using this
    unfold negX
    rw [h2, sign_eq h]; simp
  · simp [h1]
/-- Places tell numbers apart, but for the NaNs. -/
theorem place_one {x y : Nat} (hx : x < 18446744073709551616) (hy : y < 18446744073709551616) : (placeX x = placeX y) ↔ (oneX x = oneX y) := by
  have hp : ∀ {x : Nat}, x < 18446744073709551616 → placeX x = if nanX x = true then 9223372036854775807 else if 9223372036854775808 ≤ x then -((x % 9223372036854775808 : Nat) : Int) - 1 else ((x % 9223372036854775808 : Nat) : Int) := by
    intro x hx
    unfold placeX
    rw [ordX_self, absX_eq, sign_eq hx]
    by_cases hn : nanX x = true
    · rw [if_pos hn, if_pos hn]
    · rw [if_neg hn, if_neg hn]
      by_cases h1 : 9223372036854775808 ≤ x
      · rw [if_pos h1, if_pos (by simp; omega)]
        unfold wrap64; omega
      · rw [if_neg h1, if_neg (by simp; omega)]
        unfold wrap64; omega
  have ho : ∀ {x : Nat}, nanX x = false → x % 9223372036854775808 ≤ 9218868437227405312 := fun {x} h => by unfold nanX at h; rw [decide_eq_false_iff_not] at h; omega
  rw [hp hx, hp hy, oneX_eq, oneX_eq]
  cases hnx : nanX x <;> cases hny : nanX y
  · have h1 := ho hnx
    have h2 := ho hny
    simp only [Bool.false_eq_true, if_false]
    split <;> split <;> omega
  · have h1 := ho hnx
    simp only [Bool.false_eq_true, if_false, if_true]
    constructor
    · intro h; split at h <;> omega
    · intro h
      exfalso
      rw [h] at hnx
      exact absurd hnx (by decide)
  · have h1 := ho hny
    simp only [Bool.false_eq_true, if_false, if_true]
    constructor
    · intro h; split at h <;> omega
    · intro h
      exfalso
      rw [← h] at hny
      exact absurd hny (by decide)
  · simp
end Go.Proofs.YtfpdleljhbkehaaGreatDoor
/- The document's Count and Depth of a formula. -/
namespace Go.Proofs.YtfpdleljhbkehaaGreatDoor
open Go.RowKit Go.Sort

theorem wrap_swap (x c : Int) : wrap64 (wrap64 (x + 1) + c) = wrap64 (wrap64 (x + c) + 1) := by unfold wrap64; omega
set_option maxRecDepth 100000 in
set_option maxHeartbeats 4000000 in
theorem count12_any : ∀ (n : Nat) (t : NodeT) (a : Option Addr) (cap : Nat) (w : World), ArgsIn w n (.slice a t.args.length cap) t.args →
    Calls Tryz.prog 68 #[nodeV t a t.args.length cap] w fun e w' => e = .returned (.int .i64 (measT t).1) ∧ Gr w w' := by
  intro n
  induction n using Nat.strongRecOn with
  | ind n ih =>
    intro t a cap w hin
    have HIN := Lib.hid hin
    obtain ⟨_, _, he, q1, q2⟩ := hin.shape
    cases he
    have IH := Lib.hid ih
    obtain ⟨w0, hw0, hg0, hs0, hN⟩ := boxN w t a t.args.length cap 31
    have HG0 := Lib.hid hg0
    have HN := Lib.hid hN
    have c14 := hN.c14
    rw [Nat.zero_add] at c14
    generalize hmt : (measT t).1 = mt
    have HM := Lib.hid hmt
    have HW : Hid ((measL (t.args.drop 0) 0 0).1 = (measL t.args 0 0).1) := by rw [List.drop_zero]; rfl
    clear hin hN hg0 ih hmt
    go_enter Tryz.func68, Tryz.ntmps68
    go_wp2_with fail
    clear hw0
    go_loopw [3, 4] (fun s3 s4 wr => ∃ (i : Nat) (z x y : Int), i ≤ t.args.length ∧ s4 = .int .i64 i ∧ s3 = .int .i64 z ∧ Hid (z = wrap64 (x + 1)) ∧ Hid ((measL (t.args.drop i) x y).1 = (measL t.args 0 0).1) ∧ Hid (Gr w0 wr)) (fun _ s4 _ => t.args.length - (intOf s4).toNat)
    case atStart => exact ⟨0, 1, 0, 0, Nat.zero_le _, rfl, rfl, by unfold Hid wrap64; omega, HW, Gr.refl _⟩
    case round =>
      obtain ⟨i, z, x, y, hi, rfl, rfl, HZ, HWi, HG⟩ := hrel
      have c14r := (HG.out.xt.cells).1 w.heap.size 14 (by omega)
      rw [c14] at c14r
      by_cases hlt : i < t.args.length
      · have hii : (i : Int) < (t.args.length : Int) := by omega
        obtain ⟨u, hx⟩ : ∃ u, t.args[i]? = some u := ⟨t.args[i], by simp [hlt]⟩
        have hdr := drop_at hx
        obtain ⟨n', b, off, a', c', hn, rfl, hA, hI⟩ := HIN.out.at hx
        have hxw : Xt w wr := HG0.out.xt.trans HG.out.xt
        obtain ⟨d0, d1, d2, d3, d4, d5, d6, d7, d8, d9, d10, d11, d12, d13, d14⟩ := hA.xt hxw
        have hcall := IH.out n' (by omega) u a' c' wr (hI.xt hxw)
        have HSTEP : Hid ((measL (t.args.drop (i + 1)) (wrap64 (x + (measT u).1)) (max y (measT u).2)).1 = (measL t.args 0 0).1) := by
          have h := HWi.out
          rw [hdr] at h
          simp only [measL] at h
          exact h
        have HCALL := Lib.hid hcall
        generalize measT u = mu at HSTEP HCALL
        obtain ⟨m1, m2⟩ := mu
        simp only at HSTEP HCALL
        have HZ2 : Hid (wrap64 (z + m1) = wrap64 (wrap64 (x + m1) + 1)) := by rw [HZ.out]; exact wrap_swap x m1
        clear hx hdr hA hI hn hcall hxw
        go_wp2_with fail
        refine (HCALL.out).mono ?_
        rintro e w2 ⟨rfl, hg2⟩
        have HG2 := Lib.hid hg2
        clear hg2 d0 d1 d2 d3 d4 d5 d6 d7 d8 d9 d10 d11 d12 d13 d14
        go_wp2_with fail
        go_roundw
        case rel => exact ⟨i + 1, _, _, _, by omega, by go_num, rfl, HZ2, HSTEP, HG.out.trans HG2.out⟩
        case measure => simp [intOf]; omega
      · have HE : Hid (x = (measL t.args 0 0).1) := by
          have h := HWi.out
          rw [List.drop_eq_nil_of_le (by omega)] at h
          simp only [measL] at h
          exact h
        go_wp2_with fail
        go_ret
        refine ⟨?_, HG0.out.trans HG.out⟩
        refine congrArg (fun q => Ending.returned (.int .i64 q)) ?_
        rw [← HM.out, measT_eq, ← HE.out]
        exact HZ.out
set_option maxRecDepth 100000 in
set_option maxHeartbeats 4000000 in
theorem depth12_any : ∀ (n : Nat) (t : NodeT) (a : Option Addr) (cap : Nat) (w : World), ArgsIn w n (.slice a t.args.length cap) t.args →
    Calls Tryz.prog 69 #[nodeV t a t.args.length cap] w fun e w' => e = .returned (.int .i64 (measT t).2) ∧ Gr w w' := by
  intro n
  induction n using Nat.strongRecOn with
  | ind n ih =>
    intro t a cap w hin
    have HIN := Lib.hid hin
    obtain ⟨_, _, he, q1, q2⟩ := hin.shape
    cases he
    have IH := Lib.hid ih
    obtain ⟨w0, hw0, hg0, hs0, hN⟩ := boxN w t a t.args.length cap 31
    have HG0 := Lib.hid hg0
    have HN := Lib.hid hN
    have c14 := hN.c14
    rw [Nat.zero_add] at c14
    generalize hmt : (measT t).2 = mt
    have HM := Lib.hid hmt
    have HW : Hid ((measL (t.args.drop 0) 0 0).2 = (measL t.args 0 0).2) := by rw [List.drop_zero]; rfl
    clear hin hN hg0 ih hmt
    go_enter Tryz.func69, Tryz.ntmps69
    go_wp2_with fail
    clear hw0
    go_loopw [3, 4] (fun s3 s4 wr => ∃ (i : Nat) (x y : Int), i ≤ t.args.length ∧ s4 = .int .i64 i ∧ s3 = .int .i64 y ∧ Hid ((measL (t.args.drop i) x y).2 = (measL t.args 0 0).2) ∧ Hid (Gr w0 wr)) (fun _ s4 _ => t.args.length - (intOf s4).toNat)
    case atStart => exact ⟨0, 0, 0, Nat.zero_le _, rfl, rfl, HW, Gr.refl _⟩
    case round =>
      obtain ⟨i, x, y, hi, rfl, rfl, HWi, HG⟩ := hrel
      have c14r := (HG.out.xt.cells).1 w.heap.size 14 (by omega)
      rw [c14] at c14r
      by_cases hlt : i < t.args.length
      · have hii : (i : Int) < (t.args.length : Int) := by omega
        obtain ⟨u, hx⟩ : ∃ u, t.args[i]? = some u := ⟨t.args[i], by simp [hlt]⟩
        have hdr := drop_at hx
        obtain ⟨n', b, off, a', c', hn, rfl, hA, hI⟩ := HIN.out.at hx
        have hxw : Xt w wr := HG0.out.xt.trans HG.out.xt
        obtain ⟨d0, d1, d2, d3, d4, d5, d6, d7, d8, d9, d10, d11, d12, d13, d14⟩ := hA.xt hxw
        have hcall := IH.out n' (by omega) u a' c' wr (hI.xt hxw)
        have HSTEP : Hid ((measL (t.args.drop (i + 1)) (wrap64 (x + (measT u).1)) (max y (measT u).2)).2 = (measL t.args 0 0).2) := by
          have h := HWi.out
          rw [hdr] at h
          simp only [measL] at h
          exact h
        have HCALL := Lib.hid hcall
        generalize measT u = mu at HSTEP HCALL
        obtain ⟨m1, m2⟩ := mu
        simp only at HSTEP HCALL
        clear hx hdr hA hI hn hcall hxw
        go_wp2_with fail
        refine (HCALL.out).mono ?_
        rintro e w2 ⟨rfl, hg2⟩
        have HG2 := Lib.hid hg2
        clear hg2 d0 d1 d2 d3 d4 d5 d6 d7 d8 d9 d10 d11 d12 d13 d14
        go_wp2_with fail
        go_roundw
        case rel => exact ⟨i + 1, _, _, by omega, by go_num, rfl, HSTEP, HG.out.trans HG2.out⟩
        case measure => simp [intOf]; omega
      · have HE : Hid (y = (measL t.args 0 0).2) := by
          have h := HWi.out
          rw [List.drop_eq_nil_of_le (by omega)] at h
          simp only [measL] at h
          exact h
        go_wp2_with fail
        go_ret
        refine ⟨?_, HG0.out.trans HG.out⟩
        refine congrArg (fun q => Ending.returned (.int .i64 q)) ?_
        rw [← HM.out, measT_eq, ← HE.out]
end Go.Proofs.YtfpdleljhbkehaaGreatDoor
