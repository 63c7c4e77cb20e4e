import Derived.Test.YtlgkaipgdhcajaaGreatDoorW7
import Derived.Lib.Bytealg
import Derived.Lib.Hide
import Derived.Test.YtlgkaipgdhcajaaGreatDoorA13
import Derived.Test.YtlgkaipgdhcajaaGreatDoorV9
import Derived.Test.YtlgkaipgdhcajaaGreatDoorW19
/- Two values are the same: value.Same answers as their keys do. -/
namespace Go.Proofs.YtlgkaipgdhcajaaGreatDoor
open Go.RowKit Go.Sort

/-! ### value.Same -/
theorem compare_0 : ∀ (a b : List UInt8), Lib.compareBytes a b = 0 ↔ a = b
  | [], [] => by simp [Lib.compareBytes]
  | [], _ :: _ => by simp [Lib.compareBytes]
  | _ :: _, [] => by simp [Lib.compareBytes]
  | x :: a, y :: b => by
    unfold Lib.compareBytes
    by_cases h1 : x < y
    · simp only [h1, if_true]
      refine ⟨fun h => by simp at h, fun h => ?_⟩
      cases h; exact absurd h1 (UInt8.lt_irrefl _)
    · by_cases h2 : y < x
      · simp only [h1, h2, if_false, if_true]
        refine ⟨fun h => by simp at h, fun h => ?_⟩
        cases h; exact absurd h2 (UInt8.lt_irrefl _)
      · have h3 : x = y := by
          rw [UInt8.not_lt] at h1 h2
          exact UInt8.le_antisymm h2 h1
        subst h3
        simp only [h1, if_false, compare_0 a b, List.cons.injEq, true_and]
set_option maxRecDepth 100000 in
theorem bytesCompare_any (a b : ByteArray) (w : World) : Calls Tryz.prog 122 #[.string a, .string b] w fun e w' => e = .returned (.int .i64 (Lib.compareBytes a.data.toList b.data.toList)) ∧ w = w' := by
  go_enter Tryz.func122, Tryz.ntmps122
  go_wp2
  rw [run_callFunc_extern Tryz.func134 (by kernel_rfl) (by kernel_rfl) (by kernel_rfl) (e := Extern.BytealgCompare.compare) (by kernel_rfl), Lib.run_compareString]
  simp only [Result.andThen]
  rw [Oper.upon_value]
  go_wp2
  go_ret
  exact ⟨rfl, rfl⟩
theorem sCompare_any (a b : ByteArray) (w : World) : Calls Tryz.prog 105 #[.string a, .string b] w fun e w' => e = .returned (.int .i64 (Lib.compareBytes a.data.toList b.data.toList)) ∧ w = w' := by
  have HC := Lib.hid (bytesCompare_any a b w)
  go_enter Tryz.func105, Tryz.ntmps105
  go_wp2_with (refine (HC.out).mono ?_; rintro e w' ⟨rfl, rfl⟩)
  go_ret
  exact ⟨rfl, rfl⟩
def oneB (b : Bool) : Int := if b then 1 else 0
theorem vone_any (b : Bool) (w : World) : Calls Tryz.prog 106 #[.bool b] w fun e w' => e = .returned (.int .i64 (oneB b)) ∧ w = w' := by
  cases b <;> (go_enter Tryz.func106, Tryz.ntmps106; go_wp2; go_ret; exact ⟨rfl, rfl⟩)
def placeX (x : Nat) : Int := if ordX x x != some .eq then 9223372036854775807 else if signX x = true then wrap64 (wrap64 (-(wrap64 (absX x))) - 1) else wrap64 (absX x)
set_option maxHeartbeats 1000000 in
theorem place_any (x : Nat) (w : World) : Calls Tryz.prog 121 #[.float .f64 x] w fun e w' => e = .returned (.int .i64 (placeX x)) ∧ w = w' := by
  have HC := Lib.hid (Abs_any x w)
  have HS := Lib.hid (Signbit_any x w)
  generalize hn : placeX x = ans
  have HA := Lib.hid hn
  unfold placeX ordX at HA
  generalize absX x = ax at HC HA
  clear hn
  go_enter Tryz.func121, Tryz.ntmps121
  go_wp2_with (first | (go_at_call 123; refine (HC.out).mono ?_; rintro e w' ⟨rfl, rfl⟩) | (go_at_call 125; refine (HS.out).mono ?_; rintro e w' ⟨rfl, rfl⟩))
  all_goals (go_ret; refine ⟨?_, rfl⟩; rw [← HA.out]; simp [*]; done)
def pordX (a b : Nat) : Int := cmpI (placeX a) (placeX b)
theorem pOrder_any (a b : Nat) (w : World) : Calls Tryz.prog 104 #[.float .f64 a, .float .f64 b] w fun e w' => e = .returned (.int .i64 (pordX a b)) ∧ w = w' := by
  have HC := Lib.hid (place_any a w)
  have HS := Lib.hid (place_any b w)
  generalize hn : pordX a b = ans
  have HA := Lib.hid hn
  unfold pordX cmpI at HA
  generalize placeX a = pa at HC HA
  generalize placeX b = pb at HS HA
  clear hn
  go_enter Tryz.func104, Tryz.ntmps104
  go_wp2_with (first | (refine (HC.out).mono ?_; clear HC; rintro e w' ⟨rfl, rfl⟩) | (refine (HS.out).mono ?_; clear HS; rintro e w' ⟨rfl, rfl⟩))
  all_goals (go_ret; refine ⟨?_, rfl⟩; rw [← HA.out])
  all_goals (first | (have hq1 : pa < pb := by omega
                      rw [if_pos hq1]; rfl) | (have hq1 : ¬ pa < pb := by omega
                                               have hq2 : pb < pa := by omega
                                               rw [if_neg hq1, if_pos hq2]; rfl) | (have hq1 : ¬ pa < pb := by omega
                                                                                    have hq2 : ¬ pb < pa := by omega
                                                                                    rw [if_neg hq1, if_neg hq2]; rfl))
/-- How two values stand, their kinds being the same. -/
def restO (a b : ValT) : Int :=
  if (a.kind == 1) = true then pordX a.x b.x else if (a.kind == 2) = true then Lib.compareBytes a.s.data.toList b.s.data.toList
  else if (a.kind == 3) = true then cmpI (oneB a.b) (oneB b.b) else if (a.kind == 4) = true then cmpI a.f b.f else 0
def orderV (a b : ValT) : Int := if (cmpI a.kind b.kind == 0) = true then restO a b else cmpI a.kind b.kind
set_option maxRecDepth 100000 in
set_option maxHeartbeats 4000000 in
theorem vOrder_any (a b : ValT) (w : World) : Calls Tryz.prog 89 #[valV a, valV b] w fun e w' => e = .returned (.int .i64 (orderV a b)) ∧ Gr w w' := by
  obtain ⟨w0, hw0, hg0, hs0, c0, c1, c2, c3, c4⟩ := boxV w a 48
  obtain ⟨w1, hw1, hg1, hs1, d0, d1, d2, d3, d4⟩ := boxV w0 b 48
  rw [hs0] at d0 d1 d2 d3 d4
  have cc := fun o => (hg1.xt.cells).1 w.heap.size o (by omega)
  have k0 := (cc 0).trans c0
  have k1 := (cc 1).trans c1
  have k2 := (cc 2).trans c2
  have k3 := (cc 3).trans c3
  have k4 := (cc 4).trans c4
  clear c0 c1 c2 c3 c4 cc hs1
  have HG := Lib.hid (hg0.trans hg1)
  clear hg0 hg1
  have HK := Lib.hid (fun w => compare_any a.kind b.kind w)
  have HF := Lib.hid (fun w => compare_any a.f b.f w)
  have HO := Lib.hid (fun w => compare_any (oneB a.b) (oneB b.b) w)
  have HP := Lib.hid (fun w => pOrder_any a.x b.x w)
  have HS := Lib.hid (fun w => sCompare_any a.s b.s w)
  have H1 := Lib.hid (fun w => vone_any a.b w)
  have H2 := Lib.hid (fun w => vone_any b.b w)
  generalize hn : orderV a b = ans
  have HA := Lib.hid hn
  unfold orderV restO at HA
  clear hn
  generalize cmpI a.kind b.kind = ck at HK HA
  generalize cmpI a.f b.f = cf at HF HA
  generalize cmpI (oneB a.b) (oneB b.b) = co at HO HA
  generalize pordX a.x b.x = po at HP HA
  generalize Lib.compareBytes a.s.data.toList b.s.data.toList = so at HS HA
  generalize oneB a.b = oa at HO H1
  generalize oneB b.b = ob at HO H2
  cases hck : ck == 0
  · go_enter Tryz.func89, Tryz.ntmps89
    go_wp2_with (go_at_call 103; refine (HK.out _).mono ?_; rintro e w' ⟨rfl, rfl⟩)
    go_ret
    exact ⟨by rw [← HA.out]; simp [hck], HG.out⟩
  cases h1 : a.kind == 1
  rotate_left
  · go_enter Tryz.func89, Tryz.ntmps89
    go_wp2_with (first | (go_at_call 103; refine (HK.out _).mono ?_; rintro e w' ⟨rfl, rfl⟩) | (go_at_call 104; refine (HP.out _).mono ?_; rintro e w' ⟨rfl, rfl⟩))
    go_ret
    exact ⟨by rw [← HA.out]; simp [hck, h1], HG.out⟩
  cases h2 : a.kind == 2
  rotate_left
  · go_enter Tryz.func89, Tryz.ntmps89
    go_wp2_with (first | (go_at_call 103; refine (HK.out _).mono ?_; rintro e w' ⟨rfl, rfl⟩) | (go_at_call 105; refine (HS.out _).mono ?_; rintro e w' ⟨rfl, rfl⟩))
    go_ret
    exact ⟨by rw [← HA.out]; simp [hck, h1, h2], HG.out⟩
  cases h3 : a.kind == 3
  rotate_left
  · go_enter Tryz.func89, Tryz.ntmps89
    go_wp2_with (first | (go_at_call 103; refine (HK.out _).mono ?_; clear HK; rintro e w' ⟨rfl, rfl⟩))
    go_quiet (first
      | ((go_at_call 106; exact Calls.quiet_of_same ((H1.out _).mono fun _ _ h => ⟨h.1, h.2.symm⟩)))
      | ((go_at_call 106; exact Calls.quiet_of_same ((H2.out _).mono fun _ _ h => ⟨h.1, h.2.symm⟩)))
      | ((go_at_call 103; exact Calls.quiet_of_same ((HO.out _).mono fun _ _ h => ⟨h.1, h.2.symm⟩))))
    go_wp2_with fail
    go_ret
    exact ⟨by rw [← HA.out]; simp [hck, h1, h2, h3], HG.out.drewN _⟩
  cases h4 : a.kind == 4
  · go_enter Tryz.func89, Tryz.ntmps89
    go_wp2_with (first | (go_at_call 103; refine (HK.out _).mono ?_; clear HK; rintro e w' ⟨rfl, rfl⟩))
    go_ret
    exact ⟨by rw [← HA.out]; simp [hck, h1, h2, h3, h4], HG.out⟩
  · go_enter Tryz.func89, Tryz.ntmps89
    go_wp2_with (first | (go_at_call 103; refine (HK.out _).mono ?_; clear HK; rintro e w' ⟨rfl, rfl⟩) | (go_at_call 103; refine (HF.out _).mono ?_; clear HF; rintro e w' ⟨rfl, rfl⟩))
    go_ret
    exact ⟨by rw [← HA.out]; simp [hck, h1, h2, h3, h4], HG.out⟩
/-- What a value is the same by. -/
inductive KeyV where
  | n (p : Int) | s (l : List UInt8) | b (b : Bool) | f (f : Int) | o
def keyV (v : ValT) : Int × KeyV := (v.kind, if (v.kind == 1) = true then .n (placeX v.x) else if (v.kind == 2) = true then .s v.s.data.toList else if (v.kind == 3) = true then .b v.b else if (v.kind == 4) = true then .f v.f else .o)
theorem cmpI_0 (a b : Int) : cmpI a b = 0 ↔ a = b := by
  unfold cmpI
  split <;> (try split) <;> omega
theorem order_key (a b : ValT) : orderV a b = 0 ↔ keyV a = keyV b := by
  unfold orderV restO keyV
  cases hc : cmpI a.kind b.kind == 0
  · have h : ¬ a.kind = b.kind := by rw [← cmpI_0]; simpa using hc
    simp only [Bool.false_eq_true, if_false]
    refine ⟨fun h2 => absurd ((cmpI_0 _ _).1 h2) h, fun h2 => absurd (congrArg Prod.fst h2) h⟩
  · have h : a.kind = b.kind := by rw [← cmpI_0]; simpa using hc
    rw [h]
    simp only [if_true]
    by_cases h1 : (b.kind == 1) = true
    · simp only [h1, if_true]; unfold pordX; rw [cmpI_0]; simp
    · simp only [h1, Bool.false_eq_true, if_false]
      by_cases h2 : (b.kind == 2) = true
      · simp only [h2, if_true]; rw [compare_0]; simp
      · simp only [h2, Bool.false_eq_true, if_false]
        by_cases h3 : (b.kind == 3) = true
        · simp only [h3, if_true]; rw [cmpI_0]; cases a.b <;> cases b.b <;> simp [oneB]
        · simp only [h3, Bool.false_eq_true, if_false]
          by_cases h4 : (b.kind == 4) = true
          · simp only [h4, if_true]; rw [cmpI_0]; simp
          · simp [h4]
noncomputable def sameVB (a b : ValT) : Bool := @decide (keyV a = keyV b) (Classical.propDecidable _)
theorem vSame_any (a b : ValT) (w : World) : Calls Tryz.prog 53 #[valV a, valV b] w fun e w' => e = .returned (.bool (sameVB a b)) ∧ Gr w w' := by
  obtain ⟨w0, hw0, hg0, hs0, c0, c1, c2, c3, c4⟩ := boxV w a 48
  obtain ⟨w1, hw1, hg1, hs1, d0, d1, d2, d3, d4⟩ := boxV w0 b 48
  rw [hs0] at d0 d1 d2 d3 d4
  have cc := fun o => (hg1.xt.cells).1 w.heap.size o (by omega)
  have k0 := (cc 0).trans c0
  have k1 := (cc 1).trans c1
  have k2 := (cc 2).trans c2
  have k3 := (cc 3).trans c3
  have k4 := (cc 4).trans c4
  clear c0 c1 c2 c3 c4 cc hs1
  have HG := Lib.hid (hg0.trans hg1)
  clear hg0 hg1
  have HC := Lib.hid (vOrder_any a b w1)
  have HK := Lib.hid (order_key a b)
  generalize orderV a b = ov at HC HK
  go_enter Tryz.func53, Tryz.ntmps53
  go_wp2_with (refine (HC.out).mono ?_; rintro e w2 ⟨rfl, hg2⟩; have HG2 := Lib.hid hg2; clear hg2)
  go_ret
  refine ⟨?_, HG.out.trans HG2.out⟩
  have hk := HK.out
  unfold sameVB
  by_cases h : ov = 0
  · have h2 := hk.1 h
    simp [h, h2]
  · have h2 : ¬ keyV a = keyV b := fun e => h (hk.2 e)
    simp [h, h2]
end Go.Proofs.YtlgkaipgdhcajaaGreatDoor
/- What a number's bits tell: two numbers stand as their bits do; Class, Negative, place. -/
namespace Go.Proofs.YtlgkaipgdhcajaaGreatDoor
open Go.RowKit Go.Sort

def valR (r : Nat) : Nat := if r < 4503599627370496 then r else (4503599627370496 + r % 4503599627370496) * 2 ^ (r / 4503599627370496 - 1)
theorem valR_step (r : Nat) : valR r < valR (r + 1) := by
  unfold valR
  by_cases h1 : r + 1 < 4503599627370496
  · rw [if_pos (by omega), if_pos h1]; omega
  · rw [if_neg h1]
    by_cases h2 : r < 4503599627370496
    · have : r + 1 = 4503599627370496 := by omega
      rw [if_pos h2, this]
      simp; omega
    · rw [if_neg h2]
      by_cases h3 : r % 4503599627370496 + 1 < 4503599627370496
      · have e1 : (r + 1) % 4503599627370496 = r % 4503599627370496 + 1 := by omega
        have e2 : (r + 1) / 4503599627370496 = r / 4503599627370496 := by omega
        rw [e1, e2]
        exact Nat.mul_lt_mul_of_pos_right (by omega) (Nat.two_pow_pos _)
      · have e1 : (r + 1) % 4503599627370496 = 0 := by omega
        have e2 : (r + 1) / 4503599627370496 - 1 = (r / 4503599627370496 - 1) + 1 := by omega
        rw [e1, e2, Nat.pow_succ]
        have hp := Nat.two_pow_pos (r / 4503599627370496 - 1)
        generalize 2 ^ (r / 4503599627370496 - 1) = p at hp
        have : r % 4503599627370496 ≤ 4503599627370495 := by omega
        calc (4503599627370496 + r % 4503599627370496) * p ≤ 9007199254740991 * p := Nat.mul_le_mul_right _ (by omega)
          _ < (4503599627370496 + 0) * (p * 2) := by omega
theorem valR_lt {r q : Nat} (h : r < q) : valR r < valR q := by
  induction q with
  | zero => omega
  | succ q ih =>
    rcases Nat.lt_or_ge r q with h1 | h1
    · exact Nat.lt_trans (ih h1) (valR_step q)
    · obtain rfl : r = q := by omega
      exact valR_step r
theorem valR_compare (r q : Nat) : compare ((valR r : Nat) : Int) ((valR q : Nat) : Int) = compare r q := by
  rcases Nat.lt_trichotomy r q with h | h | h
  · rw [Nat.compare_eq_lt.2 h, Int.compare_eq_lt]; exact_mod_cast valR_lt h
  · subst h; rw [Nat.compare_eq_eq.2 rfl, Int.compare_eq_eq.2 rfl]
  · rw [Nat.compare_eq_gt.2 h, Int.compare_eq_gt]; exact_mod_cast valR_lt h
/-- A number's datum has this value. -/
theorem read_num {x : Nat} (h : x < 9218868437227405312) : ∃ m e : Nat, (FloatKind.format .f64).read x = .number false m (-1074 + e) ∧ m * 2 ^ e = valR x := by
  have e0 : (FloatKind.format .f64).signWeight = 9223372036854775808 := by decide
  have e2 : (FloatKind.format .f64).infRung = 9218868437227405312 := by decide
  have e3 : (FloatKind.format .f64).binade = 4503599627370496 := by decide
  have e4 : (FloatKind.format .f64).leastPlace = -1074 := by decide
  unfold Ieee.Format.read valR
  simp only [e0, e2, e3, e4]
  have e5 : x % 9223372036854775808 = x := Nat.mod_eq_of_lt (by omega)
  have e6 : (x / 9223372036854775808 % 2 == 1) = false := by rw [Nat.div_eq_of_lt (by omega)]; rfl
  rw [e5, e6]
  by_cases h1 : x < 4503599627370496
  · rw [if_pos h1, if_pos h1]
    exact ⟨x, 0, rfl, by simp⟩
  · rw [if_neg h1, if_neg h1, if_pos h]
    exact ⟨_, _, rfl, rfl⟩
theorem compare_mul (a b p : Nat) (hp : 0 < p) : compare ((a * p : Nat) : Int) ((b * p : Nat) : Int) = compare (a : Int) (b : Int) := by
  rcases Nat.lt_trichotomy a b with h | h | h
  · have h2 : a * p < b * p := Nat.mul_lt_mul_of_pos_right h hp
    have e1 : compare (a : Int) (b : Int) = .lt := Int.compare_eq_lt.2 (by omega)
    rw [e1]; exact Int.compare_eq_lt.2 (by omega)
  · subst h; rw [Int.compare_eq_eq.2 rfl, Int.compare_eq_eq.2 rfl]
  · have h2 : b * p < a * p := Nat.mul_lt_mul_of_pos_right h hp
    have e1 : compare (a : Int) (b : Int) = .gt := Int.compare_eq_gt.2 (by omega)
    rw [e1]; exact Int.compare_eq_gt.2 (by omega)
/-- Two numbers that are not below nought stand as their bits do. -/
theorem order_bits {x y : Nat} (hx : x < 9218868437227405312) (hy : y < 9218868437227405312) : (FloatKind.format .f64).order x y = some (compare x y) := by
  obtain ⟨m, e, h1, h2⟩ := read_num hx
  obtain ⟨n, f, h3, h4⟩ := read_num hy
  unfold Ieee.Format.order
  rw [h1, h3]
  simp only [Ieee.Datum.order]
  congr 1
  rcases Nat.le_total e f with h | h
  · obtain ⟨d, rfl⟩ := Nat.exists_eq_add_of_le h
    have e1 : ((-1074 + (e : Int)) - min (-1074 + (e : Int)) (-1074 + ((e + d : Nat) : Int))).toNat = 0 := by omega
    have e2 : ((-1074 + ((e + d : Nat) : Int)) - min (-1074 + (e : Int)) (-1074 + ((e + d : Nat) : Int))).toNat = d := by omega
    rw [e1, e2, ← valR_compare, ← h2, ← h4, Nat.pow_add, ← Nat.mul_assoc]
    have a1 : Ieee.signed false m 0 = ((m : Nat) : Int) := by simp [Ieee.signed]
    have a2 : Ieee.signed false n d = ((n * 2 ^ d : Nat) : Int) := by simp [Ieee.signed, Nat.shiftLeft_eq]
    rw [a1, a2, Nat.mul_right_comm, compare_mul _ _ _ (Nat.two_pow_pos e)]
  · obtain ⟨d, rfl⟩ := Nat.exists_eq_add_of_le h
    have e1 : ((-1074 + ((f + d : Nat) : Int)) - min (-1074 + ((f + d : Nat) : Int)) (-1074 + (f : Int))).toNat = d := by omega
    have e2 : ((-1074 + (f : Int)) - min (-1074 + ((f + d : Nat) : Int)) (-1074 + (f : Int))).toNat = 0 := by omega
    rw [e1, e2, ← valR_compare, ← h2, ← h4, Nat.pow_add, ← Nat.mul_assoc]
    have a1 : Ieee.signed false n 0 = ((n : Nat) : Int) := by simp [Ieee.signed]
    have a2 : Ieee.signed false m d = ((m * 2 ^ d : Nat) : Int) := by simp [Ieee.signed, Nat.shiftLeft_eq]
    rw [a1, a2, Nat.mul_right_comm, compare_mul _ _ _ (Nat.two_pow_pos f)]
theorem absX_eq (x : Nat) : absX x = x % 9223372036854775808 := by unfold absX; rw [andNot_sign]; rfl
theorem ordX_self (x : Nat) : (ordX x x != some .eq) = nanX x := order_self x
theorem nanX_low {r : Nat} (h : r ≤ 9218868437227405312) : nanX r = false := by unfold nanX; rw [decide_eq_false_iff_not]; omega
theorem ord_inf : ordX 9218868437227405312 9218868437227405311 = some .gt := by decide
theorem class_num {x : Nat} : decide (2 < classX x) = decide (x % 9223372036854775808 < 9218868437227405312) := by
  unfold classX
  rw [ordX_self, absX_eq]
  by_cases h : 9218868437227405312 < x % 9223372036854775808
  · have hn : nanX x = true := by unfold nanX; simpa using h
    rw [hn, if_pos rfl]
    rw [decide_eq_decide]; omega
  · have hn : nanX x = false := by unfold nanX; simpa using h
    rw [hn]
    by_cases h2 : x % 9223372036854775808 = 9218868437227405312
    · rw [h2, ord_inf]; simp
    · have hlt : x % 9223372036854775808 < 9218868437227405312 := by omega
      have e1 : ordX (x % 9223372036854775808) 9218868437227405311 = some (compare (x % 9223372036854775808) 9218868437227405311) := order_bits hlt (by decide)
      rw [e1]
      have e2 : (some (compare (x % 9223372036854775808) 9218868437227405311) == some Ordering.gt) = false := by
        rw [beq_eq_false_iff_ne]
        intro e
        have := Nat.compare_eq_gt.1 (Option.some.inj e)
        omega
      rw [e2]
      have e3 : decide (x % 9223372036854775808 < 9218868437227405312) = true := by simpa using hlt
      rw [e3]
      simp only [Bool.false_eq_true, if_false]
      split
      · rfl
      · split <;> rfl
theorem sign_eq {x : Nat} (h : x < 18446744073709551616) : signX x = !((x : Int) / 9223372036854775808 == 0) := by
  unfold signX wrap64
  rw [Bool.eq_iff_iff]
  simp only [decide_eq_true_eq, Bool.not_eq_true', beq_eq_false_iff_ne, ne_eq]
  omega
theorem num_eq {x : Nat} (h : x < 18446744073709551616) : (decide (2 < classX x) && !negX x) = (decide (x % 9223372036854775808 < 9218868437227405312) && ((x : Int) / 9223372036854775808 == 0)) := by
  rw [class_num]
  by_cases h1 : x % 9223372036854775808 < 9218868437227405312
  · have hn : nanX x = false := by unfold nanX; rw [decide_eq_false_iff_not]; omega
    have h2 : ((FloatKind.format .f64).order x x == some .eq) = true := by
      have := order_self x
      rw [hn] at this
      simpa [bne] using this
    unfold negX
    rw [h2, sign_eq h]; simp
  · simp [h1]
/-- Places tell numbers apart, but for the NaNs. -/
theorem place_one {x y : Nat} (hx : x < 18446744073709551616) (hy : y < 18446744073709551616) : (placeX x = placeX y) ↔ (oneX x = oneX y) := by
  have hp : ∀ {x : Nat}, x < 18446744073709551616 → placeX x = if nanX x = true then 9223372036854775807 else if 9223372036854775808 ≤ x then -((x % 9223372036854775808 : Nat) : Int) - 1 else ((x % 9223372036854775808 : Nat) : Int) := by
    intro x hx
    unfold placeX
    rw [ordX_self, absX_eq, sign_eq hx]
    by_cases hn : nanX x = true
    · rw [if_pos hn, if_pos hn]
    · rw [if_neg hn, if_neg hn]
      by_cases h1 : 9223372036854775808 ≤ x
      · rw [if_pos h1, if_pos (by simp; omega)]
        unfold wrap64; omega
      · rw [if_neg h1, if_neg (by simp; omega)]
        unfold wrap64; omega
  have ho : ∀ {x : Nat}, nanX x = false → x % 9223372036854775808 ≤ 9218868437227405312 := fun {x} h => by unfold nanX at h; rw [decide_eq_false_iff_not] at h; omega
  rw [hp hx, hp hy, oneX_eq, oneX_eq]
  cases hnx : nanX x <;> cases hny : nanX y
  · have h1 := ho hnx
    have h2 := ho hny
    simp only [Bool.false_eq_true, if_false]
    split <;> split <;> omega
  · have h1 := ho hnx
    simp only [Bool.false_eq_true, if_false, if_true]
    constructor
    · intro h; split at h <;> omega
    · intro h
      exfalso
      rw [h] at hnx
      exact absurd hnx (by decide)
  · have h1 := ho hny
    simp only [Bool.false_eq_true, if_false, if_true]
    constructor
    · intro h; split at h <;> omega
    · intro h
      exfalso
      rw [← h] at hny
      exact absurd hny (by decide)
  · simp
end Go.Proofs.YtlgkaipgdhcajaaGreatDoor
/- quadrilleref12.Made is formula.made. -/
namespace Go.Proofs.YtlgkaipgdhcajaaGreatDoor
open Go.RowKit Go.Sort

theorem one0 (x : Nat) : (((oneX x : Nat) : Int) = ((oneX 0 : Nat) : Int)) = ((x : Int) = 0) := by
  have h0 : nanX 0 = false := by decide
  have e0 : oneX 0 = 0 := by rw [oneX_eq, h0]; rfl
  rw [e0, oneX_eq, eq_iff_iff]
  by_cases h : nanX x = true
  · have h2 : x ≠ 0 := by intro e; rw [e, h0] at h; cases h
    rw [if_pos h]
    constructor
    · intro e; exact absurd e (by decide)
    · intro e; exact absurd (by omega) h2
  · rw [if_neg h]; exact Iff.rfl
theorem ref0 (r : RefT) : refB r zR = (decide (r.a.1 = 0) && decide (r.a.2 = 0) && !r.cf && !r.rf) := by
  obtain ⟨⟨a, b⟩, c, d⟩ := r
  unfold refB
  cases c <;> cases d <;> simp
theorem refR (r : RefT) : refB r r = true := by unfold refB; simp
theorem len0 (l : List NodeT) : (0 == (l.length : Int)) = ((l.length : Int) == 0) := by rw [Bool.eq_iff_iff]; simp only [beq_iff_eq]; omega
theorem len1 (l : List NodeT) : (1 == (l.length : Int)) = ((l.length : Int) == 1) := by rw [Bool.eq_iff_iff]; simp only [beq_iff_eq]; omega
theorem len2 (l : List NodeT) : (2 == (l.length : Int)) = ((l.length : Int) == 2) := by rw [Bool.eq_iff_iff]; simp only [beq_iff_eq]; omega
set_option maxHeartbeats 2000000 in
theorem Made12_any (t : NodeT) (a : Option Addr) (cap : Nat) (w : World) (hok : t.ok) :
    Calls Tryz.prog 111 #[nodeV t a t.args.length cap] w fun e w' => e = .returned (.bool (madeB t)) ∧ Gr w w' := by
  have hx := NodeT.ok_x hok
  have hs := NodeT.ok_sz hok
  clear hok
  by_cases h1 : t.kind = 1
  · refine (made12_1 t a cap w h1).mono fun e w' h => ⟨h.1.trans ?_, h.2⟩
    obtain ⟨k, op, x, s, b, f, r, q, args⟩ := t
    simp only [NodeT.kind, NodeT.x] at h1 hx
    subst h1
    simp only [madeB, reduceIte, Int.reduceEq, num_eq hx]
    simp only [bareB, alikeB, ref0, len0, toList_nil, NodeT.kind, NodeT.op, NodeT.x, NodeT.s, NodeT.b, NodeT.f, NodeT.ref, NodeT.to, NodeT.args, Bool.true_or, Bool.false_or, decide_true, Bool.true_and, Bool.and_true]
    refine congrArg (fun z => Ending.returned (.bool z)) ?_
    cases b <;> (try simp only [Bool.not_true, Bool.not_false, decide_true, decide_false, Bool.and_false, Bool.false_and, Bool.and_true, Bool.true_eq_false]) <;> ac_rfl
  by_cases h2 : t.kind = 2
  · refine (made12_2 t a cap w h2 hs).mono fun e w' h => ⟨h.1.trans ?_, h.2⟩
    obtain ⟨k, op, x, s, b, f, r, q, args⟩ := t
    simp only [NodeT.kind] at h2
    subst h2
    simp only [madeB, reduceIte, Int.reduceEq]
    simp only [bareB, alikeB, ref0, len0, one0, NodeT.kind, NodeT.op, NodeT.x, NodeT.s, NodeT.b, NodeT.f, NodeT.ref, NodeT.to, NodeT.args, Bool.true_or, Bool.false_or, decide_true, Bool.true_and, Bool.and_true]
    refine congrArg (fun z => Ending.returned (.bool z)) ?_
    cases b <;> (try simp only [Bool.not_true, Bool.not_false, decide_true, decide_false, Bool.and_false, Bool.false_and, Bool.and_true, Bool.true_eq_false]) <;> ac_rfl
  by_cases h3 : t.kind = 3
  · refine (made12_3 t a cap w h3).mono fun e w' h => ⟨h.1.trans ?_, h.2⟩
    obtain ⟨k, op, x, s, b, f, r, q, args⟩ := t
    simp only [NodeT.kind] at h3
    subst h3
    simp only [madeB, reduceIte, Int.reduceEq]
    simp only [bareB, alikeB, ref0, len0, one0, toList_nil, NodeT.kind, NodeT.op, NodeT.x, NodeT.s, NodeT.b, NodeT.f, NodeT.ref, NodeT.to, NodeT.args, Bool.true_or, Bool.false_or, decide_true, Bool.true_and, Bool.and_true]
    refine congrArg (fun z => Ending.returned (.bool z)) ?_
    cases b <;> (try simp only [Bool.not_true, Bool.not_false, decide_true, decide_false, Bool.and_false, Bool.false_and, Bool.and_true, Bool.true_and, Bool.true_eq_false, Bool.false_eq_true]) <;> ac_rfl
  by_cases h4 : t.kind = 4
  · refine (made12_4 t a cap w h4).mono fun e w' h => ⟨h.1.trans ?_, h.2⟩
    obtain ⟨k, op, x, s, b, f, r, q, args⟩ := t
    simp only [NodeT.kind] at h4
    subst h4
    simp only [madeB, reduceIte, Int.reduceEq]
    simp only [bareB, alikeB, ref0, len0, one0, toList_nil, NodeT.kind, NodeT.op, NodeT.x, NodeT.s, NodeT.b, NodeT.f, NodeT.ref, NodeT.to, NodeT.args, Bool.true_or, Bool.false_or, decide_true, Bool.true_and, Bool.and_true]
    refine congrArg (fun z => Ending.returned (.bool z)) ?_
    cases b <;> (try simp only [Bool.not_true, Bool.not_false, decide_true, decide_false, Bool.and_false, Bool.false_and, Bool.and_true, Bool.true_eq_false]) <;> ac_rfl
  by_cases h5 : t.kind = 5
  · refine (made12_5 t a cap w h5).mono fun e w' h => ⟨h.1.trans ?_, h.2⟩
    obtain ⟨k, op, x, s, b, f, r, q, args⟩ := t
    simp only [NodeT.kind] at h5
    subst h5
    simp only [madeB, reduceIte, Int.reduceEq]
    simp only [bareB, alikeB, ref0, refR, len0, one0, toList_nil, NodeT.kind, NodeT.op, NodeT.x, NodeT.s, NodeT.b, NodeT.f, NodeT.ref, NodeT.to, NodeT.args, Bool.true_or, Bool.false_or, decide_true, Bool.true_and, Bool.and_true]
    refine congrArg (fun z => Ending.returned (.bool z)) ?_
    cases b <;> (try simp only [Bool.not_true, Bool.not_false, decide_true, decide_false, Bool.and_false, Bool.false_and, Bool.and_true, Bool.true_eq_false]) <;> ac_rfl
  by_cases h6 : t.kind = 6
  · refine (made12_6 t a cap w h6).mono fun e w' h => ⟨h.1.trans ?_, h.2⟩
    obtain ⟨k, op, x, s, b, f, r, q, args⟩ := t
    simp only [NodeT.kind] at h6
    subst h6
    simp only [madeB, reduceIte, Int.reduceEq]
    simp only [bareB, alikeB, refR, len0, one0, toList_nil, NodeT.kind, NodeT.op, NodeT.x, NodeT.s, NodeT.b, NodeT.f, NodeT.ref, NodeT.to, NodeT.args, Bool.true_or, Bool.false_or, decide_true, Bool.true_and, Bool.and_true]
    refine congrArg (fun z => Ending.returned (.bool z)) ?_
    cases b <;> (try simp only [Bool.not_true, Bool.not_false, decide_true, decide_false, Bool.and_false, Bool.false_and, Bool.and_true, Bool.true_eq_false]) <;> ac_rfl
  by_cases h7 : t.kind = 7
  · refine (made12_7 t a cap w h7).mono fun e w' h => ⟨h.1.trans ?_, h.2⟩
    obtain ⟨k, op, x, s, b, f, r, q, args⟩ := t
    simp only [NodeT.kind] at h7
    subst h7
    simp only [madeB, reduceIte, Int.reduceEq]
    simp only [bareB, alikeB, ref0, len1, one0, toList_nil, NodeT.kind, NodeT.op, NodeT.x, NodeT.s, NodeT.b, NodeT.f, NodeT.ref, NodeT.to, NodeT.args, Bool.true_or, Bool.false_or, decide_true, Bool.true_and, Bool.and_true]
    refine congrArg (fun z => Ending.returned (.bool z)) ?_
    cases b <;> (try simp only [Bool.not_true, Bool.not_false, decide_true, decide_false, Bool.and_false, Bool.false_and, Bool.and_true, Bool.true_eq_false]) <;> ac_rfl
  by_cases h8 : t.kind = 8
  · refine (made12_8 t a cap w h8).mono fun e w' h => ⟨h.1.trans ?_, h.2⟩
    obtain ⟨k, op, x, s, b, f, r, q, args⟩ := t
    simp only [NodeT.kind] at h8
    subst h8
    simp only [madeB, reduceIte, Int.reduceEq]
    simp only [bareB, alikeB, ref0, len2, one0, toList_nil, NodeT.kind, NodeT.op, NodeT.x, NodeT.s, NodeT.b, NodeT.f, NodeT.ref, NodeT.to, NodeT.args, Bool.true_or, Bool.false_or, decide_true, Bool.true_and, Bool.and_true]
    refine congrArg (fun z => Ending.returned (.bool z)) ?_
    cases b <;> (try simp only [Bool.not_true, Bool.not_false, decide_true, decide_false, Bool.and_false, Bool.false_and, Bool.and_true, Bool.true_eq_false]) <;> ac_rfl
  by_cases h9 : t.kind = 9
  · refine (made12_9 t a cap w h9).mono fun e w' h => ⟨h.1.trans ?_, h.2⟩
    obtain ⟨k, op, x, s, b, f, r, q, args⟩ := t
    simp only [NodeT.kind] at h9
    subst h9
    simp only [madeB, reduceIte, Int.reduceEq]
    simp only [bareB, alikeB, ref0, one0, NodeT.kind, NodeT.op, NodeT.x, NodeT.s, NodeT.b, NodeT.f, NodeT.ref, NodeT.to, NodeT.args, Bool.true_or, Bool.false_or, decide_true, Bool.true_and, Bool.and_true, beq_self_eq_true]
    refine congrArg (fun z => Ending.returned (.bool z)) ?_
    cases b <;> (try simp only [Bool.not_true, Bool.not_false, decide_true, decide_false, Bool.and_false, Bool.false_and, Bool.and_true, Bool.true_eq_false]) <;> ac_rfl
  have hm : madeB t = false := by
    obtain ⟨k, op, x, s, b, f, r, q, args⟩ := t
    simp only [NodeT.kind] at h1 h2 h3 h4 h5 h6 h7 h8 h9
    simp only [madeB, h1, h2, h3, h4, h5, h6, h7, h8, h9, if_false]
  rw [hm]
  have e1 : (t.kind == 1) = false := by simpa using h1
  have e2 : (t.kind == 2) = false := by simpa using h2
  have e3 : (t.kind == 3) = false := by simpa using h3
  have e4 : (t.kind == 4) = false := by simpa using h4
  have e5 : (t.kind == 5) = false := by simpa using h5
  have e6 : (t.kind == 6) = false := by simpa using h6
  have e7 : (t.kind == 7) = false := by simpa using h7
  have e8 : (t.kind == 8) = false := by simpa using h8
  have e9 : (t.kind == 9) = false := by simpa using h9
  obtain ⟨w0, hw0, hg0, hs0, hN⟩ := boxN w t a t.args.length cap 29
  have c0 := hN.c0
  have HG0 := Lib.hid hg0
  clear h1 h2 h3 h4 h5 h6 h7 h8 h9 hN hg0 hm
  go_enter Tryz.func111, Tryz.ntmps111
  go_wp2_with fail
  go_ret
  exact ⟨rfl, HG0.out⟩
end Go.Proofs.YtlgkaipgdhcajaaGreatDoor
