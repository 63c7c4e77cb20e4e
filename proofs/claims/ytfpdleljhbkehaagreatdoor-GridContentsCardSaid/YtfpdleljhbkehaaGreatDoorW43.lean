/- Two values are the same: value.Same answers as their keys do. -/
import Derived.Test.YtfpdleljhbkehaaGreatDoorW7
import Derived.Lib.Bytealg
import Derived.Lib.Hide
namespace Go.Proofs.YtfpdleljhbkehaaGreatDoor
open Go.RowKit Go.Sort

/-! ### value.Same -/
theorem compare_0 : ∀ (a b : List UInt8), Lib.compareBytes a b = 0 ↔ a = b
  | [], [] => by simp [Lib.compareBytes]
  | [], _ :: _ => by simp [Lib.compareBytes]
  | _ :: _, [] => by simp [Lib.compareBytes]
  | x :: a, y :: b => by
    unfold Lib.compareBytes
    by_cases h1 : x < y
    · simp only [h1, if_true]
      refine ⟨fun h => by simp at h, fun h => ?_⟩
      cases h; exact absurd h1 (UInt8.lt_irrefl _)
    · by_cases h2 : y < x
      · simp only [h1, h2, if_false, if_true]
        refine ⟨fun h => by simp at h, fun h => ?_⟩
        cases h; exact absurd h2 (UInt8.lt_irrefl _)
      · have h3 : x = y := by
          rw [UInt8.not_lt] at h1 h2
          exact UInt8.le_antisymm h2 h1
        subst h3
        simp only [h1, if_false, compare_0 a b, List.cons.injEq, true_and]
set_option maxRecDepth 100000 in
theorem bytesCompare_any (a b : ByteArray) (w : World) : Calls Tryz.prog 120 #[.string a, .string b] w fun e w' => e = .returned (.int .i64 (Lib.compareBytes a.data.toList b.data.toList)) ∧ w = w' := by
  go_enter Tryz.func120, Tryz.ntmps120
  go_wp2
  rw [run_callFunc_extern Tryz.func130 (by kernel_rfl) (by kernel_rfl) (by kernel_rfl) (e := Extern.BytealgCompare.compare) (by kernel_rfl), Lib.run_compareString]
  simp only [Result.andThen]
  rw [Oper.upon_value]
  go_wp2
  go_ret
  exact ⟨rfl, rfl⟩
theorem sCompare_any (a b : ByteArray) (w : World) : Calls Tryz.prog 102 #[.string a, .string b] w fun e w' => e = .returned (.int .i64 (Lib.compareBytes a.data.toList b.data.toList)) ∧ w = w' := by
  have HC := Lib.hid (bytesCompare_any a b w)
  go_enter Tryz.func102, Tryz.ntmps102
  go_wp2_with (refine (HC.out).mono ?_; rintro e w' ⟨rfl, rfl⟩)
  go_ret
  exact ⟨rfl, rfl⟩
def oneB (b : Bool) : Int := if b then 1 else 0
theorem vone_any (b : Bool) (w : World) : Calls Tryz.prog 103 #[.bool b] w fun e w' => e = .returned (.int .i64 (oneB b)) ∧ w = w' := by
  cases b <;> (go_enter Tryz.func103, Tryz.ntmps103; go_wp2; go_ret; exact ⟨rfl, rfl⟩)
def placeX (x : Nat) : Int := if ordX x x != some .eq then 9223372036854775807 else if signX x = true then wrap64 (wrap64 (-(wrap64 (absX x))) - 1) else wrap64 (absX x)
set_option maxHeartbeats 1000000 in
theorem place_any (x : Nat) (w : World) : Calls Tryz.prog 119 #[.float .f64 x] w fun e w' => e = .returned (.int .i64 (placeX x)) ∧ w = w' := by
  have HC := Lib.hid (Abs_any x w)
  have HS := Lib.hid (Signbit_any x w)
  generalize hn : placeX x = ans
  have HA := Lib.hid hn
  unfold placeX ordX at HA
  generalize absX x = ax at HC HA
  clear hn
  go_enter Tryz.func119, Tryz.ntmps119
  go_wp2_with (first | (go_at_call 124; refine (HC.out).mono ?_; rintro e w' ⟨rfl, rfl⟩) | (go_at_call 126; refine (HS.out).mono ?_; rintro e w' ⟨rfl, rfl⟩))
  all_goals (go_ret; refine ⟨?_, rfl⟩; rw [← HA.out]; simp [*]; done)
def pordX (a b : Nat) : Int := cmpI (placeX a) (placeX b)
theorem pOrder_any (a b : Nat) (w : World) : Calls Tryz.prog 101 #[.float .f64 a, .float .f64 b] w fun e w' => e = .returned (.int .i64 (pordX a b)) ∧ w = w' := by
  have HC := Lib.hid (place_any a w)
  have HS := Lib.hid (place_any b w)
  generalize hn : pordX a b = ans
  have HA := Lib.hid hn
  unfold pordX cmpI at HA
  generalize placeX a = pa at HC HA
  generalize placeX b = pb at HS HA
  clear hn
  go_enter Tryz.func101, Tryz.ntmps101
  go_wp2_with (first | (refine (HC.out).mono ?_; clear HC; rintro e w' ⟨rfl, rfl⟩) | (refine (HS.out).mono ?_; clear HS; rintro e w' ⟨rfl, rfl⟩))
  all_goals (go_ret; refine ⟨?_, rfl⟩; rw [← HA.out])
  all_goals (first | (have hq1 : pa < pb := by omega
                      rw [if_pos hq1]; rfl) | (have hq1 : ¬ pa < pb := by omega
                                               have hq2 : pb < pa := by omega
                                               rw [if_neg hq1, if_pos hq2]; rfl) | (have hq1 : ¬ pa < pb := by omega
                                                                                    have hq2 : ¬ pb < pa := by omega
                                                                                    rw [if_neg hq1, if_neg hq2]; rfl))
/-- How two values stand, their kinds being the same. -/
def restO (a b : ValT) : Int :=
  if (a.kind == 1) = true then pordX a.x b.x else if (a.kind == 2) = true then Lib.compareBytes a.s.data.toList b.s.data.toList
  else if (a.kind == 3) = true then cmpI (oneB a.b) (oneB b.b) else if (a.kind == 4) = true then cmpI a.f b.f else 0
def orderV (a b : ValT) : Int := if (cmpI a.kind b.kind == 0) = true then restO a b else cmpI a.kind b.kind
set_option maxRecDepth 100000 in
set_option maxHeartbeats 4000000 in
theorem vOrder_any (a b : ValT) (w : World) : Calls Tryz.prog 71 #[valV a, valV b] w fun e w' => e = .returned (.int .i64 (orderV a b)) ∧ Gr w w' := by
  obtain ⟨w0, hw0, hg0, hs0, c0, c1, c2, c3, c4⟩ := boxV w a 24
  obtain ⟨w1, hw1, hg1, hs1, d0, d1, d2, d3, d4⟩ := boxV w0 b 24
  rw [hs0] at d0 d1 d2 d3 d4
  have cc := fun o => (hg1.xt.cells).1 w.heap.size o (by omega)
  have k0 := (cc 0).trans c0
  have k1 := (cc 1).trans c1
  have k2 := (cc 2).trans c2
  have k3 := (cc 3).trans c3
  have k4 := (cc 4).trans c4
  clear c0 c1 c2 c3 c4 cc hs1
  have HG := Lib.hid (hg0.trans hg1)
  clear hg0 hg1
  have HK := Lib.hid (fun w => compare_any a.kind b.kind w)
  have HF := Lib.hid (fun w => compare_any a.f b.f w)
  have HO := Lib.hid (fun w => compare_any (oneB a.b) (oneB b.b) w)
  have HP := Lib.hid (fun w => pOrder_any a.x b.x w)
  have HS := Lib.hid (fun w => sCompare_any a.s b.s w)
  have H1 := Lib.hid (fun w => vone_any a.b w)
  have H2 := Lib.hid (fun w => vone_any b.b w)
  generalize hn : orderV a b = ans
  have HA := Lib.hid hn
  unfold orderV restO at HA
  clear hn
  generalize cmpI a.kind b.kind = ck at HK HA
  generalize cmpI a.f b.f = cf at HF HA
  generalize cmpI (oneB a.b) (oneB b.b) = co at HO HA
  generalize pordX a.x b.x = po at HP HA
  generalize Lib.compareBytes a.s.data.toList b.s.data.toList = so at HS HA
  generalize oneB a.b = oa at HO H1
  generalize oneB b.b = ob at HO H2
  cases hck : ck == 0
  · go_enter Tryz.func71, Tryz.ntmps71
    go_wp2_with (go_at_call 100; refine (HK.out _).mono ?_; rintro e w' ⟨rfl, rfl⟩)
    go_ret
    exact ⟨by rw [← HA.out]; simp [hck], HG.out⟩
  cases h1 : a.kind == 1
  rotate_left
  · go_enter Tryz.func71, Tryz.ntmps71
    go_wp2_with (first | (go_at_call 100; refine (HK.out _).mono ?_; rintro e w' ⟨rfl, rfl⟩) | (go_at_call 101; refine (HP.out _).mono ?_; rintro e w' ⟨rfl, rfl⟩))
    go_ret
    exact ⟨by rw [← HA.out]; simp [hck, h1], HG.out⟩
  cases h2 : a.kind == 2
  rotate_left
  · go_enter Tryz.func71, Tryz.ntmps71
    go_wp2_with (first | (go_at_call 100; refine (HK.out _).mono ?_; rintro e w' ⟨rfl, rfl⟩) | (go_at_call 102; refine (HS.out _).mono ?_; rintro e w' ⟨rfl, rfl⟩))
    go_ret
    exact ⟨by rw [← HA.out]; simp [hck, h1, h2], HG.out⟩
  cases h3 : a.kind == 3
  rotate_left
  · go_enter Tryz.func71, Tryz.ntmps71
    go_wp2_with (first | (go_at_call 100; refine (HK.out _).mono ?_; clear HK; rintro e w' ⟨rfl, rfl⟩))
    go_quiet (first
      | ((go_at_call 103; exact Calls.quiet_of_same ((H1.out _).mono fun _ _ h => ⟨h.1, h.2.symm⟩)))
      | ((go_at_call 103; exact Calls.quiet_of_same ((H2.out _).mono fun _ _ h => ⟨h.1, h.2.symm⟩)))
      | ((go_at_call 100; exact Calls.quiet_of_same ((HO.out _).mono fun _ _ h => ⟨h.1, h.2.symm⟩))))
    go_wp2_with fail
    go_ret
    exact ⟨by rw [← HA.out]; simp [hck, h1, h2, h3], HG.out.drewN _⟩
  cases h4 : a.kind == 4
  · go_enter Tryz.func71, Tryz.ntmps71
    go_wp2_with (first | (go_at_call 100; refine (HK.out _).mono ?_; clear HK; rintro e w' ⟨rfl, rfl⟩))
    go_ret
    exact ⟨by rw [← HA.out]; simp [hck, h1, h2, h3, h4], HG.out⟩
  · go_enter Tryz.func71, Tryz.ntmps71
    go_wp2_with (first | (go_at_call 100; refine (HK.out _).mono ?_; clear HK; rintro e w' ⟨rfl, rfl⟩) | (go_at_call 100; refine (HF.out _).mono ?_; clear HF; rintro e w' ⟨rfl, rfl⟩))
    go_ret
    exact ⟨by rw [← HA.out]; simp [hck, h1, h2, h3, h4], HG.out⟩
/-- What a value is the same by. -/
inductive KeyV where
  | n (p : Int) | s (l : List UInt8) | b (b : Bool) | f (f : Int) | o
def keyV (v : ValT) : Int × KeyV := (v.kind, if (v.kind == 1) = true then .n (placeX v.x) else if (v.kind == 2) = true then .s v.s.data.toList else if (v.kind == 3) = true then .b v.b else if (v.kind == 4) = true then .f v.f else .o)
theorem cmpI_0 (a b : Int) : cmpI a b = 0 ↔ a = b := by
  unfold cmpI
  split <;> (try split) <;> omega
theorem order_key (a b : ValT) : orderV a b = 0 ↔ keyV a = keyV b := by
  unfold orderV restO keyV
  cases hc : cmpI a.kind b.kind == 0
  · have h : ¬ a.kind = b.kind := by rw [← cmpI_0]; simpa using hc
    simp only [Bool.false_eq_true, if_false]
    refine ⟨fun h2 => absurd ((cmpI_0 _ _).1 h2) h, fun h2 => absurd (congrArg Prod.fst h2) h⟩
  · have h : a.kind = b.kind := by rw [← cmpI_0]; simpa using hc
    rw [h]
    simp only [if_true]
    by_cases h1 : (b.kind == 1) = true
    · simp only [h1, if_true]; unfold pordX; rw [cmpI_0]; simp
    · simp only [h1, Bool.false_eq_true, if_false]
      by_cases h2 : (b.kind == 2) = true
      · simp only [h2, if_true]; rw [compare_0]; simp
      · simp only [h2, Bool.false_eq_true, if_false]
        by_cases h3 : (b.kind == 3) = true
        · simp only [h3, if_true]; rw [cmpI_0]; cases a.b <;> cases b.b <;> simp [oneB]
        · simp only [h3, Bool.false_eq_true, if_false]
          by_cases h4 : (b.kind == 4) = true
          · simp only [h4, if_true]; rw [cmpI_0]; simp
          · simp [h4]
noncomputable def sameVB (a b : ValT) : Bool := @decide (keyV a = keyV b) (Classical.propDecidable _)
theorem vSame_any (a b : ValT) (w : World) : Calls Tryz.prog 35 #[valV a, valV b] w fun e w' => e = .returned (.bool (sameVB a b)) ∧ Gr w w' := by
  obtain ⟨w0, hw0, hg0, hs0, c0, c1, c2, c3, c4⟩ := boxV w a 24
  obtain ⟨w1, hw1, hg1, hs1, d0, d1, d2, d3, d4⟩ := boxV w0 b 24
  rw [hs0] at d0 d1 d2 d3 d4
  have cc := fun o => (hg1.xt.cells).1 w.heap.size o (by omega)
  have k0 := (cc 0).trans c0
  have k1 := (cc 1).trans c1
  have k2 := (cc 2).trans c2
  have k3 := (cc 3).trans c3
  have k4 := (cc 4).trans c4
  clear c0 c1 c2 c3 c4 cc hs1
  have HG := Lib.hid (hg0.trans hg1)
  clear hg0 hg1
  have HC := Lib.hid (vOrder_any a b w1)
  have HK := Lib.hid (order_key a b)
  generalize orderV a b = ov at HC HK
  go_enter Tryz.func35, Tryz.ntmps35
  go_wp2_with (refine (HC.out).mono ?_; rintro e w2 ⟨rfl, hg2⟩; have HG2 := Lib.hid hg2; clear hg2)
  go_ret
  refine ⟨?_, HG.out.trans HG2.out⟩
  have hk := HK.out
  unfold sameVB
  by_cases h : ov = 0
  · have h2 := hk.1 h
    simp [h, h2]
  · have h2 : ¬ keyV a = keyV b := fun e => h (hk.2 e)
    simp [h, h2]
end Go.Proofs.YtfpdleljhbkehaaGreatDoor
