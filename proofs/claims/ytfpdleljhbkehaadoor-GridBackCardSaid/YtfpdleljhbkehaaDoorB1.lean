import Derived.Test.YtfpdleljhbkehaaDoorW7
import Derived.Lib.Bytealg
import Derived.Lib.Hide
import Derived.Test.YtfpdleljhbkehaaDoorA2
import Derived.Test.YtfpdleljhbkehaaDoorA3
import Derived.Deep.MidRow
import Derived.Test.YtfpdleljhbkehaaDoorD8
/- Two values are the same: value.Same answers as their keys do. -/
namespace Go.Proofs.YtfpdleljhbkehaaDoor
open Go.RowKit Go.Sort

/-! ### value.Same -/
theorem compare_0 : ∀ (a b : List UInt8), Lib.compareBytes a b = 0 ↔ a = b
  | [], [] => by simp [Lib.compareBytes]
  | [], _ :: _ => by simp [Lib.compareBytes]
  | _ :: _, [] => by simp [Lib.compareBytes]
  | x :: a, y :: b => by
    unfold Lib.compareBytes
    by_cases h1 : x < y
    · simp only [h1, if_true]
      refine ⟨fun h => by simp at h, fun h => ?_⟩
      cases h; exact absurd h1 (UInt8.lt_irrefl _)
    · by_cases h2 : y < x
      · simp only [h1, h2, if_false, if_true]
        refine ⟨fun h => by simp at h, fun h => ?_⟩
        cases h; exact absurd h2 (UInt8.lt_irrefl _)
      · have h3 : x = y := by
          rw [UInt8.not_lt] at h1 h2
          exact UInt8.le_antisymm h2 h1
        subst h3
        simp only [h1, if_false, compare_0 a b, List.cons.injEq, true_and]
set_option maxRecDepth 100000 in
theorem bytesCompare_any (a b : ByteArray) (w : World) : Calls Tryd.prog 94 #[.string a, .string b] w fun e w' => e = .returned (.int .i64 (Lib.compareBytes a.data.toList b.data.toList)) ∧ w = w' := by
  go_enter Tryd.func94, Tryd.ntmps94
  go_wp2
  rw [run_callFunc_extern Tryd.func100 (by kernel_rfl) (by kernel_rfl) (by kernel_rfl) (e := Extern.BytealgCompare.compare) (by kernel_rfl), Lib.run_compareString]
  simp only [Result.andThen]
  rw [Oper.upon_value]
  go_wp2
  go_ret
  exact ⟨rfl, rfl⟩
theorem sCompare_any (a b : ByteArray) (w : World) : Calls Tryd.prog 77 #[.string a, .string b] w fun e w' => e = .returned (.int .i64 (Lib.compareBytes a.data.toList b.data.toList)) ∧ w = w' := by
  have HC := Lib.hid (bytesCompare_any a b w)
  go_enter Tryd.func77, Tryd.ntmps77
  go_wp2_with (refine (HC.out).mono ?_; rintro e w' ⟨rfl, rfl⟩)
  go_ret
  exact ⟨rfl, rfl⟩
def oneB (b : Bool) : Int := if b then 1 else 0
theorem vone_any (b : Bool) (w : World) : Calls Tryd.prog 78 #[.bool b] w fun e w' => e = .returned (.int .i64 (oneB b)) ∧ w = w' := by
  cases b <;> (go_enter Tryd.func78, Tryd.ntmps78; go_wp2; go_ret; exact ⟨rfl, rfl⟩)
def placeX (x : Nat) : Int := if ordX x x != some .eq then 9223372036854775807 else if signX x = true then wrap64 (wrap64 (-(wrap64 (absX x))) - 1) else wrap64 (absX x)
set_option maxHeartbeats 1000000 in
theorem place_any (x : Nat) (w : World) : Calls Tryd.prog 93 #[.float .f64 x] w fun e w' => e = .returned (.int .i64 (placeX x)) ∧ w = w' := by
  have HC := Lib.hid (Abs_any x w)
  have HS := Lib.hid (Signbit_any x w)
  generalize hn : placeX x = ans
  have HA := Lib.hid hn
  unfold placeX ordX at HA
  generalize absX x = ax at HC HA
  clear hn
  go_enter Tryd.func93, Tryd.ntmps93
  go_wp2_with (first | (go_at_call 89; refine (HC.out).mono ?_; rintro e w' ⟨rfl, rfl⟩) | (go_at_call 91; refine (HS.out).mono ?_; rintro e w' ⟨rfl, rfl⟩))
  all_goals (go_ret; refine ⟨?_, rfl⟩; rw [← HA.out]; simp [*]; done)
def pordX (a b : Nat) : Int := cmpI (placeX a) (placeX b)
theorem pOrder_any (a b : Nat) (w : World) : Calls Tryd.prog 76 #[.float .f64 a, .float .f64 b] w fun e w' => e = .returned (.int .i64 (pordX a b)) ∧ w = w' := by
  have HC := Lib.hid (place_any a w)
  have HS := Lib.hid (place_any b w)
  generalize hn : pordX a b = ans
  have HA := Lib.hid hn
  unfold pordX cmpI at HA
  generalize placeX a = pa at HC HA
  generalize placeX b = pb at HS HA
  clear hn
  go_enter Tryd.func76, Tryd.ntmps76
  go_wp2_with (first | (refine (HC.out).mono ?_; clear HC; rintro e w' ⟨rfl, rfl⟩) | (refine (HS.out).mono ?_; clear HS; rintro e w' ⟨rfl, rfl⟩))
  all_goals (go_ret; refine ⟨?_, rfl⟩; rw [← HA.out])
  all_goals (first | (have hq1 : pa < pb := by omega
                      rw [if_pos hq1]; rfl) | (have hq1 : ¬ pa < pb := by omega
                                               have hq2 : pb < pa := by omega
                                               rw [if_neg hq1, if_pos hq2]; rfl) | (have hq1 : ¬ pa < pb := by omega
                                                                                    have hq2 : ¬ pb < pa := by omega
                                                                                    rw [if_neg hq1, if_neg hq2]; rfl))
/-- How two values stand, their kinds being the same. -/
def restO (a b : ValT) : Int :=
  if (a.kind == 1) = true then pordX a.x b.x else if (a.kind == 2) = true then Lib.compareBytes a.s.data.toList b.s.data.toList
  else if (a.kind == 3) = true then cmpI (oneB a.b) (oneB b.b) else if (a.kind == 4) = true then cmpI a.f b.f else 0
def orderV (a b : ValT) : Int := if (cmpI a.kind b.kind == 0) = true then restO a b else cmpI a.kind b.kind
set_option maxRecDepth 100000 in
set_option maxHeartbeats 4000000 in
theorem vOrder_any (a b : ValT) (w : World) : Calls Tryd.prog 65 #[valV a, valV b] w fun e w' => e = .returned (.int .i64 (orderV a b)) ∧ Gr w w' := by
  obtain ⟨w0, hw0, hg0, hs0, c0, c1, c2, c3, c4⟩ := boxV w a 24
  obtain ⟨w1, hw1, hg1, hs1, d0, d1, d2, d3, d4⟩ := boxV w0 b 24
  rw [hs0] at d0 d1 d2 d3 d4
  have cc := fun o => (hg1.xt.cells).1 w.heap.size o (by omega)
  have k0 := (cc 0).trans c0
  have k1 := (cc 1).trans c1
  have k2 := (cc 2).trans c2
  have k3 := (cc 3).trans c3
  have k4 := (cc 4).trans c4
  clear c0 c1 c2 c3 c4 cc hs1
  have HG := Lib.hid (hg0.trans hg1)
  clear hg0 hg1
  have HK := Lib.hid (fun w => compare_any a.kind b.kind w)
  have HF := Lib.hid (fun w => compare_any a.f b.f w)
  have HO := Lib.hid (fun w => compare_any (oneB a.b) (oneB b.b) w)
  have HP := Lib.hid (fun w => pOrder_any a.x b.x w)
  have HS := Lib.hid (fun w => sCompare_any a.s b.s w)
  have H1 := Lib.hid (fun w => vone_any a.b w)
  have H2 := Lib.hid (fun w => vone_any b.b w)
  generalize hn : orderV a b = ans
  have HA := Lib.hid hn
  unfold orderV restO at HA
  clear hn
  generalize cmpI a.kind b.kind = ck at HK HA
  generalize cmpI a.f b.f = cf at HF HA
  generalize cmpI (oneB a.b) (oneB b.b) = co at HO HA
  generalize pordX a.x b.x = po at HP HA
  generalize Lib.compareBytes a.s.data.toList b.s.data.toList = so at HS HA
  generalize oneB a.b = oa at HO H1
  generalize oneB b.b = ob at HO H2
  cases hck : ck == 0
  · go_enter Tryd.func65, Tryd.ntmps65
    go_wp2_with (go_at_call 58; refine (HK.out _).mono ?_; rintro e w' ⟨rfl, rfl⟩)
    go_ret
    exact ⟨by rw [← HA.out]; simp [hck], HG.out⟩
  cases h1 : a.kind == 1
  rotate_left
  · go_enter Tryd.func65, Tryd.ntmps65
    go_wp2_with (first | (go_at_call 58; refine (HK.out _).mono ?_; rintro e w' ⟨rfl, rfl⟩) | (go_at_call 76; refine (HP.out _).mono ?_; rintro e w' ⟨rfl, rfl⟩))
    go_ret
    exact ⟨by rw [← HA.out]; simp [hck, h1], HG.out⟩
  cases h2 : a.kind == 2
  rotate_left
  · go_enter Tryd.func65, Tryd.ntmps65
    go_wp2_with (first | (go_at_call 58; refine (HK.out _).mono ?_; rintro e w' ⟨rfl, rfl⟩) | (go_at_call 77; refine (HS.out _).mono ?_; rintro e w' ⟨rfl, rfl⟩))
    go_ret
    exact ⟨by rw [← HA.out]; simp [hck, h1, h2], HG.out⟩
  cases h3 : a.kind == 3
  rotate_left
  · go_enter Tryd.func65, Tryd.ntmps65
    go_wp2_with (first | (go_at_call 58; refine (HK.out _).mono ?_; clear HK; rintro e w' ⟨rfl, rfl⟩))
    go_quiet (first
      | ((go_at_call 78; exact Calls.quiet_of_same ((H1.out _).mono fun _ _ h => ⟨h.1, h.2.symm⟩)))
      | ((go_at_call 78; exact Calls.quiet_of_same ((H2.out _).mono fun _ _ h => ⟨h.1, h.2.symm⟩)))
      | ((go_at_call 58; exact Calls.quiet_of_same ((HO.out _).mono fun _ _ h => ⟨h.1, h.2.symm⟩))))
    go_wp2_with fail
    go_ret
    exact ⟨by rw [← HA.out]; simp [hck, h1, h2, h3], HG.out.drewN _⟩
  cases h4 : a.kind == 4
  · go_enter Tryd.func65, Tryd.ntmps65
    go_wp2_with (first | (go_at_call 58; refine (HK.out _).mono ?_; clear HK; rintro e w' ⟨rfl, rfl⟩))
    go_ret
    exact ⟨by rw [← HA.out]; simp [hck, h1, h2, h3, h4], HG.out⟩
  · go_enter Tryd.func65, Tryd.ntmps65
    go_wp2_with (first | (go_at_call 58; refine (HK.out _).mono ?_; clear HK; rintro e w' ⟨rfl, rfl⟩) | (go_at_call 58; refine (HF.out _).mono ?_; clear HF; rintro e w' ⟨rfl, rfl⟩))
    go_ret
    exact ⟨by rw [← HA.out]; simp [hck, h1, h2, h3, h4], HG.out⟩
/-- What a value is the same by. -/
inductive KeyV where
  | n (p : Int) | s (l : List UInt8) | b (b : Bool) | f (f : Int) | o
def keyV (v : ValT) : Int × KeyV := (v.kind, if (v.kind == 1) = true then .n (placeX v.x) else if (v.kind == 2) = true then .s v.s.data.toList else if (v.kind == 3) = true then .b v.b else if (v.kind == 4) = true then .f v.f else .o)
theorem cmpI_0 (a b : Int) : cmpI a b = 0 ↔ a = b := by
  unfold cmpI
  split <;> (try split) <;> omega
theorem order_key (a b : ValT) : orderV a b = 0 ↔ keyV a = keyV b := by
  unfold orderV restO keyV
  cases hc : cmpI a.kind b.kind == 0
  · have h : ¬ a.kind = b.kind := by rw [← cmpI_0]; simpa using hc
    simp only [Bool.false_eq_true, if_false]
    refine ⟨fun h2 => absurd ((cmpI_0 _ _).1 h2) h, fun h2 => absurd (congrArg Prod.fst h2) h⟩
  · have h : a.kind = b.kind := by rw [← cmpI_0]; simpa using hc
    rw [h]
    simp only [if_true]
    by_cases h1 : (b.kind == 1) = true
    · simp only [h1, if_true]; unfold pordX; rw [cmpI_0]; simp
    · simp only [h1, Bool.false_eq_true, if_false]
      by_cases h2 : (b.kind == 2) = true
      · simp only [h2, if_true]; rw [compare_0]; simp
      · simp only [h2, Bool.false_eq_true, if_false]
        by_cases h3 : (b.kind == 3) = true
        · simp only [h3, if_true]; rw [cmpI_0]; cases a.b <;> cases b.b <;> simp [oneB]
        · simp only [h3, Bool.false_eq_true, if_false]
          by_cases h4 : (b.kind == 4) = true
          · simp only [h4, if_true]; rw [cmpI_0]; simp
          · simp [h4]
noncomputable def sameVB (a b : ValT) : Bool := @decide (keyV a = keyV b) (Classical.propDecidable _)
theorem vSame_any (a b : ValT) (w : World) : Calls Tryd.prog 51 #[valV a, valV b] w fun e w' => e = .returned (.bool (sameVB a b)) ∧ Gr w w' := by
  obtain ⟨w0, hw0, hg0, hs0, c0, c1, c2, c3, c4⟩ := boxV w a 24
  obtain ⟨w1, hw1, hg1, hs1, d0, d1, d2, d3, d4⟩ := boxV w0 b 24
  rw [hs0] at d0 d1 d2 d3 d4
  have cc := fun o => (hg1.xt.cells).1 w.heap.size o (by omega)
  have k0 := (cc 0).trans c0
  have k1 := (cc 1).trans c1
  have k2 := (cc 2).trans c2
  have k3 := (cc 3).trans c3
  have k4 := (cc 4).trans c4
  clear c0 c1 c2 c3 c4 cc hs1
  have HG := Lib.hid (hg0.trans hg1)
  clear hg0 hg1
  have HC := Lib.hid (vOrder_any a b w1)
  have HK := Lib.hid (order_key a b)
  generalize orderV a b = ov at HC HK
  go_enter Tryd.func51, Tryd.ntmps51
  go_wp2_with (refine (HC.out).mono ?_; rintro e w2 ⟨rfl, hg2⟩; have HG2 := Lib.hid hg2; clear hg2)
  go_ret
  refine ⟨?_, HG.out.trans HG2.out⟩
  have hk := HK.out
  unfold sameVB
  by_cases h : ov = 0
  · have h2 := hk.1 h
    simp [h, h2]
  · have h2 : ¬ keyV a = keyV b := fun e => h (hk.2 e)
    simp [h, h2]
end Go.Proofs.YtfpdleljhbkehaaDoor
/- Two formulas are the same: formula.Same answers whether their copies are one tree. -/
namespace Go.Proofs.YtfpdleljhbkehaaDoor
open Go.RowKit Go.Sort

/-! ### formula.Same -/
theorem toList_eq (a b : ByteArray) : a.toList = b.toList ↔ a = b := by
  constructor
  · intro h
    obtain ⟨⟨x⟩⟩ := a
    obtain ⟨⟨y⟩⟩ := b
    have hx : x = y := by simpa using h
    rw [hx]
  · rintro rfl; rfl
theorem refB_eq (r q : RefT) : refB r q = true ↔ r = q := by
  obtain ⟨⟨a, b⟩, c, d⟩ := r
  obtain ⟨⟨a', b'⟩, c', d'⟩ := q
  simp [refB, and_assoc]
noncomputable def sameTB (a b : NodeT) : Bool := @decide (copyT a = copyT b) (Classical.propDecidable _)
noncomputable def sameLB (a b : List NodeT) : Bool := @decide (copyL a = copyL b) (Classical.propDecidable _)
theorem sameTB_iff (a b : NodeT) : sameTB a b = true ↔ copyT a = copyT b := @decide_eq_true_iff _ (Classical.propDecidable _)
theorem sameLB_iff (a b : List NodeT) : sameLB a b = true ↔ copyL a = copyL b := @decide_eq_true_iff _ (Classical.propDecidable _)
theorem sameTB_eq (a b : NodeT) : sameTB a b = (alikeB a b && sameLB a.args b.args) := by
  obtain ⟨k, o, x, s, bb, f, r, q, l⟩ := a
  obtain ⟨k', o', x', s', bb', f', r', q', l'⟩ := b
  rw [Bool.eq_iff_iff]
  simp only [sameTB_iff, sameLB_iff, alikeB, copyT, Bool.and_eq_true, refB_eq, NodeT.kind, NodeT.op, NodeT.x, NodeT.s, NodeT.b, NodeT.f, NodeT.ref, NodeT.to, NodeT.args, NodeT.mk.injEq]
  constructor
  · rintro ⟨h1, h2, h3, h4, h5, h6, h7, h8, h9⟩
    exact ⟨⟨⟨⟨⟨⟨⟨⟨decide_eq_true h1, decide_eq_true h2⟩, decide_eq_true (by rw [h3])⟩, decide_eq_true ((toList_eq _ _).2 h4)⟩, decide_eq_true h5⟩, decide_eq_true h6⟩, h7⟩, h8⟩, h9⟩
  · rintro ⟨⟨⟨⟨⟨⟨⟨⟨h1, h2⟩, h3⟩, h4⟩, h5⟩, h6⟩, h7⟩, h8⟩, h9⟩
    exact ⟨of_decide_eq_true h1, of_decide_eq_true h2, by have := of_decide_eq_true h3; omega, (toList_eq _ _).1 (of_decide_eq_true h4), of_decide_eq_true h5, of_decide_eq_true h6, h7, h8, h9⟩
theorem sameLB_nil : sameLB [] [] = true := (sameLB_iff _ _).2 rfl
theorem sameLB_cons (x y : NodeT) (a b : List NodeT) : sameLB (x :: a) (y :: b) = (sameTB x y && sameLB a b) := by
  rw [Bool.eq_iff_iff, Bool.and_eq_true]; simp only [sameLB_iff, sameTB_iff, copyL, List.cons.injEq]
theorem sameLB_len {a b : List NodeT} (h : a.length ≠ b.length) : sameLB a b = false := by
  cases hs : sameLB a b
  · rfl
  rw [sameLB_iff, copyL_map, copyL_map] at hs
  have := congrArg List.length hs
  simp at this
  exact absurd this h
def SameIs (n : Nat) : Prop := ∀ (a b : NodeT) (aa ba : Option Addr) (ac bc : Nat) (w : World), ArgsIn w n (.slice aa a.args.length ac) a.args → ArgsIn w n (.slice ba b.args.length bc) b.args →
  Calls Tryd.prog 52 #[nodeV a aa a.args.length ac, nodeV b ba b.args.length bc] w fun e w' => e = .returned (.bool (sameTB a b)) ∧ Gr w w'
set_option maxRecDepth 100000 in
set_option maxHeartbeats 4000000 in
theorem eqNodes_any (n : Nat) (ih : ∀ m, m < n → SameIs m) (a b : List NodeT) (aa ba : Option Addr) (ac bc : Nat) (w : World) (ha : ArgsIn w n (.slice aa a.length ac) a) (hb : ArgsIn w n (.slice ba b.length bc) b) :
    Calls Tryd.prog 67 #[.slice aa a.length ac, .slice ba b.length bc, .func (.func 52) #[] #[]] w fun e w' => e = .returned (.bool (sameLB a b)) ∧ Gr w w' := by
  by_cases hl : a.length = b.length
  rotate_left
  · have hne : ((a.length : Int) == (b.length : Int)) = false := by simp; omega
    have HN := Lib.hid (sameLB_len hl)
    clear hl ha hb ih
    go_enter Tryd.func67, Tryd.ntmps67
    go_wp2_with fail
    go_ret
    exact ⟨by rw [HN.out]; rfl, Gr.refl _⟩
  have HL := Lib.hid hl
  have IH := Lib.hid ih
  have HA := Lib.hid ha
  have HB := Lib.hid hb
  obtain ⟨_, _, e1, ql1, ql2⟩ := ha.shape
  cases e1
  obtain ⟨_, _, e2, qm1, qm2⟩ := hb.shape
  cases e2
  clear ih ha hb
  rw [← hl]
  rw [← hl] at qm1
  clear hl
  go_enter Tryd.func67, Tryd.ntmps67
  go_wp2_with fail
  go_loopw [17] (fun s17 wr => ∃ i : Nat, i ≤ a.length ∧ s17 = .int .i64 i ∧ Hid (Gr w wr) ∧ Hid (sameLB a b = sameLB (a.drop i) (b.drop i))) (fun s17 _ => a.length - (intOf s17).toNat)
  case atStart => exact ⟨0, Nat.zero_le _, rfl, Gr.refl _, rfl⟩
  case round =>
    obtain ⟨i, hi, rfl, HG, HS⟩ := hrel
    by_cases hlt : i < a.length
    · obtain ⟨x, hx⟩ : ∃ x, a[i]? = some x := ⟨a[i], by simp [hlt]⟩
      obtain ⟨y, hy⟩ : ∃ y, b[i]? = some y := ⟨b[i]'(by have := HL.out; omega), by simp⟩
      obtain ⟨n', bx, ox, xa, xc, hn', rfl, hNx, hAx⟩ := HA.out.at hx
      obtain ⟨n2, by', oy, ya, yc, hn2, rfl, hNy, hAy⟩ := HB.out.at hy
      obtain rfl : n' = n2 := by omega
      have hNx := hNx.xt HG.out.xt
      have hNy := hNy.xt HG.out.xt
      obtain ⟨d0, d1, d2, d3, d4, d5, d6, d7, d8, d9, d10, d11, d12, d13, d14⟩ := hNx
      have hki : (i : Int) < (a.length : Int) := by omega
      obtain ⟨wA, hwA, hgA, hsA, hNA⟩ := boxN wr x xa x.args.length xc 31
      have hNy := hNy.xt hgA.xt
      obtain ⟨f0, f1, f2, f3, f4, f5, f6, f7, f8, f9, f10, f11, f12, f13, f14⟩ := hNy
      obtain ⟨wB, hwB, hgB, hsB, hNB⟩ := boxN wA y ya y.args.length yc 31
      have hNA := hNA.xt hgB.xt
      rw [hsA] at hNB
      have HC := Lib.hid (IH.out n' (by omega) x y xa ya xc yc wB (hAx.xt ((HG.out.trans hgA).trans hgB).xt) (hAy.xt ((HG.out.trans hgA).trans hgB).xt))
      obtain ⟨k0, k1, k2, k3, k4, k5, k6, k7, k8, k9, k10, k11, k12, k13, k14⟩ := hNA
      obtain ⟨m0, m1, m2, m3, m4, m5, m6, m7, m8, m9, m10, m11, m12, m13, m14⟩ := hNB
      simp only [Nat.zero_add] at k0 k1 k2 k3 k4 k5 k6 k7 k8 k9 k10 k11 k12 k13 k14 m0 m1 m2 m3 m4 m5 m6 m7 m8 m9 m10 m11 m12 m13 m14
      have HGB := Lib.hid (hgA.trans hgB)
      have HE : Hid (sameLB (a.drop i) (b.drop i) = (sameTB x y && sameLB (a.drop (i + 1)) (b.drop (i + 1)))) := by
        unfold Hid
        rw [drop_at hx, drop_at hy, sameLB_cons]
      clear hAx hAy hgA hgB hsB hx hy hNx hNy
      cases hsxy : sameTB x y
      · rw [hsxy] at HC HE
        go_wp2_with (refine (HC.out).mono ?_; clear HC; rintro e w2 ⟨rfl, hg2⟩; have HG2 := Lib.hid hg2; clear hg2)
        go_ret
        exact ⟨by rw [HS.out, HE.out]; rfl, (HG.out.trans HGB.out).trans HG2.out⟩
      · rw [hsxy] at HC HE
        go_wp2_with (refine (HC.out).mono ?_; clear HC; rintro e w2 ⟨rfl, hg2⟩; have HG2 := Lib.hid hg2; clear hg2)
        go_roundw
        case rel => exact ⟨i + 1, by omega, by go_num, (HG.out.trans HGB.out).trans HG2.out, by unfold Hid; rw [HS.out, HE.out]; rfl⟩
        case measure => simp [intOf]; omega
    · have he : i = a.length := by omega
      subst he
      go_wp2_with fail
      go_ret
      have hb : b.length = a.length := HL.out.symm
      exact ⟨by rw [HS.out, List.drop_length, ← hb, List.drop_length, sameLB_nil]; rfl, HG.out⟩
set_option maxRecDepth 100000 in
set_option maxHeartbeats 4000000 in
theorem fsame_any : ∀ n, SameIs n := by
  intro n
  induction n using Nat.strongRecOn with
  | ind n ih =>
    intro a b aa ba ac bc w ha hb
    obtain ⟨w0, hw0, hg0, hs0, hN⟩ := boxN w a aa a.args.length ac 31
    obtain ⟨w1, hw1, hg1, hs1, hM⟩ := boxN w0 b ba b.args.length bc 31
    rw [hs0] at hM
    have hN := hN.xt hg1.xt
    obtain ⟨k0, k1, k2, k3, k4, k5, k6, k7, k8, k9, k10, k11, k12, k13, k14⟩ := hN
    obtain ⟨m0, m1, m2, m3, m4, m5, m6, m7, m8, m9, m10, m11, m12, m13, m14⟩ := hM
    simp only [Nat.zero_add] at k0 k1 k2 k3 k4 k5 k6 k7 k8 k9 k10 k11 k12 k13 k14 m0 m1 m2 m3 m4 m5 m6 m7 m8 m9 m10 m11 m12 m13 m14
    have HG := Lib.hid (hg0.trans hg1)
    have HK := Lib.hid (alike_any a b aa ba ac bc w1)
    have HE := Lib.hid (fun W (hx : Gr w1 W) => eqNodes_any n ih a.args b.args aa ba ac bc W (ha.xt ((hg0.trans hg1).trans hx).xt) (hb.xt ((hg0.trans hg1).trans hx).xt))
    have HS := Lib.hid (sameTB_eq a b)
    have HX := Lib.hid (fun W b' (hx : Gr w1 W) (hb : b' < w1.heap.size) o => (hx.xt.cells).1 b' o hb)
    clear ih ha hb hg0 hg1
    cases hal : alikeB a b
    · rw [hal] at HK HS
      go_enter Tryd.func52, Tryd.ntmps52
      go_wp2_with (first | (go_at_call 66; refine (HK.out).mono ?_; rintro e w2 ⟨rfl, hg2⟩; have HG2 := Lib.hid hg2; clear hg2))
      go_ret
      exact ⟨by rw [HS.out]; rfl, HG.out.trans HG2.out⟩
    · rw [hal] at HK HS
      go_enter Tryd.func52, Tryd.ntmps52
      go_wp2_with (first | (go_at_call 66; refine (HK.out).mono ?_; rintro e w2 ⟨rfl, hg2⟩; have HG2 := Lib.hid hg2; have j1 := (HX.out w2 w.heap.size hg2 (by omega) 14).trans k14; have j2 := (HX.out w2 (w.heap.size + 1) hg2 (by omega) 14).trans m14; clear hg2) | (go_at_call 67; refine (HE.out _ HG2.out).mono ?_; rintro e w3 ⟨rfl, hg3⟩; have HG3 := Lib.hid hg3; clear hg3))
      go_ret
      exact ⟨by rw [HS.out]; rfl, (HG.out.trans HG2.out).trans HG3.out⟩
end Go.Proofs.YtfpdleljhbkehaaDoor
/- Two contents are the same: grid.Same answers as their keys do. -/
namespace Go.Proofs.YtfpdleljhbkehaaDoor
open Go.RowKit Go.Sort

/-! ### grid.Same -/
inductive KeyC where
  | p (v : Int × KeyV) | f (t : NodeT) | o
def keyC (c : ContT) : Int × KeyC := (c.kind, if (c.kind == 1) = true then .p (keyV c.v) else if (c.kind == 2) = true then .f (copyT c.t) else .o)
noncomputable def sameCB (a b : ContT) : Bool := @decide (keyC a = keyC b) (Classical.propDecidable _)
theorem sameCB_iff (a b : ContT) : sameCB a b = true ↔ keyC a = keyC b := @decide_eq_true_iff _ (Classical.propDecidable _)
theorem sameVB_iff (a b : ValT) : sameVB a b = true ↔ keyV a = keyV b := @decide_eq_true_iff _ (Classical.propDecidable _)
theorem sameCB_kind {a b : ContT} (h : (a.kind == b.kind) = false) : sameCB a b = false := by
  cases hs : sameCB a b
  · rfl
  · have := congrArg Prod.fst ((sameCB_iff _ _).1 hs)
    simp only [keyC] at this
    rw [this] at h; simp at h
theorem sameCB_1 {a b : ContT} (h : (a.kind == b.kind) = true) (h1 : (a.kind == 1) = true) : sameCB a b = sameVB a.v b.v := by
  have e := eq_of_beq h
  rw [Bool.eq_iff_iff, sameCB_iff, sameVB_iff]
  unfold keyC
  rw [← e]; simp [h1]
theorem sameCB_2 {a b : ContT} (h : (a.kind == b.kind) = true) (h1 : (a.kind == 1) = false) (h2 : (a.kind == 2) = true) : sameCB a b = sameTB a.t b.t := by
  have e := eq_of_beq h
  rw [Bool.eq_iff_iff, sameCB_iff, sameTB_iff]
  unfold keyC
  rw [← e]; simp [h1, h2]
theorem sameCB_o {a b : ContT} (h : (a.kind == b.kind) = true) (h1 : (a.kind == 1) = false) (h2 : (a.kind == 2) = false) : sameCB a b = true := by
  have e := eq_of_beq h
  rw [sameCB_iff]
  unfold keyC
  rw [← e]; simp [h1, h2]
set_option maxRecDepth 100000 in
set_option maxHeartbeats 4000000 in
theorem gsame_any (n : Nat) (a b : ContT) (aa ba : Option Addr) (ac bc : Nat) (w : World) (ha : ArgsIn w n (.slice aa a.t.args.length ac) a.t.args) (hb : ArgsIn w n (.slice ba b.t.args.length bc) b.t.args) :
    Calls Tryd.prog 33 #[contV a aa a.t.args.length ac, contV b ba b.t.args.length bc] w fun e w' => e = .returned (.bool (sameCB a b)) ∧ Gr w w' := by
  obtain ⟨w0, hw0, hg0, hs0, hN⟩ := boxC w a aa a.t.args.length ac 33
  obtain ⟨w1, hw1, hg1, hs1, hM⟩ := boxC w0 b ba b.t.args.length bc 33
  rw [hs0] at hM
  have hN := hN.xt hg1.xt
  obtain ⟨k0, k1, k2, k3, k4, k5, k6, k7, k8, k9, k10, k11, k12, k13, k14, k15, k16, k17, k18, k19, k20⟩ := hN
  obtain ⟨m0, m1, m2, m3, m4, m5, m6, m7, m8, m9, m10, m11, m12, m13, m14, m15, m16, m17, m18, m19, m20⟩ := hM
  simp only [Nat.zero_add] at k0 k1 k2 k3 k4 k5 k6 k7 k8 k9 k10 k11 k12 k13 k14 k15 k16 k17 k18 k19 k20 m0 m1 m2 m3 m4 m5 m6 m7 m8 m9 m10 m11 m12 m13 m14 m15 m16 m17 m18 m19 m20
  have HG := Lib.hid (hg0.trans hg1)
  have HV := Lib.hid (vSame_any a.v b.v w1)
  have HT := Lib.hid (fsame_any n a.t b.t aa ba ac bc w1 (ha.xt (hg0.trans hg1).xt) (hb.xt (hg0.trans hg1).xt))
  clear ha hb hg0 hg1
  cases hk : (a.kind == b.kind)
  · have HS := Lib.hid (sameCB_kind hk)
    clear k1 k2 k3 k4 k5 k6 k7 k8 k9 k10 k11 k12 k13 k14 k15 k16 k17 k18 k19 k20 m1 m2 m3 m4 m5 m6 m7 m8 m9 m10 m11 m12 m13 m14 m15 m16 m17 m18 m19 m20
    go_enter Tryd.func33, Tryd.ntmps33
    go_wp2_with fail
    go_ret
    exact ⟨by rw [HS.out]; rfl, HG.out⟩
  cases h1 : (a.kind == 1)
  rotate_left
  · have HS := Lib.hid (sameCB_1 hk h1)
    clear k6 k7 k8 k9 k10 k11 k12 k13 k14 k15 k16 k17 k18 k19 k20 m6 m7 m8 m9 m10 m11 m12 m13 m14 m15 m16 m17 m18 m19 m20
    go_enter Tryd.func33, Tryd.ntmps33
    go_wp2_with (refine (HV.out).mono ?_; rintro e w2 ⟨rfl, hg2⟩; have HG2 := Lib.hid hg2; clear hg2)
    go_ret
    exact ⟨by rw [HS.out]; rfl, HG.out.trans HG2.out⟩
  cases h2 : (a.kind == 2)
  · have HS := Lib.hid (sameCB_o hk h1 h2)
    clear k1 k2 k3 k4 k5 k6 k7 k8 k9 k10 k11 k12 k13 k14 k15 k16 k17 k18 k19 k20 m1 m2 m3 m4 m5 m6 m7 m8 m9 m10 m11 m12 m13 m14 m15 m16 m17 m18 m19 m20
    go_enter Tryd.func33, Tryd.ntmps33
    go_wp2_with fail
    go_ret
    exact ⟨by rw [HS.out]; rfl, HG.out⟩
  · have HS := Lib.hid (sameCB_2 hk h1 h2)
    clear k1 k2 k3 k4 k5 m1 m2 m3 m4 m5
    go_enter Tryd.func33, Tryd.ntmps33
    go_wp2_with (refine (HT.out).mono ?_; rintro e w2 ⟨rfl, hg2⟩; have HG2 := Lib.hid hg2; clear hg2)
    go_ret
    exact ⟨by rw [HS.out]; rfl, HG.out.trans HG2.out⟩
end Go.Proofs.YtfpdleljhbkehaaDoor
