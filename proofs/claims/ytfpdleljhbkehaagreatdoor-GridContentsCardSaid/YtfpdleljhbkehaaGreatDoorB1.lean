import Derived.Test.YtfpdleljhbkehaaGreatDoorA2
import Derived.Laws.Bits64b
import Derived.Test.YtfpdleljhbkehaaGreatDoorA1
import Derived.Lib.ValidLaws
/- The document's small functions on a number's bits. -/
namespace Go.Proofs.YtfpdleljhbkehaaGreatDoor
open Go.RowKit Go.Sort

def nanX (x : Nat) : Bool := decide (9218868437227405312 < x % 9223372036854775808)
theorem compare_self (i : Int) : compare i i = Ordering.eq := Int.compare_eq_eq.2 rfl
theorem order_self (x : Nat) : ((FloatKind.format .f64).order x x != some .eq) = nanX x := by
  have e : (FloatKind.format .f64).signWeight = 9223372036854775808 := by decide
  have e2 : (FloatKind.format .f64).infRung = 9218868437227405312 := by decide
  have e3 : (FloatKind.format .f64).binade ≤ 9218868437227405312 := by decide
  unfold Ieee.Format.order Ieee.Format.read nanX
  simp only [e, e2]
  generalize x % 9223372036854775808 = r
  by_cases h1 : r < (FloatKind.format .f64).binade
  · rw [if_pos h1]
    simp only [Ieee.Datum.order, compare_self]
    have : ¬ 9218868437227405312 < r := by omega
    simp [this]
  · rw [if_neg h1]
    by_cases h2 : r < 9218868437227405312
    · rw [if_pos h2]
      simp only [Ieee.Datum.order, compare_self]
      have : ¬ 9218868437227405312 < r := by omega
      simp [this]
    · rw [if_neg h2]
      by_cases h3 : r = 9218868437227405312
      · rw [if_pos h3]
        have : ¬ 9218868437227405312 < r := by omega
        simp [this, Ieee.Datum.order]
      · rw [if_neg h3]
        have : 9218868437227405312 < r := by omega
        simp [this, Ieee.Datum.order]
theorem oneX_eq (x : Nat) : oneX x = if nanX x = true then 9221120237041090560 else x := by
  unfold oneX; rw [order_self]
theorem andNot_sign (x : Nat) : bits .andNot .u64 (x : Int) 9223372036854775808 = ((x % 9223372036854775808 : Nat) : Int) := by
  show IntKind.u64.wrap ((BitVec.ofInt 64 (x : Int) &&& ~~~BitVec.ofInt 64 9223372036854775808).toNat : Int) = _
  have h1 : (~~~BitVec.ofInt 64 9223372036854775808).toNat = 2 ^ 63 - 1 := by decide
  have h2 : (BitVec.ofInt 64 (x : Int)).toNat = x % 18446744073709551616 := by
    rw [BitVec.ofInt_natCast, BitVec.toNat_ofNat]
  rw [BitVec.toNat_and, h1, h2, Nat.and_two_pow_sub_one_eq_mod, IntKind.wrap_u64]
  omega
theorem isNaN01_any (x : Nat) (w : World) : Calls Tryz.prog 105 #[.int .u64 x] w fun e w' => e = .returned (.bool (nanX x)) ∧ w = w' := by
  have h := Lib.hid (andNot_sign x)
  go_enter Tryz.func105, Tryz.ntmps105
  go_wp2
  go_ret
  refine ⟨?_, rfl⟩
  rw [h.out]
  show Ending.returned (Value.bool _) = _
  unfold nanX
  exact congrArg (fun b => Ending.returned (Value.bool b)) (decide_eq_decide.2 (by omega))
theorem finite01_any (x : Nat) (w : World) : Calls Tryz.prog 127 #[.int .u64 x] w fun e w' => e = .returned (.bool (decide (x % 9223372036854775808 < 9218868437227405312))) ∧ w = w' := by
  have h := Lib.hid (andNot_sign x)
  go_enter Tryz.func127, Tryz.ntmps127
  go_wp2
  go_ret
  refine ⟨?_, rfl⟩
  rw [h.out]
  show Ending.returned (Value.bool _) = _
  exact congrArg (fun b => Ending.returned (Value.bool b)) (decide_eq_decide.2 (by omega))
theorem one01_any (x : Nat) (w : World) : Calls Tryz.prog 80 #[.int .u64 x] w fun e w' => e = .returned (.int .u64 (oneX x)) ∧ w = w' := by
  have HC := Lib.hid (isNaN01_any x w)
  have HO := Lib.hid (oneX_eq x)
  generalize nanX x = b at HC HO
  go_enter Tryz.func80, Tryz.ntmps80
  cases b
  all_goals
    go_wp2_with (refine (HC.out).mono ?_; rintro e w' ⟨rfl, rfl⟩)
    go_ret
    refine ⟨?_, rfl⟩
    rw [HO.out]
    rfl
theorem bits14_any (x : Nat) (w : World) : Calls Tryz.prog 74 #[.float .f64 x] w fun e w' => e = .returned (.int .u64 (oneX x)) ∧ w = w' := by
  have HC := Lib.hid (one01_any x w)
  go_enter Tryz.func74, Tryz.ntmps74
  go_wp2_with (refine (HC.out).mono ?_; rintro e w' ⟨rfl, rfl⟩)
  go_ret
  exact ⟨rfl, rfl⟩
theorem number14_any (x : Nat) (w : World) : Calls Tryz.prog 78 #[.int .u64 x] w fun e w' => e = .returned (.float .f64 x) ∧ w = w' := by
  go_enter Tryz.func78, Tryz.ntmps78
  go_wp2
  go_ret
  exact ⟨rfl, rfl⟩
theorem sameX12_any (x y : Nat) (w : World) : Calls Tryz.prog 75 #[.float .f64 x, .float .f64 y] w fun e w' => e = .returned (.bool (decide (oneX x = oneX y))) ∧ w = w' := by
  have HC := Lib.hid (one01_any x w)
  have HD := Lib.hid (one01_any y w)
  generalize oneX x = u at HC ⊢
  generalize oneX y = v at HD ⊢
  go_enter Tryz.func75, Tryz.ntmps75
  go_wp2_with (first | (refine (HC.out).mono ?_; clear HC; rintro e w' ⟨rfl, rfl⟩) | (refine (HD.out).mono ?_; rintro e w' ⟨rfl, rfl⟩))
  go_ret
  refine ⟨?_, rfl⟩
  show Ending.returned (Value.bool _) = _
  refine congrArg (fun b => Ending.returned (Value.bool b)) ?_
  rw [Bool.eq_iff_iff]
  simp
  try omega
end Go.Proofs.YtfpdleljhbkehaaGreatDoor
/- The document's twins of small functions (made by mkv2.py). -/
namespace Go.Proofs.YtfpdleljhbkehaaGreatDoor
open Go.RowKit Go.Sort

set_option maxHeartbeats 400000 in
theorem valid10_any (c r : Int) (w : World) :
    Calls Tryz.prog 81 #[.agg #[.int .i64 c, .int .i64 r]] w fun e w' => e = .returned (.bool (validB c r)) ∧ w' = w.alloc (.cells #[.int .i64 c, .int .i64 r] 26) := by
  unfold validB
  go_enter Tryz.func81, Tryz.ntmps81
  go_wp2
  all_goals (go_ret; refine ⟨?_, rfl⟩; congr 2; simp [*])
  all_goals omega

set_option maxHeartbeats 400000 in
theorem validArea10_any (a b c d : Int) (w : World) :
    Calls Tryz.prog 106 #[.agg #[.int .i64 a, .int .i64 b, .int .i64 c, .int .i64 d]] w fun e w' => e = .returned (.bool (validA a b c d)) ∧ Gr w w' := by
  unfold validA
  cases h1 : validB a b <;> cases h2 : validB c d
  all_goals
    go_enter Tryz.func106, Tryz.ntmps106
    go_wp2_with (go_at_call 81; refine (valid10_any _ _ _).mono ?_; rintro e w' ⟨rfl, rfl⟩)
    all_goals (go_ret; refine ⟨by congr 2; try (simp [*]; try omega), by repeat (first | exact Gr.refl _ | refine Gr.alloc ?_ _)⟩)

set_option maxHeartbeats 400000 in
theorem in10_any (a b c d x y : Int) (w : World) :
    Calls Tryz.prog 83 #[.agg #[.int .i64 a, .int .i64 b, .int .i64 c, .int .i64 d], .agg #[.int .i64 x, .int .i64 y]] w fun e w' => e = .returned (.bool (inB a b c d x y)) ∧ Gr w w' := by
  unfold inB
  cases h1 : validA a b c d
  all_goals
    go_enter Tryz.func83, Tryz.ntmps83
    go_wp2_with (go_at_call 106; refine (validArea10_any _ _ _ _ _).mono ?_; rintro e w' ⟨rfl, hg⟩; obtain ⟨hgc, hgf⟩ := hg.xt.cells; have hgz := hg.xt.sz)
    all_goals (go_ret; refine ⟨by congr 2; try (simp [*]; try omega), Gr.trans (((Gr.refl _).alloc _).alloc _) (by assumption)⟩)

set_option maxRecDepth 100000 in
set_option maxHeartbeats 2000000 in
theorem noValue17_any (v : ValT) (w : World) :
    Calls Tryz.prog 31 #[valV v] w fun e w' => e = .returned (.bool (noValB v)) ∧ Gr w w' := by
  obtain ⟨w0, hw0, hg0, hs0, c0, c1, c2, c3, c4⟩ := boxV w v 24
  have HG0 := Lib.hid hg0
  clear hg0
  go_enter Tryz.func31, Tryz.ntmps31
  go_wp2_with fail
  all_goals (go_ret; refine ⟨?_, HG0.out⟩; first | (simp [noValB, *]; done) | (by_cases hx : v.x = 0 <;> by_cases hf : v.f = 0 <;> simp_all [noValB]; done))
set_option maxRecDepth 100000 in
set_option maxHeartbeats 4000000 in
theorem noNode17_any (t : NodeT) (a : Option Addr) (cap : Nat) (w : World) :
    Calls Tryz.prog 32 #[nodeV t a t.args.length cap] w fun e w' => e = .returned (.bool (noNodeB t)) ∧ Gr w w' := by
  obtain ⟨w0, hw0, hg0, hs0, hN⟩ := boxN w t a t.args.length cap 31
  obtain ⟨c0, c1, c2, c3, c4, c5, c6, c7, c8, c9, c10, c11, c12, c13, c14⟩ := hN
  simp only [Nat.zero_add] at c0 c1 c2 c3 c4 c5 c6 c7 c8 c9 c10 c11 c12 c13 c14
  have HG0 := Lib.hid hg0
  clear hg0
  generalize hn : noNodeB t = ans
  have HA := Lib.hid hn
  clear hn
  go_enter Tryz.func32, Tryz.ntmps32
  go_wp2_with fail
  all_goals (go_ret; refine ⟨?_, HG0.out⟩; rw [← HA.out]; simp [noNodeB, *]; done)

theorem less10_any (a b : Int) (w : World) : Calls Tryz.prog 112 #[.int .i64 a, .int .i64 b] w fun e w' => e = .returned (.int .i64 (cmpI a b)) ∧ w = w' := by
  go_enter Tryz.func112, Tryz.ntmps112
  go_wp2
  all_goals (go_ret; refine ⟨?_, rfl⟩; first | (simp [cmpI, *]; done) | (unfold cmpI; rw [if_neg (by omega), if_neg (by omega)]; rfl))
theorem order10_any (a b x y : Int) (w : World) :
    Calls Tryz.prog 93 #[.agg #[.int .i64 a, .int .i64 b], .agg #[.int .i64 x, .int .i64 y]] w fun e w' => e = .returned (.int .i64 (orI (cmpI b y) (cmpI a x))) ∧ Gr w w' := by
  have H1 := Lib.hid (less10_any b y)
  have H2 := Lib.hid (less10_any a x)
  by_cases h : cmpI b y = 0
  all_goals
    rw [show orI (cmpI b y) (cmpI a x) = _ from by first | exact if_pos h | exact if_neg h]
    generalize cmpI b y = p at H1 h
    generalize cmpI a x = q at H2
    go_enter Tryz.func93, Tryz.ntmps93
    go_wp2_with (first | (refine (H1.out _).mono ?_; clear H1; rintro e w' ⟨rfl, rfl⟩) | (refine (H2.out _).mono ?_; rintro e w' ⟨rfl, rfl⟩))
    all_goals (go_ret; exact ⟨rfl, ((Gr.refl _).alloc _).alloc _⟩)
end Go.Proofs.YtfpdleljhbkehaaGreatDoor
/- A name in a list of names: quadrilleref12.one. -/
namespace Go.Proofs.YtfpdleljhbkehaaGreatDoor
open Go.RowKit Go.Sort

def oneR (n cur : List UInt8) : List UInt8 → Bool
  | [] => (cur == n) && !(n == [])
  | c :: r => if c = 32 then ((cur == n) && !(n == [])) || oneR n [] r else oneR n (cur ++ [c]) r
def oneAt (n L : List UInt8) (f i : Nat) : Bool := if i ≤ L.length then oneR n ((L.drop f).take (i - f)) (L.drop i) else false
theorem oneAt_end (n L : List UInt8) (f : Nat) : oneAt n L f L.length = (((L.drop f).take (L.length - f) == n) && !(n == [])) := by
  unfold oneAt; rw [if_pos (Nat.le_refl _), List.drop_length]; rfl
theorem oneAt_step {L : List UInt8} {i : Nat} {c : UInt8} (n : List UInt8) (f : Nat) (hc : L[i]? = some c) (hf : f ≤ i) (h : c ≠ 32) : oneAt n L f i = oneAt n L f (i + 1) := by
  have hi : i < L.length := (List.getElem?_eq_some_iff.1 hc).1
  unfold oneAt
  rw [if_pos (by omega), if_pos (by omega), drop_at hc, oneR, if_neg h]
  congr 1
  rw [show i + 1 - f = (i - f) + 1 by omega, List.take_add_one, List.getElem?_drop, show f + (i - f) = i by omega, hc]
  rfl
theorem oneAt_cut {L : List UInt8} {i : Nat} (n : List UInt8) (f : Nat) (hc : L[i]? = some 32) : oneAt n L f i = ((((L.drop f).take (i - f) == n) && !(n == [])) || oneAt n L (i + 1) (i + 1)) := by
  have hi : i < L.length := (List.getElem?_eq_some_iff.1 hc).1
  unfold oneAt
  rw [if_pos (by omega), if_pos (by omega), drop_at hc, oneR, if_pos rfl]
  simp
theorem cut_list (L : List UInt8) (f i : Nat) : ((⟨L.toArray⟩ : ByteArray).extract f i).toList = (L.drop f).take (i - f) := by
  rw [ByteArray.extract_mk]; simp
theorem empty_not (s : List UInt8) : (!s.isEmpty) = !(s == []) := by cases s <;> rfl
set_option maxRecDepth 100000 in
set_option maxHeartbeats 2000000 in
theorem one_any (s : ByteArray) (L : List UInt8) (hL : L.length < 1000000) (w : World) : Calls Tryz.prog 129 #[.string s, .string ⟨L.toArray⟩] w fun e w' => e = .returned (.bool (oneR s.toList [] L)) ∧ w = w' := by
  have hsz : (⟨L.toArray⟩ : ByteArray).size = L.length := by simp [ByteArray.size]
  go_enter Tryz.func129, Tryz.ntmps129
  go_wp2_with fail
  go_loopw [5, 6] (fun s5 s6 wr => ∃ f i : Nat, f ≤ i ∧ i ≤ L.length + 1 ∧ f ≤ L.length + 1 ∧ s5 = .int .i64 f ∧ s6 = .int .i64 i ∧ wr = w ∧ Hid (oneR s.toList [] L = oneAt s.toList L f i)) (fun _ s6 _ => L.length + 1 - (intOf s6).toNat)
  case atStart => exact ⟨0, 0, Nat.le_refl _, by omega, by omega, rfl, rfl, rfl, by unfold Hid oneAt; simp⟩
  case round =>
    obtain ⟨f, i, hf, hi, hf2, rfl, rfl, rfl, HS⟩ := hrel
    by_cases h1 : i ≤ L.length
    · by_cases h2 : i = L.length
      · subst h2
        have HE := Lib.hid (oneAt_end s.toList L f)
        go_wp2_with fail
        · rename_i e1 e2
          go_ret
          refine ⟨?_, rfl⟩
          rw [HS.out, HE.out, ← cut_list, e1, ← empty_not, e2]
          simp
        · rename_i e1 e2
          refine ⟨⟨L.length + 1, L.length + 1, Nat.le_refl _, Nat.le_refl _, Nat.le_refl _, by go_num, by go_num, trivial, ?_⟩, by simp [intOf]⟩
          unfold Hid
          rw [HS.out, HE.out, ← empty_not, e2, Bool.and_false]
          unfold oneAt
          rw [if_neg (by omega)]
        · rename_i e1
          refine ⟨⟨L.length + 1, L.length + 1, Nat.le_refl _, Nat.le_refl _, Nat.le_refl _, by go_num, by go_num, trivial, ?_⟩, by simp [intOf]⟩
          unfold Hid
          rw [HS.out, HE.out, ← cut_list, beq_eq_false_iff_ne.2 e1, Bool.false_and]
          unfold oneAt
          rw [if_neg (by omega)]
      · obtain ⟨c, hc⟩ : ∃ c, L[i]? = some c := ⟨L[i]'(by omega), by simp⟩
        have hil : (i : Int) < (L.length : Int) := by omega
        have hne : ((i : Int) == (L.length : Int)) = false := by simp; omega
        have hby : ((⟨L.toArray⟩ : ByteArray)[i]'(by rw [hsz]; omega)) = c := by
          have := (List.getElem?_eq_some_iff.1 hc).2
          rw [← this]; rfl
        by_cases h3 : c = 32
        · subst h3
          have hb : ((((⟨L.toArray⟩ : ByteArray)[i]'(by rw [hsz]; omega)).toNat : Int) == 32) = true := by rw [hby]; rfl
          have HE := Lib.hid (oneAt_cut s.toList f hc)
          clear hby hc
          go_wp2_with fail
          · rename_i e1 e2
            go_ret
            refine ⟨?_, rfl⟩
            rw [HS.out, HE.out, ← cut_list, e1, ← empty_not, e2]
            simp
          · rename_i e1 e2
            refine ⟨⟨i + 1, i + 1, Nat.le_refl _, by omega, by omega, by go_num, by go_num, trivial, ?_⟩, by simp [intOf]; omega⟩
            unfold Hid
            rw [HS.out, HE.out, ← empty_not, e2, Bool.and_false, Bool.false_or]
          · rename_i e1
            refine ⟨⟨i + 1, i + 1, Nat.le_refl _, by omega, by omega, by go_num, by go_num, trivial, ?_⟩, by simp [intOf]; omega⟩
            unfold Hid
            rw [HS.out, HE.out, ← cut_list, beq_eq_false_iff_ne.2 e1, Bool.false_and, Bool.false_or]
        · have hb : ((((⟨L.toArray⟩ : ByteArray)[i]'(by rw [hsz]; omega)).toNat : Int) == 32) = false := by
            rw [hby, beq_eq_false_iff_ne]
            intro h
            exact h3 (UInt8.toNat_inj.1 (by have : (32 : UInt8).toNat = 32 := rfl; omega))
          have HE := Lib.hid (oneAt_step s.toList f hc hf h3)
          clear hby hc
          go_wp2_with fail
          all_goals
            refine ⟨⟨f, i + 1, by omega, by omega, by omega, by go_num, by go_num, trivial, ?_⟩, by simp [intOf]; omega⟩
            unfold Hid
            rw [HS.out, HE.out]
    · have he : i = L.length + 1 := by omega
      subst he
      have HE : Hid (oneAt s.toList L f (L.length + 1) = false) := by unfold Hid oneAt; rw [if_neg (by omega)]
      go_wp2_with fail
      go_ret
      exact ⟨by rw [HS.out, HE.out]; rfl, rfl⟩
end Go.Proofs.YtfpdleljhbkehaaGreatDoor
/- Right UTF-8, by the document. -/
namespace Go.Proofs.YtfpdleljhbkehaaGreatDoor
open Go.RowKit Go.Sort

/-- The byte at a place, 0 behind the end. -/
def bAt (L : List UInt8) (i : Nat) : Nat := (L.getD i 0).toNat
theorem bAt_lt (L : List UInt8) (i : Nat) : bAt L i < 256 := (L.getD i 0).toNat_lt
theorem bAt_eq {L : List UInt8} {i : Nat} (h : i < (⟨L.toArray⟩ : ByteArray).size) : ((⟨L.toArray⟩ : ByteArray)[i]'h).toNat = bAt L i := by
  have hl : i < L.length := by simpa [ByteArray.size] using h
  unfold bAt
  rw [List.getD_eq_getElem?_getD, List.getElem?_eq_getElem hl]
  rfl
theorem valid_at {L : List UInt8} {i : Nat} (hi : i < L.length) : Lib.validD (L.drop i) =
    if (Lib.decodeN (L.length - i) (bAt L i) (bAt L (i + 1)) (bAt L (i + 2)) (bAt L (i + 3))).1 = 65533 ∧ (Lib.decodeN (L.length - i) (bAt L i) (bAt L (i + 1)) (bAt L (i + 2)) (bAt L (i + 3))).2 = 1 then false
    else Lib.validD (L.drop (i + (Lib.decodeN (L.length - i) (bAt L i) (bAt L (i + 1)) (bAt L (i + 2)) (bAt L (i + 3))).2)) := by
  have hne : L.drop i ≠ [] := by intro h; have := congrArg List.length h; simp at this; omega
  have g : ∀ k, (L.drop i).getD k 0 = L.getD (i + k) 0 := fun k => by simp [List.getD_eq_getElem?_getD]
  have hd : Lib.decodeL (L.drop i) = Lib.decodeN (L.length - i) (bAt L i) (bAt L (i + 1)) (bAt L (i + 2)) (bAt L (i + 3)) := by
    rw [Lib.decodeL_N, List.length_drop, g, g, g, g]; rfl
  rw [Lib.validD_step _ hne, hd, List.drop_drop]
/-- The value that so many bytes behind the lead make. -/
def contU (b : Nat → Nat) (c : Nat) : Nat → Nat
  | 0 => c
  | k + 1 => contU b c k * 64 + b (k + 1) - 128
/-- The way out: a lead byte that is none; a byte that does not continue; a value that is none; or passed over. -/
structure Lead (b0 m least c : Nat) : Prop where
  out : (m = 1 ∧ least = 128 ∧ 194 ≤ b0 ∧ b0 < 224 ∧ c = b0 - 192) ∨ (m = 2 ∧ least = 2048 ∧ 224 ≤ b0 ∧ b0 < 240 ∧ c = b0 - 224) ∨ (m = 3 ∧ least = 65536 ∧ 240 ≤ b0 ∧ b0 < 245 ∧ c = b0 - 240)
theorem valid_low {L : List UInt8} {i : Nat} (hi : i < L.length) (h : bAt L i < 128) : Lib.validD (L.drop i) = Lib.validD (L.drop (i + 1)) := by
  rw [valid_at hi]
  unfold Lib.decodeN
  rw [if_pos h]
  simp only
  rw [if_neg (by omega)]
theorem valid_none {L : List UInt8} {i : Nat} (hi : i < L.length) (h : 128 ≤ bAt L i) (h2 : ¬ (194 ≤ bAt L i ∧ bAt L i < 245)) : Lib.validD (L.drop i) = false := by
  have hb := bAt_lt L i
  rw [valid_at hi, if_pos]
  generalize bAt L i = b0 at *
  unfold Lib.decodeN
  repeat' split
  all_goals first | exact ⟨rfl, rfl⟩ | (exfalso; omega)
set_option maxRecDepth 100000 in
set_option maxHeartbeats 4000000 in
theorem valid_cont {L : List UInt8} {i m least c k : Nat} (hi : i < L.length) (hl : Lead (bAt L i) m least c) (hk : 1 ≤ k) (hkm : k ≤ m) (h : L.length ≤ i + k ∨ bAt L (i + k) < 128 ∨ 191 < bAt L (i + k)) : Lib.validD (L.drop i) = false := by
  rw [valid_at hi, if_pos]
  have hkk : k = 1 ∨ k = 2 ∨ k = 3 := by rcases hl.out with h | h | h <;> omega
  have hb1 := bAt_lt L (i + 1)
  have hb2 := bAt_lt L (i + 2)
  have hb3 := bAt_lt L (i + 3)
  have hlo := hl.out
  clear hl
  rcases hkk with rfl | rfl | rfl
  all_goals
    generalize bAt L i = b0 at *
    generalize bAt L (i + 1) = b1 at *
    generalize bAt L (i + 2) = b2 at *
    generalize bAt L (i + 3) = b3 at *
    unfold Lib.decodeN
    repeat' split
    all_goals first | exact ⟨rfl, rfl⟩ | (exfalso; omega)
set_option maxRecDepth 100000 in
set_option maxHeartbeats 4000000 in
theorem dec1 {n b0 b1 b2 b3 : Nat} (h0 : 194 ≤ b0) (h0' : b0 < 224) (hn : 1 < n) (h1 : 128 ≤ b1) (h1' : b1 ≤ 191) :
    (((b0 - 192) * 64 + b1 - 128 < 128 ∨ 1114111 < (b0 - 192) * 64 + b1 - 128 ∨ (55296 ≤ (b0 - 192) * 64 + b1 - 128 ∧ (b0 - 192) * 64 + b1 - 128 < 57344)) ∧ Lib.decodeN n b0 b1 b2 b3 = (65533, 1)) ∨
    (¬ ((b0 - 192) * 64 + b1 - 128 < 128 ∨ 1114111 < (b0 - 192) * 64 + b1 - 128 ∨ (55296 ≤ (b0 - 192) * 64 + b1 - 128 ∧ (b0 - 192) * 64 + b1 - 128 < 57344)) ∧ (Lib.decodeN n b0 b1 b2 b3).2 = 2) := by
  unfold Lib.decodeN
  repeat' split
  all_goals first | (exfalso; omega) | exact Or.inr ⟨by omega, rfl⟩ | exact Or.inl ⟨by omega, rfl⟩
set_option maxRecDepth 100000 in
set_option maxHeartbeats 4000000 in
theorem dec2 {n b0 b1 b2 b3 : Nat} (h0 : 224 ≤ b0) (h0' : b0 < 240) (hn : 2 < n) (h1 : 128 ≤ b1) (h1' : b1 ≤ 191) (h2 : 128 ≤ b2) (h2' : b2 ≤ 191) :
    ((((b0 - 224) * 64 + b1 - 128) * 64 + b2 - 128 < 2048 ∨ 1114111 < ((b0 - 224) * 64 + b1 - 128) * 64 + b2 - 128 ∨ (55296 ≤ ((b0 - 224) * 64 + b1 - 128) * 64 + b2 - 128 ∧ ((b0 - 224) * 64 + b1 - 128) * 64 + b2 - 128 < 57344)) ∧ Lib.decodeN n b0 b1 b2 b3 = (65533, 1)) ∨
    (¬ (((b0 - 224) * 64 + b1 - 128) * 64 + b2 - 128 < 2048 ∨ 1114111 < ((b0 - 224) * 64 + b1 - 128) * 64 + b2 - 128 ∨ (55296 ≤ ((b0 - 224) * 64 + b1 - 128) * 64 + b2 - 128 ∧ ((b0 - 224) * 64 + b1 - 128) * 64 + b2 - 128 < 57344)) ∧ (Lib.decodeN n b0 b1 b2 b3).2 = 3) := by
  unfold Lib.decodeN
  repeat' split
  all_goals first | (exfalso; omega) | exact Or.inr ⟨by omega, rfl⟩ | exact Or.inl ⟨by omega, rfl⟩
set_option maxRecDepth 100000 in
set_option maxHeartbeats 4000000 in
theorem dec3 {n b0 b1 b2 b3 : Nat} (h0 : 240 ≤ b0) (h0' : b0 < 245) (hn : 3 < n) (h1 : 128 ≤ b1) (h1' : b1 ≤ 191) (h2 : 128 ≤ b2) (h2' : b2 ≤ 191) (h3 : 128 ≤ b3) (h3' : b3 ≤ 191) :
    (((((b0 - 240) * 64 + b1 - 128) * 64 + b2 - 128) * 64 + b3 - 128 < 65536 ∨ 1114111 < (((b0 - 240) * 64 + b1 - 128) * 64 + b2 - 128) * 64 + b3 - 128 ∨ (55296 ≤ (((b0 - 240) * 64 + b1 - 128) * 64 + b2 - 128) * 64 + b3 - 128 ∧ (((b0 - 240) * 64 + b1 - 128) * 64 + b2 - 128) * 64 + b3 - 128 < 57344)) ∧ Lib.decodeN n b0 b1 b2 b3 = (65533, 1)) ∨
    (¬ ((((b0 - 240) * 64 + b1 - 128) * 64 + b2 - 128) * 64 + b3 - 128 < 65536 ∨ 1114111 < (((b0 - 240) * 64 + b1 - 128) * 64 + b2 - 128) * 64 + b3 - 128 ∨ (55296 ≤ (((b0 - 240) * 64 + b1 - 128) * 64 + b2 - 128) * 64 + b3 - 128 ∧ (((b0 - 240) * 64 + b1 - 128) * 64 + b2 - 128) * 64 + b3 - 128 < 57344)) ∧ (Lib.decodeN n b0 b1 b2 b3).2 = 4) := by
  unfold Lib.decodeN
  repeat' split
  all_goals first | (exfalso; omega) | exact Or.inr ⟨by omega, rfl⟩ | exact Or.inl ⟨by omega, rfl⟩
set_option maxRecDepth 100000 in
set_option maxHeartbeats 4000000 in
theorem valid_val {L : List UInt8} {i m least c : Nat} (hi : i < L.length) (hl : Lead (bAt L i) m least c) (hc : ∀ k, 1 ≤ k → k ≤ m → i + k < L.length ∧ 128 ≤ bAt L (i + k) ∧ bAt L (i + k) ≤ 191) :
    Lib.validD (L.drop i) = if contU (fun k => bAt L (i + k)) c m < least ∨ 1114111 < contU (fun k => bAt L (i + k)) c m ∨ (55296 ≤ contU (fun k => bAt L (i + k)) c m ∧ contU (fun k => bAt L (i + k)) c m < 57344) then false else Lib.validD (L.drop (i + 1 + m)) := by
  rw [valid_at hi]
  have key : ∀ {p : Prop} [Decidable p] (d : Nat × Nat), ((p ∧ d = (65533, 1)) ∨ (¬ p ∧ d.2 = m + 1)) → 1 ≤ m → (if d.1 = 65533 ∧ d.2 = 1 then false else Lib.validD (L.drop (i + d.2))) = if p then false else Lib.validD (L.drop (i + 1 + m)) := by
    rintro p _ d (⟨hp, rfl⟩ | ⟨hp, hd⟩) hm
    · rw [if_pos hp, if_pos ⟨rfl, rfl⟩]
    · rw [if_neg hp, if_neg (by omega), hd, show i + (m + 1) = i + 1 + m by omega]
  rcases hl.out with ⟨rfl, rfl, q1, q2, rfl⟩ | ⟨rfl, rfl, q1, q2, rfl⟩ | ⟨rfl, rfl, q1, q2, rfl⟩
  · have h1 := hc 1 (by omega) (by omega)
    exact key _ (dec1 q1 q2 (by omega) h1.2.1 h1.2.2) (by omega)
  · have h1 := hc 1 (by omega) (by omega)
    have h2 := hc 2 (by omega) (by omega)
    exact key _ (dec2 q1 q2 (by omega) h1.2.1 h1.2.2 h2.2.1 h2.2.2) (by omega)
  · have h1 := hc 1 (by omega) (by omega)
    have h2 := hc 2 (by omega) (by omega)
    have h3 := hc 3 (by omega) (by omega)
    exact key _ (dec3 q1 q2 (by omega) h1.2.1 h1.2.2 h2.2.1 h2.2.2 h3.2.1 h3.2.2) (by omega)
end Go.Proofs.YtfpdleljhbkehaaGreatDoor
