import Derived.Test.YtlgkaipgdhcajaaGreatDoorA13
import Derived.Test.YtlgkaipgdhcajaaGreatDoorA1
import Derived.Lib.ValidLaws
/- The document's Valid and ValidArea of cells. -/
namespace Go.Proofs.YtlgkaipgdhcajaaGreatDoor
open Go.RowKit Go.Sort

set_option maxHeartbeats 400000 in
theorem valid10_any (c r : Int) (w : World) :
    Calls Tryz.prog 113 #[.agg #[.int .i64 c, .int .i64 r]] w fun e w' => e = .returned (.bool (validB c r)) ∧ w' = w.alloc (.cells #[.int .i64 c, .int .i64 r] 24) := by
  unfold validB
  go_enter Tryz.func113, Tryz.ntmps113
  go_wp2
  all_goals (go_ret; refine ⟨?_, rfl⟩; congr 2; simp [*])
  all_goals omega

set_option maxHeartbeats 400000 in
theorem validArea10_any (a b c d : Int) (w : World) :
    Calls Tryz.prog 114 #[.agg #[.int .i64 a, .int .i64 b, .int .i64 c, .int .i64 d]] w fun e w' => e = .returned (.bool (validA a b c d)) ∧ Gr w w' := by
  unfold validA
  cases h1 : validB a b <;> cases h2 : validB c d
  all_goals
    go_enter Tryz.func114, Tryz.ntmps114
    go_wp2_with (go_at_call 113; refine (valid10_any _ _ _).mono ?_; rintro e w' ⟨rfl, rfl⟩)
    all_goals (go_ret; refine ⟨by congr 2; try (simp [*]; try omega), by repeat (first | exact Gr.refl _ | refine Gr.alloc ?_ _)⟩)

end Go.Proofs.YtlgkaipgdhcajaaGreatDoor
/- A name in a list of names: quadrilleref12.one. -/
namespace Go.Proofs.YtlgkaipgdhcajaaGreatDoor
open Go.RowKit Go.Sort

def oneR (n cur : List UInt8) : List UInt8 → Bool
  | [] => (cur == n) && !(n == [])
  | c :: r => if c = 32 then ((cur == n) && !(n == [])) || oneR n [] r else oneR n (cur ++ [c]) r
def oneAt (n L : List UInt8) (f i : Nat) : Bool := if i ≤ L.length then oneR n ((L.drop f).take (i - f)) (L.drop i) else false
theorem oneAt_end (n L : List UInt8) (f : Nat) : oneAt n L f L.length = (((L.drop f).take (L.length - f) == n) && !(n == [])) := by
  unfold oneAt; rw [if_pos (Nat.le_refl _), List.drop_length]; rfl
theorem oneAt_step {L : List UInt8} {i : Nat} {c : UInt8} (n : List UInt8) (f : Nat) (hc : L[i]? = some c) (hf : f ≤ i) (h : c ≠ 32) : oneAt n L f i = oneAt n L f (i + 1) := by
  have hi : i < L.length := (List.getElem?_eq_some_iff.1 hc).1
  unfold oneAt
  rw [if_pos (by omega), if_pos (by omega), drop_at hc, oneR, if_neg h]
  congr 1
  rw [show i + 1 - f = (i - f) + 1 by omega, List.take_add_one, List.getElem?_drop, show f + (i - f) = i by omega, hc]
  rfl
theorem oneAt_cut {L : List UInt8} {i : Nat} (n : List UInt8) (f : Nat) (hc : L[i]? = some 32) : oneAt n L f i = ((((L.drop f).take (i - f) == n) && !(n == [])) || oneAt n L (i + 1) (i + 1)) := by
  have hi : i < L.length := (List.getElem?_eq_some_iff.1 hc).1
  unfold oneAt
  rw [if_pos (by omega), if_pos (by omega), drop_at hc, oneR, if_pos rfl]
  simp
theorem cut_list (L : List UInt8) (f i : Nat) : ((⟨L.toArray⟩ : ByteArray).extract f i).toList = (L.drop f).take (i - f) := by
  rw [ByteArray.extract_mk]; simp
theorem empty_not (s : List UInt8) : (!s.isEmpty) = !(s == []) := by cases s <;> rfl
set_option maxRecDepth 100000 in
set_option maxHeartbeats 2000000 in
theorem one_any (s : ByteArray) (L : List UInt8) (hL : L.length < 1000000) (w : World) : Calls Tryz.prog 130 #[.string s, .string ⟨L.toArray⟩] w fun e w' => e = .returned (.bool (oneR s.toList [] L)) ∧ w = w' := by
  have hsz : (⟨L.toArray⟩ : ByteArray).size = L.length := by simp [ByteArray.size]
  go_enter Tryz.func130, Tryz.ntmps130
  go_wp2_with fail
  go_loopw [5, 6] (fun s5 s6 wr => ∃ f i : Nat, f ≤ i ∧ i ≤ L.length + 1 ∧ f ≤ L.length + 1 ∧ s5 = .int .i64 f ∧ s6 = .int .i64 i ∧ wr = w ∧ Hid (oneR s.toList [] L = oneAt s.toList L f i)) (fun _ s6 _ => L.length + 1 - (intOf s6).toNat)
  case atStart => exact ⟨0, 0, Nat.le_refl _, by omega, by omega, rfl, rfl, rfl, by unfold Hid oneAt; simp⟩
  case round =>
    obtain ⟨f, i, hf, hi, hf2, rfl, rfl, rfl, HS⟩ := hrel
    by_cases h1 : i ≤ L.length
    · by_cases h2 : i = L.length
      · subst h2
        have HE := Lib.hid (oneAt_end s.toList L f)
        go_wp2_with fail
        · rename_i e1 e2
          go_ret
          refine ⟨?_, rfl⟩
          rw [HS.out, HE.out, ← cut_list, e1, ← empty_not, e2]
          simp
        · rename_i e1 e2
          refine ⟨⟨L.length + 1, L.length + 1, Nat.le_refl _, Nat.le_refl _, Nat.le_refl _, by go_num, by go_num, trivial, ?_⟩, by simp [intOf]⟩
          unfold Hid
          rw [HS.out, HE.out, ← empty_not, e2, Bool.and_false]
          unfold oneAt
          rw [if_neg (by omega)]
        · rename_i e1
          refine ⟨⟨L.length + 1, L.length + 1, Nat.le_refl _, Nat.le_refl _, Nat.le_refl _, by go_num, by go_num, trivial, ?_⟩, by simp [intOf]⟩
          unfold Hid
          rw [HS.out, HE.out, ← cut_list, beq_eq_false_iff_ne.2 e1, Bool.false_and]
          unfold oneAt
          rw [if_neg (by omega)]
      · obtain ⟨c, hc⟩ : ∃ c, L[i]? = some c := ⟨L[i]'(by omega), by simp⟩
        have hil : (i : Int) < (L.length : Int) := by omega
        have hne : ((i : Int) == (L.length : Int)) = false := by simp; omega
        have hby : ((⟨L.toArray⟩ : ByteArray)[i]'(by rw [hsz]; omega)) = c := by
          have := (List.getElem?_eq_some_iff.1 hc).2
          rw [← this]; rfl
        by_cases h3 : c = 32
        · subst h3
          have hb : ((((⟨L.toArray⟩ : ByteArray)[i]'(by rw [hsz]; omega)).toNat : Int) == 32) = true := by rw [hby]; rfl
          have HE := Lib.hid (oneAt_cut s.toList f hc)
          clear hby hc
          go_wp2_with fail
          · rename_i e1 e2
            go_ret
            refine ⟨?_, rfl⟩
            rw [HS.out, HE.out, ← cut_list, e1, ← empty_not, e2]
            simp
          · rename_i e1 e2
            refine ⟨⟨i + 1, i + 1, Nat.le_refl _, by omega, by omega, by go_num, by go_num, trivial, ?_⟩, by simp [intOf]; omega⟩
            unfold Hid
            rw [HS.out, HE.out, ← empty_not, e2, Bool.and_false, Bool.false_or]
          · rename_i e1
            refine ⟨⟨i + 1, i + 1, Nat.le_refl _, by omega, by omega, by go_num, by go_num, trivial, ?_⟩, by simp [intOf]; omega⟩
            unfold Hid
            rw [HS.out, HE.out, ← cut_list, beq_eq_false_iff_ne.2 e1, Bool.false_and, Bool.false_or]
        · have hb : ((((⟨L.toArray⟩ : ByteArray)[i]'(by rw [hsz]; omega)).toNat : Int) == 32) = false := by
            rw [hby, beq_eq_false_iff_ne]
            intro h
            exact h3 (UInt8.toNat_inj.1 (by have : (32 : UInt8).toNat = 32 := rfl; omega))
          have HE := Lib.hid (oneAt_step s.toList f hc hf h3)
          clear hby hc
          go_wp2_with fail
          all_goals
            refine ⟨⟨f, i + 1, by omega, by omega, by omega, by go_num, by go_num, trivial, ?_⟩, by simp [intOf]; omega⟩
            unfold Hid
            rw [HS.out, HE.out]
    · have he : i = L.length + 1 := by omega
      subst he
      have HE : Hid (oneAt s.toList L f (L.length + 1) = false) := by unfold Hid oneAt; rw [if_neg (by omega)]
      go_wp2_with fail
      go_ret
      exact ⟨by rw [HS.out, HE.out]; rfl, rfl⟩
end Go.Proofs.YtlgkaipgdhcajaaGreatDoor
/- Right UTF-8, by the document. -/
namespace Go.Proofs.YtlgkaipgdhcajaaGreatDoor
open Go.RowKit Go.Sort

/-- The byte at a place, 0 behind the end. -/
def bAt (L : List UInt8) (i : Nat) : Nat := (L.getD i 0).toNat
theorem bAt_lt (L : List UInt8) (i : Nat) : bAt L i < 256 := (L.getD i 0).toNat_lt
theorem bAt_eq {L : List UInt8} {i : Nat} (h : i < (⟨L.toArray⟩ : ByteArray).size) : ((⟨L.toArray⟩ : ByteArray)[i]'h).toNat = bAt L i := by
  have hl : i < L.length := by simpa [ByteArray.size] using h
  unfold bAt
  rw [List.getD_eq_getElem?_getD, List.getElem?_eq_getElem hl]
  rfl
theorem valid_at {L : List UInt8} {i : Nat} (hi : i < L.length) : Lib.validD (L.drop i) =
    if (Lib.decodeN (L.length - i) (bAt L i) (bAt L (i + 1)) (bAt L (i + 2)) (bAt L (i + 3))).1 = 65533 ∧ (Lib.decodeN (L.length - i) (bAt L i) (bAt L (i + 1)) (bAt L (i + 2)) (bAt L (i + 3))).2 = 1 then false
    else Lib.validD (L.drop (i + (Lib.decodeN (L.length - i) (bAt L i) (bAt L (i + 1)) (bAt L (i + 2)) (bAt L (i + 3))).2)) := by
  have hne : L.drop i ≠ [] := by intro h; have := congrArg List.length h; simp at this; omega
  have g : ∀ k, (L.drop i).getD k 0 = L.getD (i + k) 0 := fun k => by simp [List.getD_eq_getElem?_getD]
  have hd : Lib.decodeL (L.drop i) = Lib.decodeN (L.length - i) (bAt L i) (bAt L (i + 1)) (bAt L (i + 2)) (bAt L (i + 3)) := by
    rw [Lib.decodeL_N, List.length_drop, g, g, g, g]; rfl
  rw [Lib.validD_step _ hne, hd, List.drop_drop]
/-- The value that so many bytes behind the lead make. -/
def contU (b : Nat → Nat) (c : Nat) : Nat → Nat
  | 0 => c
  | k + 1 => contU b c k * 64 + b (k + 1) - 128
/-- The way out: a lead byte that is none; a byte that does not continue; a value that is none; or passed over. -/
structure Lead (b0 m least c : Nat) : Prop where
  out : (m = 1 ∧ least = 128 ∧ 194 ≤ b0 ∧ b0 < 224 ∧ c = b0 - 192) ∨ (m = 2 ∧ least = 2048 ∧ 224 ≤ b0 ∧ b0 < 240 ∧ c = b0 - 224) ∨ (m = 3 ∧ least = 65536 ∧ 240 ≤ b0 ∧ b0 < 245 ∧ c = b0 - 240)
theorem valid_low {L : List UInt8} {i : Nat} (hi : i < L.length) (h : bAt L i < 128) : Lib.validD (L.drop i) = Lib.validD (L.drop (i + 1)) := by
  rw [valid_at hi]
  unfold Lib.decodeN
  rw [if_pos h]
  simp only
  rw [if_neg (by omega)]
theorem valid_none {L : List UInt8} {i : Nat} (hi : i < L.length) (h : 128 ≤ bAt L i) (h2 : ¬ (194 ≤ bAt L i ∧ bAt L i < 245)) : Lib.validD (L.drop i) = false := by
  have hb := bAt_lt L i
  rw [valid_at hi, if_pos]
  generalize bAt L i = b0 at *
  unfold Lib.decodeN
  repeat' split
  all_goals first | exact ⟨rfl, rfl⟩ | (exfalso; omega)
set_option maxRecDepth 100000 in
set_option maxHeartbeats 4000000 in
theorem valid_cont {L : List UInt8} {i m least c k : Nat} (hi : i < L.length) (hl : Lead (bAt L i) m least c) (hk : 1 ≤ k) (hkm : k ≤ m) (h : L.length ≤ i + k ∨ bAt L (i + k) < 128 ∨ 191 < bAt L (i + k)) : Lib.validD (L.drop i) = false := by
  rw [valid_at hi, if_pos]
  have hkk : k = 1 ∨ k = 2 ∨ k = 3 := by rcases hl.out with h | h | h <;> omega
  have hb1 := bAt_lt L (i + 1)
  have hb2 := bAt_lt L (i + 2)
  have hb3 := bAt_lt L (i + 3)
  have hlo := hl.out
  clear hl
  rcases hkk with rfl | rfl | rfl
  all_goals
    generalize bAt L i = b0 at *
    generalize bAt L (i + 1) = b1 at *
    generalize bAt L (i + 2) = b2 at *
    generalize bAt L (i + 3) = b3 at *
    unfold Lib.decodeN
    repeat' split
    all_goals first | exact ⟨rfl, rfl⟩ | (exfalso; omega)
set_option maxRecDepth 100000 in
set_option maxHeartbeats 4000000 in
theorem dec1 {n b0 b1 b2 b3 : Nat} (h0 : 194 ≤ b0) (h0' : b0 < 224) (hn : 1 < n) (h1 : 128 ≤ b1) (h1' : b1 ≤ 191) :
    (((b0 - 192) * 64 + b1 - 128 < 128 ∨ 1114111 < (b0 - 192) * 64 + b1 - 128 ∨ (55296 ≤ (b0 - 192) * 64 + b1 - 128 ∧ (b0 - 192) * 64 + b1 - 128 < 57344)) ∧ Lib.decodeN n b0 b1 b2 b3 = (65533, 1)) ∨
    (¬ ((b0 - 192) * 64 + b1 - 128 < 128 ∨ 1114111 < (b0 - 192) * 64 + b1 - 128 ∨ (55296 ≤ (b0 - 192) * 64 + b1 - 128 ∧ (b0 - 192) * 64 + b1 - 128 < 57344)) ∧ (Lib.decodeN n b0 b1 b2 b3).2 = 2) := by
  unfold Lib.decodeN
  repeat' split
  all_goals first | (exfalso; omega) | exact Or.inr ⟨by omega, rfl⟩ | exact Or.inl ⟨by omega, rfl⟩
set_option maxRecDepth 100000 in
set_option maxHeartbeats 4000000 in
theorem dec2 {n b0 b1 b2 b3 : Nat} (h0 : 224 ≤ b0) (h0' : b0 < 240) (hn : 2 < n) (h1 : 128 ≤ b1) (h1' : b1 ≤ 191) (h2 : 128 ≤ b2) (h2' : b2 ≤ 191) :
    ((((b0 - 224) * 64 + b1 - 128) * 64 + b2 - 128 < 2048 ∨ 1114111 < ((b0 - 224) * 64 + b1 - 128) * 64 + b2 - 128 ∨ (55296 ≤ ((b0 - 224) * 64 + b1 - 128) * 64 + b2 - 128 ∧ ((b0 - 224) * 64 + b1 - 128) * 64 + b2 - 128 < 57344)) ∧ Lib.decodeN n b0 b1 b2 b3 = (65533, 1)) ∨
    (¬ (((b0 - 224) * 64 + b1 - 128) * 64 + b2 - 128 < 2048 ∨ 1114111 < ((b0 - 224) * 64 + b1 - 128) * 64 + b2 - 128 ∨ (55296 ≤ ((b0 - 224) * 64 + b1 - 128) * 64 + b2 - 128 ∧ ((b0 - 224) * 64 + b1 - 128) * 64 + b2 - 128 < 57344)) ∧ (Lib.decodeN n b0 b1 b2 b3).2 = 3) := by
  unfold Lib.decodeN
  repeat' split
  all_goals first | (exfalso; omega) | exact Or.inr ⟨by omega, rfl⟩ | exact Or.inl ⟨by omega, rfl⟩
set_option maxRecDepth 100000 in
set_option maxHeartbeats 4000000 in
theorem dec3 {n b0 b1 b2 b3 : Nat} (h0 : 240 ≤ b0) (h0' : b0 < 245) (hn : 3 < n) (h1 : 128 ≤ b1) (h1' : b1 ≤ 191) (h2 : 128 ≤ b2) (h2' : b2 ≤ 191) (h3 : 128 ≤ b3) (h3' : b3 ≤ 191) :
    (((((b0 - 240) * 64 + b1 - 128) * 64 + b2 - 128) * 64 + b3 - 128 < 65536 ∨ 1114111 < (((b0 - 240) * 64 + b1 - 128) * 64 + b2 - 128) * 64 + b3 - 128 ∨ (55296 ≤ (((b0 - 240) * 64 + b1 - 128) * 64 + b2 - 128) * 64 + b3 - 128 ∧ (((b0 - 240) * 64 + b1 - 128) * 64 + b2 - 128) * 64 + b3 - 128 < 57344)) ∧ Lib.decodeN n b0 b1 b2 b3 = (65533, 1)) ∨
    (¬ ((((b0 - 240) * 64 + b1 - 128) * 64 + b2 - 128) * 64 + b3 - 128 < 65536 ∨ 1114111 < (((b0 - 240) * 64 + b1 - 128) * 64 + b2 - 128) * 64 + b3 - 128 ∨ (55296 ≤ (((b0 - 240) * 64 + b1 - 128) * 64 + b2 - 128) * 64 + b3 - 128 ∧ (((b0 - 240) * 64 + b1 - 128) * 64 + b2 - 128) * 64 + b3 - 128 < 57344)) ∧ (Lib.decodeN n b0 b1 b2 b3).2 = 4) := by
  unfold Lib.decodeN
  repeat' split
  all_goals first | (exfalso; omega) | exact Or.inr ⟨by omega, rfl⟩ | exact Or.inl ⟨by omega, rfl⟩
set_option maxRecDepth 100000 in
set_option maxHeartbeats 4000000 in
theorem valid_val {L : List UInt8} {i m least c : Nat} (hi : i < L.length) (hl : Lead (bAt L i) m least c) (hc : ∀ k, 1 ≤ k → k ≤ m → i + k < L.length ∧ 128 ≤ bAt L (i + k) ∧ bAt L (i + k) ≤ 191) :
    Lib.validD (L.drop i) = if contU (fun k => bAt L (i + k)) c m < least ∨ 1114111 < contU (fun k => bAt L (i + k)) c m ∨ (55296 ≤ contU (fun k => bAt L (i + k)) c m ∧ contU (fun k => bAt L (i + k)) c m < 57344) then false else Lib.validD (L.drop (i + 1 + m)) := by
  rw [valid_at hi]
  have key : ∀ {p : Prop} [Decidable p] (d : Nat × Nat), ((p ∧ d = (65533, 1)) ∨ (¬ p ∧ d.2 = m + 1)) → 1 ≤ m → (if d.1 = 65533 ∧ d.2 = 1 then false else Lib.validD (L.drop (i + d.2))) = if p then false else Lib.validD (L.drop (i + 1 + m)) := by
    rintro p _ d (⟨hp, rfl⟩ | ⟨hp, hd⟩) hm
    · rw [if_pos hp, if_pos ⟨rfl, rfl⟩]
    · rw [if_neg hp, if_neg (by omega), hd, show i + (m + 1) = i + 1 + m by omega]
  rcases hl.out with ⟨rfl, rfl, q1, q2, rfl⟩ | ⟨rfl, rfl, q1, q2, rfl⟩ | ⟨rfl, rfl, q1, q2, rfl⟩
  · have h1 := hc 1 (by omega) (by omega)
    exact key _ (dec1 q1 q2 (by omega) h1.2.1 h1.2.2) (by omega)
  · have h1 := hc 1 (by omega) (by omega)
    have h2 := hc 2 (by omega) (by omega)
    exact key _ (dec2 q1 q2 (by omega) h1.2.1 h1.2.2 h2.2.1 h2.2.2) (by omega)
  · have h1 := hc 1 (by omega) (by omega)
    have h2 := hc 2 (by omega) (by omega)
    have h3 := hc 3 (by omega) (by omega)
    exact key _ (dec3 q1 q2 (by omega) h1.2.1 h1.2.2 h2.2.1 h2.2.2 h3.2.1 h3.2.2) (by omega)
end Go.Proofs.YtlgkaipgdhcajaaGreatDoor
