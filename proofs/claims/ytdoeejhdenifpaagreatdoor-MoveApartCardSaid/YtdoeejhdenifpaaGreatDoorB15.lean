import Derived.Test.YtdoeejhdenifpaaGreatDoorB4
import Derived.Test.YtdoeejhdenifpaaGreatDoorB6
import Derived.Laws.MakeOwn
set_option maxRecDepth 100000
set_option maxHeartbeats 16000000
namespace Go.Proofs.YtdoeejhdenifpaaGreatDoor
section
open Go.RowKit Go.Sort
theorem jGn (x : Nat) (w : World) : Calls Tryz.prog 163 #[.int .u64 x] w fun e w' => e = .returned (.bool (nanX x)) /\ w = w' := by
 have h := h_ (ypW x);go_enter Tryz.func163, Tryz.ntmps163;go_wp2;go_ret;refine ⟨?_, rfl⟩;rw [h.out]
 show Ending.returned (Value.bool _) = _
 unfold nanX;exact congrArg (fun b => Ending.returned (Value.bool b)) (decide_eq_decide.2 (by omega))
theorem z29 (x : Nat) (w : World) : Calls Tryz.prog 144 #[.int .u64 x] w fun e w' => e = .returned (.int .u64 (oneX x)) /\ w = w' := by
 have HC := h_ (jGn x w);have HO := h_ (oneX_eq x);generalize nanX x = b at HC HO;go_enter Tryz.func144, Tryz.ntmps144;cases b
 all_goals
  go_wp2_with (refine (HC.out).mono ?_; rintro e w' ⟨rfl, rfl⟩)
  go_ret;refine ⟨?_, rfl⟩;rw [HO.out];rfl
theorem yq7 (x : Nat) (w : World) : Calls Tryz.prog 131 #[.float .f64 x] w fun e w' => e = .returned (.int .u64 (oneX x)) /\ w = w' := by
 have HC := h_ (z29 x w);go_enter Tryz.func131, Tryz.ntmps131;go_wp2_with (refine (HC.out).mono ?_; rintro e w' ⟨rfl, rfl⟩)
 go_ret;exact ⟨rfl, rfl⟩
theorem yKM (x : Nat) (w : World) : Calls Tryz.prog 142 #[.int .u64 x] w fun e w' => e = .returned (.float .f64 x) /\ w = w' := by
 go_enter Tryz.func142, Tryz.ntmps142;go_wp2;go_ret;exact ⟨rfl, rfl⟩
theorem jeO (x y : Nat) (w : World) : Calls Tryz.prog 132 #[.float .f64 x, .float .f64 y] w fun e w' => e = .returned (.bool (decide (oneX x = oneX y))) /\ w = w' := by
 have HC := h_ (z29 x w);have HD := h_ (z29 y w);generalize oneX x = u at HC ⊢;generalize oneX y = v at HD ⊢;go_enter Tryz.func132, Tryz.ntmps132;go_wp2_with (first | (refine (HC.out).mono ?_; clear HC; rintro e w' ⟨rfl, rfl⟩) | (refine (HD.out).mono ?_; rintro e w' ⟨rfl, rfl⟩))
 go_ret;refine ⟨?_, rfl⟩
 show Ending.returned (Value.bool _) = _
 refine congrArg (fun b => Ending.returned (Value.bool b)) ?_;rw [Bool.eq_iff_iff];simp;try omega
theorem bAt_of {s : ByteArray} {i : Nat} (h : i < s.size) : (s[i]'h).toNat = bAt s.data.toList i := by
 obtain ⟨⟨l⟩⟩ := s;exact bAt_eq (L := l) h
theorem size_list (s : ByteArray) : s.size = s.data.toList.length := by
 obtain ⟨⟨l⟩⟩ := s;rfl
theorem z2A (s : ByteArray) (hsz : s.size < 4611686018427387904) (w : World) : Calls Tryz.prog 136 #[s] w fun e w' => e = .returned (.bool (Lib.validD s.data.toList)) /\ w = w' := by
 obtain ⟨L, hL⟩ := e_ s.data.toList;have hS : s.size = L.length := (by rw [size_list, hL]);have hB := h_ (fun (i : Nat) (h : i < s.size) => (bAt_of h).trans (by rw [hL] : bAt s.data.toList i = bAt L i));rw [hL];clear hL;go_enter Tryz.func136, Tryz.ntmps136;go_wp2_with fail
 go_loopw [3, 4, 5, 6, 7] (fun s3 _ _ _ _ wr => ∃ i : Nat, i <= L.length /\ s3 = .int .i64 i /\ wr = w /\ Hid (Lib.validD L = Lib.validD (L.drop i))) (fun s3 _ _ _ _ _ => L.length - (intOf s3).toNat)
 case atStart => exact ⟨0, Nat.zero_le _, rfl, rfl, rfl⟩
 case round =>
  obtain ⟨i, hi, rfl, rfl, HS⟩ := hrel;by_cases hlt : i < L.length
  . have hki : (i : Int) < (L.length : Int) := (by omega);have b0 := hB.out i (by omega);by_cases h1 : bAt L i < 128
    . have HE := h_ (yU0 hlt h1);generalize bAt L i = c at b0 h1;have hc1 : (c : Int) < 128 := (by omega);go_wp2_with fail;refine wp_loop_rounds 1 ?_;rw [rounds_succ];go_wp2_with fail;have g1 : ¬ (c : Int) < 0 := (by omega);have g2 : ¬ (1114111 : Int) < c := (by omega);have g3 : ¬ (55296 : Int) <= c := (by omega);go_wp2_with fail;refine ⟨⟨i + 1, by omega, ?_, trivial, ?_⟩, ?_⟩
      . go_num
      . unfold Hid; rw [HS.out, HE.out]
      . simp only [intOf]; omega
    by_cases h2 : 194 <= bAt L i /\ bAt L i < 224
    . obtain ⟨wq, hwq⟩ : ∃ wq, wq = wr := ⟨_, rfl⟩;subst hwq;have HL := h_ (Lead.mk (by omega) : Lead (bAt L i) 1 128 (bAt L i - 192));obtain ⟨c, hc⟩ := e_ (bAt L i);rw [hc] at b0 h1 h2 HL;have HI := h_ hc;clear hc;have t0 : ¬ (c : Int) < 128 := (by omega);have t1 : (194 : Int) <= c := (by omega);have t2 : (c : Int) < 224 := (by omega);go_wp2_with fail
      go_loopw [4, 7] (fun s4 s7 wi => ∃ k v : Nat, 1 <= k /\ k <= 2 /\ s7 = .int .i64 k /\ s4 = .int .i64 v /\ v < 64 ^ k /\ Hid (v = zun (fun k => bAt L (i + k)) (c - 192) (k - 1)) /\ wi = wq /\ Hid (∀ j, 1 <= j -> j < k -> i + j < L.length /\ 128 <= bAt L (i + j) /\ bAt L (i + j) <= 191)) (fun _ s7 _ => 2 - (intOf s7).toNat)
      case atStart => exact ⟨1, c - 192, Nat.le_refl _, by omega, rfl, by congr 1; omega, by omega, rfl, rfl, fun j q1 q2 => by omega⟩
      case round =>
       obtain ⟨k, v, hk1, hk2, rfl, rfl, hv, HV, rfl, HJ⟩ := hrel;by_cases hkm : k <= 1
       . have hkI : (k : Int) <= 1 := (by omega);by_cases hin : i + k < L.length
         . have hnI : ¬ (L.length : Int) <= (i : Int) + k := (by omega);have bk := hB.out (i + k) (by omega);obtain ⟨b, hb⟩ := e_ (bAt L (i + k));rw [hb] at bk;have HBk := h_ hb;clear hb;have hb2 : b < 256 := (by have := zKp L (i + k); have := HBk.out; omega);have hv2 : v < 16777216 := by
            have : k = 1 \/ k = 2 \/ k = 3 := (by omega);rcases this with rfl | rfl | rfl <;> omega
           by_cases q1 : b < 128
           . have HE := h_ (jBb hlt (HI.out ▸ HL.out) hk1 hkm (by rw [HBk.out]; omega));have q1I : (b : Int) < 128 := (by omega);clear HL;go_wp2_with fail;go_ret;exact ⟨by rw [HS.out, HE.out]; rfl, rfl⟩
           . have q1I : ¬ (b : Int) < 128 := (by omega);by_cases q2 : 191 < b
             . have HE := h_ (jBb hlt (HI.out ▸ HL.out) hk1 hkm (by rw [HBk.out]; omega));have q2I : (191 : Int) < b := (by omega);clear HL;go_wp2_with fail;go_ret;exact ⟨by rw [HS.out, HE.out]; rfl, rfl⟩
             . have q2I : ¬ (191 : Int) < b := (by omega);go_wp2_with fail;refine ⟨⟨k + 1, v * 64 + b - 128, by omega, by omega, by go_num, by congr 1; omega, by rw [Nat.pow_succ]; omega, ?_, trivial, ?_⟩, by simp [intOf]; omega⟩
               . unfold Hid;obtain ⟨k', rfl⟩ : ∃ k', k = k' + 1 := ⟨k - 1, by omega⟩
                 show _ = zun _ _ k' * 64 + bAt L (i + (k' + 1)) - 128
                 rw [HBk.out, HV.out];rfl
               . intro j j1 j2;by_cases hj : j = k
                 . subst hj; rw [HBk.out]; omega
                 . exact HJ.out j j1 (by omega)
         . have hnI : (L.length : Int) <= (i : Int) + k := (by omega);have HE := h_ (jBb hlt (HI.out ▸ HL.out) hk1 hkm (Or.inl (by omega)));clear HL;go_wp2_with fail;go_ret;exact ⟨by rw [HS.out, HE.out]; rfl, rfl⟩
       . have hke : k = 2 := (by omega);subst hke;have HE : Hid (Lib.validD (L.drop i) = if v < 128 \/ 1114111 < v \/ (55296 <= v /\ v < 57344) then false else Lib.validD (L.drop (i + 1 + 1))) := by
          have h := jM1 hlt (HI.out.symm ▸ HL.out) (fun j j1 j2 => HJ.out j j1 (by omega));rw [HI.out] at h;unfold Hid;rw [HV.out];exact h
         have hlen : i + 1 < L.length := (HJ.out 1 (by omega) (by omega)).1;clear HL HV hkm;go_wp2_with fail
         all_goals first
          | (go_ret; exact ⟨by rw [HS.out, HE.out, if_pos (by omega)]; rfl, rfl⟩)
          | (refine ⟨⟨i + 1 + 1, by omega, by go_num, trivial, by unfold Hid; rw [HS.out, HE.out, if_neg (by omega)]⟩, by simp [intOf]; omega⟩)
    by_cases h3 : 224 <= bAt L i /\ bAt L i < 240
    . obtain ⟨wq, hwq⟩ : ∃ wq, wq = wr := ⟨_, rfl⟩;subst hwq;have HL := h_ (Lead.mk (by omega) : Lead (bAt L i) 2 2048 (bAt L i - 224));obtain ⟨c, hc⟩ := e_ (bAt L i);rw [hc] at b0 h1 h3 HL;have HI := h_ hc;clear hc;have t0 : ¬ (c : Int) < 128 := (by omega);have t1 : (194 : Int) <= c := (by omega);have t2 : ¬ (c : Int) < 224 := (by omega);have t3 : (224 : Int) <= c := (by omega);have t4 : (c : Int) < 240 := (by omega);go_wp2_with fail
      go_loopw [4, 7] (fun s4 s7 wi => ∃ k v : Nat, 1 <= k /\ k <= 3 /\ s7 = .int .i64 k /\ s4 = .int .i64 v /\ v < 64 ^ k /\ Hid (v = zun (fun k => bAt L (i + k)) (c - 224) (k - 1)) /\ wi = wq /\ Hid (∀ j, 1 <= j -> j < k -> i + j < L.length /\ 128 <= bAt L (i + j) /\ bAt L (i + j) <= 191)) (fun _ s7 _ => 3 - (intOf s7).toNat)
      case atStart => exact ⟨1, c - 224, Nat.le_refl _, by omega, rfl, by congr 1; omega, by omega, rfl, rfl, fun j q1 q2 => by omega⟩
      case round =>
       obtain ⟨k, v, hk1, hk2, rfl, rfl, hv, HV, rfl, HJ⟩ := hrel;by_cases hkm : k <= 2
       . have hkI : (k : Int) <= 2 := (by omega);by_cases hin : i + k < L.length
         . have hnI : ¬ (L.length : Int) <= (i : Int) + k := (by omega);have bk := hB.out (i + k) (by omega);obtain ⟨b, hb⟩ := e_ (bAt L (i + k));rw [hb] at bk;have HBk := h_ hb;clear hb;have hb2 : b < 256 := (by have := zKp L (i + k); have := HBk.out; omega);have hv2 : v < 16777216 := by
            have : k = 1 \/ k = 2 \/ k = 3 := (by omega);rcases this with rfl | rfl | rfl <;> omega
           by_cases q1 : b < 128
           . have HE := h_ (jBb hlt (HI.out ▸ HL.out) hk1 hkm (by rw [HBk.out]; omega));have q1I : (b : Int) < 128 := (by omega);clear HL;go_wp2_with fail;go_ret;exact ⟨by rw [HS.out, HE.out]; rfl, rfl⟩
           . have q1I : ¬ (b : Int) < 128 := (by omega);by_cases q2 : 191 < b
             . have HE := h_ (jBb hlt (HI.out ▸ HL.out) hk1 hkm (by rw [HBk.out]; omega));have q2I : (191 : Int) < b := (by omega);clear HL;go_wp2_with fail;go_ret;exact ⟨by rw [HS.out, HE.out]; rfl, rfl⟩
             . have q2I : ¬ (191 : Int) < b := (by omega);go_wp2_with fail;refine ⟨⟨k + 1, v * 64 + b - 128, by omega, by omega, by go_num, by congr 1; omega, by rw [Nat.pow_succ]; omega, ?_, trivial, ?_⟩, by simp [intOf]; omega⟩
               . unfold Hid;obtain ⟨k', rfl⟩ : ∃ k', k = k' + 1 := ⟨k - 1, by omega⟩
                 show _ = zun _ _ k' * 64 + bAt L (i + (k' + 1)) - 128
                 rw [HBk.out, HV.out];rfl
               . intro j j1 j2;by_cases hj : j = k
                 . subst hj; rw [HBk.out]; omega
                 . exact HJ.out j j1 (by omega)
         . have hnI : (L.length : Int) <= (i : Int) + k := (by omega);have HE := h_ (jBb hlt (HI.out ▸ HL.out) hk1 hkm (Or.inl (by omega)));clear HL;go_wp2_with fail;go_ret;exact ⟨by rw [HS.out, HE.out]; rfl, rfl⟩
       . have hke : k = 3 := (by omega);subst hke;have HE : Hid (Lib.validD (L.drop i) = if v < 2048 \/ 1114111 < v \/ (55296 <= v /\ v < 57344) then false else Lib.validD (L.drop (i + 1 + 2))) := by
          have h := jM1 hlt (HI.out.symm ▸ HL.out) (fun j j1 j2 => HJ.out j j1 (by omega));rw [HI.out] at h;unfold Hid;rw [HV.out];exact h
         have hlen : i + 2 < L.length := (HJ.out 2 (by omega) (by omega)).1;clear HL HV hkm;go_wp2_with fail
         all_goals first
          | (go_ret; exact ⟨by rw [HS.out, HE.out, if_pos (by omega)]; rfl, rfl⟩)
          | (refine ⟨⟨i + 1 + 2, by omega, by go_num, trivial, by unfold Hid; rw [HS.out, HE.out, if_neg (by omega)]⟩, by simp [intOf]; omega⟩)
    by_cases h4 : 240 <= bAt L i /\ bAt L i < 245
    . obtain ⟨wq, hwq⟩ : ∃ wq, wq = wr := ⟨_, rfl⟩;subst hwq;have HL := h_ (Lead.mk (by omega) : Lead (bAt L i) 3 65536 (bAt L i - 240));obtain ⟨c, hc⟩ := e_ (bAt L i);rw [hc] at b0 h1 h4 HL;have HI := h_ hc;clear hc;have t0 : ¬ (c : Int) < 128 := (by omega);have t1 : (194 : Int) <= c := (by omega);have t2 : ¬ (c : Int) < 224 := (by omega);have t3 : (224 : Int) <= c := (by omega);have t4 : ¬ (c : Int) < 240 := (by omega);have t5 : (240 : Int) <= c := (by omega);have t6 : (c : Int) < 245 := (by omega);go_wp2_with fail
      go_loopw [4, 7] (fun s4 s7 wi => ∃ k v : Nat, 1 <= k /\ k <= 4 /\ s7 = .int .i64 k /\ s4 = .int .i64 v /\ v < 64 ^ k /\ Hid (v = zun (fun k => bAt L (i + k)) (c - 240) (k - 1)) /\ wi = wq /\ Hid (∀ j, 1 <= j -> j < k -> i + j < L.length /\ 128 <= bAt L (i + j) /\ bAt L (i + j) <= 191)) (fun _ s7 _ => 4 - (intOf s7).toNat)
      case atStart => exact ⟨1, c - 240, Nat.le_refl _, by omega, rfl, by congr 1; omega, by omega, rfl, rfl, fun j q1 q2 => by omega⟩
      case round =>
       obtain ⟨k, v, hk1, hk2, rfl, rfl, hv, HV, rfl, HJ⟩ := hrel;by_cases hkm : k <= 3
       . have hkI : (k : Int) <= 3 := (by omega);by_cases hin : i + k < L.length
         . have hnI : ¬ (L.length : Int) <= (i : Int) + k := (by omega);have bk := hB.out (i + k) (by omega);obtain ⟨b, hb⟩ := e_ (bAt L (i + k));rw [hb] at bk;have HBk := h_ hb;clear hb;have hb2 : b < 256 := (by have := zKp L (i + k); have := HBk.out; omega);have hv2 : v < 16777216 := by
            have : k = 1 \/ k = 2 \/ k = 3 := (by omega);rcases this with rfl | rfl | rfl <;> omega
           by_cases q1 : b < 128
           . have HE := h_ (jBb hlt (HI.out ▸ HL.out) hk1 hkm (by rw [HBk.out]; omega));have q1I : (b : Int) < 128 := (by omega);clear HL;go_wp2_with fail;go_ret;exact ⟨by rw [HS.out, HE.out]; rfl, rfl⟩
           . have q1I : ¬ (b : Int) < 128 := (by omega);by_cases q2 : 191 < b
             . have HE := h_ (jBb hlt (HI.out ▸ HL.out) hk1 hkm (by rw [HBk.out]; omega));have q2I : (191 : Int) < b := (by omega);clear HL;go_wp2_with fail;go_ret;exact ⟨by rw [HS.out, HE.out]; rfl, rfl⟩
             . have q2I : ¬ (191 : Int) < b := (by omega);go_wp2_with fail;refine ⟨⟨k + 1, v * 64 + b - 128, by omega, by omega, by go_num, by congr 1; omega, by rw [Nat.pow_succ]; omega, ?_, trivial, ?_⟩, by simp [intOf]; omega⟩
               . unfold Hid;obtain ⟨k', rfl⟩ : ∃ k', k = k' + 1 := ⟨k - 1, by omega⟩
                 show _ = zun _ _ k' * 64 + bAt L (i + (k' + 1)) - 128
                 rw [HBk.out, HV.out];rfl
               . intro j j1 j2;by_cases hj : j = k
                 . subst hj; rw [HBk.out]; omega
                 . exact HJ.out j j1 (by omega)
         . have hnI : (L.length : Int) <= (i : Int) + k := (by omega);have HE := h_ (jBb hlt (HI.out ▸ HL.out) hk1 hkm (Or.inl (by omega)));clear HL;go_wp2_with fail;go_ret;exact ⟨by rw [HS.out, HE.out]; rfl, rfl⟩
       . have hke : k = 4 := (by omega);subst hke;have HE : Hid (Lib.validD (L.drop i) = if v < 65536 \/ 1114111 < v \/ (55296 <= v /\ v < 57344) then false else Lib.validD (L.drop (i + 1 + 3))) := by
          have h := jM1 hlt (HI.out.symm ▸ HL.out) (fun j j1 j2 => HJ.out j j1 (by omega));rw [HI.out] at h;unfold Hid;rw [HV.out];exact h
         have hlen : i + 3 < L.length := (HJ.out 3 (by omega) (by omega)).1;clear HL HV hkm;go_wp2_with fail
         all_goals first
          | (go_ret; exact ⟨by rw [HS.out, HE.out, if_pos (by omega)]; rfl, rfl⟩)
          | (refine ⟨⟨i + 1 + 3, by omega, by go_num, trivial, by unfold Hid; rw [HS.out, HE.out, if_neg (by omega)]⟩, by simp [intOf]; omega⟩)
    have HE := h_ (ytU hlt (by omega) (by omega));have hb256 := zKp L i;generalize bAt L i = c at b0 h1 h2 h3 h4 hb256;have n0 : (c : Int) < 256 := (by omega);have n1 : ¬ (c : Int) < 128 := (by omega);by_cases n2 : (194 : Int) <= c
    . have n3 : ¬ (c : Int) < 224 := (by omega);have n4 : ¬ (c : Int) < 240 := (by omega);have n5 : ¬ (c : Int) < 245 := (by omega);have n6 : (224 : Int) <= c := (by omega);have n7 : (240 : Int) <= c := (by omega);go_wp2_with fail
      all_goals (go_ret; exact ⟨by rw [HS.out, HE.out]; rfl, rfl⟩)
    . have n3 : ¬ (224 : Int) <= c := (by omega);have n4 : ¬ (240 : Int) <= c := (by omega);go_wp2_with fail;go_ret;exact ⟨by rw [HS.out, HE.out]; rfl, rfl⟩
  . have he : i = L.length := (by omega);subst he;go_wp2_with fail;go_ret;exact ⟨by rw [HS.out, List.drop_length]; rfl, rfl⟩
def valR (r : Nat) : Nat := if r < 4503599627370496 then r else (4503599627370496 + r % 4503599627370496) * 2 ^ (r / 4503599627370496 - 1)
theorem yKW (r : Nat) : valR r < valR (r + 1) := by
 unfold valR;by_cases h1 : r + 1 < 4503599627370496
 . rw [if_pos (by omega), if_pos h1]; omega
 . rw [if_neg h1];by_cases h2 : r < 4503599627370496
   . have : r + 1 = 4503599627370496 := (by omega);rw [if_pos h2, this];simp; omega
   . rw [if_neg h2];by_cases h3 : r % 4503599627370496 + 1 < 4503599627370496
     . have e1 : (r + 1) % 4503599627370496 = r % 4503599627370496 + 1 := (by omega);have e2 : (r + 1) / 4503599627370496 = r / 4503599627370496 := (by omega);rw [e1, e2];exact Nat.mul_lt_mul_of_pos_right (by omega) (Nat.two_pow_pos _)
     . have e1 : (r + 1) % 4503599627370496 = 0 := (by omega);have e2 : (r + 1) / 4503599627370496 - 1 = (r / 4503599627370496 - 1) + 1 := (by omega);rw [e1, e2, Nat.pow_succ];have hp := Nat.two_pow_pos (r / 4503599627370496 - 1);generalize 2 ^ (r / 4503599627370496 - 1) = p at hp;have : r % 4503599627370496 <= 4503599627370495 := by omega
       calc (4503599627370496 + r % 4503599627370496) * p <= 9007199254740991 * p := Nat.mul_le_mul_right _ (by omega)
        _ < (4503599627370496 + 0) * (p * 2) := by omega
theorem jOl {r q : Nat} (h : r < q) : valR r < valR q := by
 induction q with
 | zero => omega
 | succ q ih =>
  rcases Nat.lt_or_ge r q with h1 | h1
  . exact Nat.lt_trans (ih h1) (yKW q)
  . obtain rfl : r = q := by omega
    exact yKW r
theorem znh (r q : Nat) : compare ((valR r : Nat) : Int) ((valR q : Nat) : Int) = compare r q := by
 rcases Nat.lt_trichotomy r q with h | h | h
 . rw [Nat.compare_eq_lt.2 h, Int.compare_eq_lt]; exact_mod_cast jOl h
 . subst h; rw [Nat.compare_eq_eq.2 rfl, Int.compare_eq_eq.2 rfl]
 . rw [Nat.compare_eq_gt.2 h, Int.compare_eq_gt]; exact_mod_cast jOl h
theorem jsW {x : Nat} (h : x < 9218868437227405312) : ∃ m e : Nat, (FloatKind.format .f64).read x = .number false m (-1074 + e) /\ m * 2 ^ e = valR x := by
 have e0 : (FloatKind.format .f64).signWeight = 9223372036854775808 := (by decide);have e2 : (FloatKind.format .f64).infRung = 9218868437227405312 := (by decide);have e3 : (FloatKind.format .f64).binade = 4503599627370496 := (by decide);have e4 : (FloatKind.format .f64).leastPlace = -1074 := (by decide);unfold Ieee.Format.read valR;simp only [e0, e2, e3, e4];have e5 : x % 9223372036854775808 = x := Nat.mod_eq_of_lt (by omega);have e6 : (x / 9223372036854775808 % 2 == 1) = false := (by rw [Nat.div_eq_of_lt (by omega)]; rfl);rw [e5, e6];by_cases h1 : x < 4503599627370496
 . rw [if_pos h1, if_pos h1];exact ⟨x, 0, rfl, by simp⟩
 . rw [if_neg h1, if_neg h1, if_pos h];exact ⟨_, _, rfl, rfl⟩
theorem y9t (a b p : Nat) (hp : 0 < p) : compare ((a * p : Nat) : Int) ((b * p : Nat) : Int) = compare (a : Int) (b : Int) := by
 rcases Nat.lt_trichotomy a b with h | h | h
 . have h2 : a * p < b * p := Nat.mul_lt_mul_of_pos_right h hp;have e1 : compare (a : Int) (b : Int) = .lt := Int.compare_eq_lt.2 (by omega);rw [e1]; exact Int.compare_eq_lt.2 (by omega)
 . subst h; rw [Int.compare_eq_eq.2 rfl, Int.compare_eq_eq.2 rfl]
 . have h2 : b * p < a * p := Nat.mul_lt_mul_of_pos_right h hp;have e1 : compare (a : Int) (b : Int) = .gt := Int.compare_eq_gt.2 (by omega);rw [e1]; exact Int.compare_eq_gt.2 (by omega)
theorem yeg {x y : Nat} (hx : x < 9218868437227405312) (hy : y < 9218868437227405312) : (FloatKind.format .f64).order x y = some (compare x y) := by
 obtain ⟨m, e, h1, h2⟩ := jsW hx;obtain ⟨n, f, h3, h4⟩ := jsW hy;unfold Ieee.Format.order;rw [h1, h3];simp only [Ieee.Datum.order];congr 1;rcases Nat.le_total e f with h | h
 . obtain ⟨d, rfl⟩ := Nat.exists_eq_add_of_le h;have e1 : ((-1074 + (e : Int)) - min (-1074 + (e : Int)) (-1074 + ((e + d : Nat) : Int))).toNat = 0 := (by omega);have e2 : ((-1074 + ((e + d : Nat) : Int)) - min (-1074 + (e : Int)) (-1074 + ((e + d : Nat) : Int))).toNat = d := (by omega);rw [e1, e2, <- znh, <- h2, <- h4, Nat.pow_add, <- Nat.mul_assoc];have a1 : Ieee.signed false m 0 = ((m : Nat) : Int) := (by simp [Ieee.signed]);have a2 : Ieee.signed false n d = ((n * 2 ^ d : Nat) : Int) := (by simp [Ieee.signed, Nat.shiftLeft_eq]);rw [a1, a2, Nat.mul_right_comm, y9t _ _ _ (Nat.two_pow_pos e)]
 . obtain ⟨d, rfl⟩ := Nat.exists_eq_add_of_le h;have e1 : ((-1074 + ((f + d : Nat) : Int)) - min (-1074 + ((f + d : Nat) : Int)) (-1074 + (f : Int))).toNat = d := (by omega);have e2 : ((-1074 + (f : Int)) - min (-1074 + ((f + d : Nat) : Int)) (-1074 + (f : Int))).toNat = 0 := (by omega);rw [e1, e2, <- znh, <- h2, <- h4, Nat.pow_add, <- Nat.mul_assoc];have a1 : Ieee.signed false n 0 = ((n : Nat) : Int) := (by simp [Ieee.signed]);have a2 : Ieee.signed false m d = ((m * 2 ^ d : Nat) : Int) := (by simp [Ieee.signed, Nat.shiftLeft_eq]);rw [a1, a2, Nat.mul_right_comm, y9t _ _ _ (Nat.two_pow_pos f)]
theorem yQz (x : Nat) : absX x = x % 9223372036854775808 := by unfold absX; rw [ypW]; rfl
theorem jRi (x : Nat) : (ordX x x != some .eq) = nanX x := y8f x
theorem ord_inf : ordX 9218868437227405312 9218868437227405311 = some .gt := by decide
theorem jXb {x : Nat} : decide (2 < j2G x) = decide (x % 9223372036854775808 < 9218868437227405312) := by
 unfold j2G;rw [jRi, yQz];by_cases h : 9218868437227405312 < x % 9223372036854775808
 . have hn : nanX x = true := (by unfold nanX; simpa using h);rw [hn, if_pos rfl];rw [decide_eq_decide]; omega
 . have hn : nanX x = false := (by unfold nanX; simpa using h);rw [hn];by_cases h2 : x % 9223372036854775808 = 9218868437227405312
   . rw [h2, ord_inf]; simp
   . have hlt : x % 9223372036854775808 < 9218868437227405312 := (by omega);have e1 : ordX (x % 9223372036854775808) 9218868437227405311 = some (compare (x % 9223372036854775808) 9218868437227405311) := yeg hlt (by decide);rw [e1];have e2 : (some (compare (x % 9223372036854775808) 9218868437227405311) == some Ordering.gt) = false := by
      rw [beq_eq_false_iff_ne];intro e;have := Nat.compare_eq_gt.1 (i_ e);omega
     rw [e2];have e3 : decide (x % 9223372036854775808 < 9218868437227405312) = true := (by simpa using hlt);rw [e3];simp only [Bool.false_eq_true, if_false];split
     . rfl
     . split <;> rfl
theorem zQr {x : Nat} (h : x < 18446744073709551616) : jRl x = !((x : Int) / 9223372036854775808 == 0) := by
 unfold jRl wrap64;rw [Bool.eq_iff_iff];simp only [decide_eq_true_eq, Bool.not_eq_true', beq_eq_false_iff_ne, ne_eq];omega
theorem num_eq {x : Nat} (h : x < 18446744073709551616) : (decide (2 < j2G x) && !negX x) = (decide (x % 9223372036854775808 < 9218868437227405312) && ((x : Int) / 9223372036854775808 == 0)) := by
 rw [jXb];by_cases h1 : x % 9223372036854775808 < 9218868437227405312
 . have hn : nanX x = false := (by unfold nanX; rw [decide_eq_false_iff_not]; omega);have h2 : ((FloatKind.format .f64).order x x == some .eq) = true := by
    have := y8f x;rw [hn] at this;simpa [bne] using this
   unfold negX;rw [h2, zQr h]; simp
 . simp [h1]
theorem z9U {x y : Nat} (hx : x < 18446744073709551616) (hy : y < 18446744073709551616) : (zPp x = zPp y) ↔ (oneX x = oneX y) := by
 have hp : ∀ {x : Nat}, x < 18446744073709551616 -> zPp x = if nanX x = true then 9223372036854775807 else if 9223372036854775808 <= x then -((x % 9223372036854775808 : Nat) : Int) - 1 else ((x % 9223372036854775808 : Nat) : Int) := by
  intro x hx;unfold zPp;rw [jRi, yQz, zQr hx];by_cases hn : nanX x = true
  . rw [if_pos hn, if_pos hn]
  . rw [if_neg hn, if_neg hn];by_cases h1 : 9223372036854775808 <= x
    . rw [if_pos h1, if_pos (by simp; omega)];unfold wrap64; omega
    . rw [if_neg h1, if_neg (by simp; omega)];unfold wrap64; omega
 have ho : ∀ {x : Nat}, nanX x = false -> x % 9223372036854775808 <= 9218868437227405312 := fun {x} h => by unfold nanX at h; rw [decide_eq_false_iff_not] at h; omega
 rw [hp hx, hp hy, oneX_eq, oneX_eq];cases hnx : nanX x <;> cases hny : nanX y
 . have h1 := ho hnx;have h2 := ho hny;simp only [Bool.false_eq_true, if_false];split <;> split <;> omega
 . have h1 := ho hnx;simp only [Bool.false_eq_true, if_false, if_true];constructor
   . intro h; split at h <;> omega
   . intro h;exfalso;rw [h] at hnx;exact absurd hnx (by decide)
 . have h1 := ho hny;simp only [Bool.false_eq_true, if_false, if_true];constructor
   . intro h; split at h <;> omega
   . intro h;exfalso;rw [<- h] at hny;exact absurd hny (by decide)
 . simp
def zvH (cur : List UInt8) : List UInt8 -> List (List UInt8)
 | [] => [cur]
 | c :: r => if c = 32 then cur :: zvH [] r else zvH (cur ++ [c]) r
theorem yug (n : List UInt8) : ∀ (L cur : List UInt8), oneR n cur L = ((zvH cur L).any (fun x => x == n) && !(n == []))
 | [], cur => by simp [oneR, zvH]
 | c :: r, cur => by
  unfold oneR zvH;by_cases h : c = 32
  . rw [if_pos h, if_pos h, yug n r, List.any_cons, Bool.and_or_distrib_right]
  . rw [if_neg h, if_neg h, yug n r]
def jrr : List UInt8 := [65, 66, 83, 32, 73, 78, 84, 32, 73, 83, 66, 76, 65, 78, 75, 32, 73, 83, 69, 82, 82, 79, 82, 32, 73, 83, 78, 85, 77, 66, 69, 82, 32, 73, 83, 84, 69, 88, 84, 32, 76, 69, 78, 32, 78, 79, 84, 32, 83, 73, 71, 78, 32, 83, 73, 78, 71, 76, 69, 32, 83, 81, 82, 84, 32, 84, 82, 85, 78, 67, 32, 86, 65, 76, 85, 69]
theorem words0 : zvH [] jrr = [[65, 66, 83], [73, 78, 84], [73, 83, 66, 76, 65, 78, 75], [73, 83, 69, 82, 82, 79, 82], [73, 83, 78, 85, 77, 66, 69, 82], [73, 83, 84, 69, 88, 84], [76, 69, 78], [78, 79, 84], [83, 73, 71, 78], [83, 73, 78, 71, 76, 69], [83, 81, 82, 84], [84, 82, 85, 78, 67], [86, 65, 76, 85, 69]] := by kernel_rfl
def zVB : List UInt8 := [69, 88, 65, 67, 84, 32, 73, 70, 69, 82, 82, 79, 82, 32, 76, 65, 82, 71, 69, 32, 76, 69, 70, 84, 32, 77, 79, 68, 32, 80, 69, 82, 67, 69, 78, 84, 73, 76, 69, 32, 80, 79, 87, 69, 82, 32, 82, 69, 80, 84, 32, 82, 73, 71, 72, 84, 32, 82, 79, 85, 78, 68, 32, 82, 79, 85, 78, 68, 68, 79, 87, 78, 32, 82, 79, 85, 78, 68, 69, 86, 69, 78, 32, 82, 79, 85, 78, 68, 85, 80, 32, 83, 77, 65, 76, 76, 32, 83, 85, 77, 80, 82, 79, 68, 85, 67, 84, 32, 84, 69, 88, 84]
theorem words1 : zvH [] zVB = [[69, 88, 65, 67, 84], [73, 70, 69, 82, 82, 79, 82], [76, 65, 82, 71, 69], [76, 69, 70, 84], [77, 79, 68], [80, 69, 82, 67, 69, 78, 84, 73, 76, 69], [80, 79, 87, 69, 82], [82, 69, 80, 84], [82, 73, 71, 72, 84], [82, 79, 85, 78, 68], [82, 79, 85, 78, 68, 68, 79, 87, 78], [82, 79, 85, 78, 68, 69, 86, 69, 78], [82, 79, 85, 78, 68, 85, 80], [83, 77, 65, 76, 76], [83, 85, 77, 80, 82, 79, 68, 85, 67, 84], [84, 69, 88, 84]] := by kernel_rfl
def zPa : List UInt8 := [73, 70, 32, 82, 65, 78, 75]
theorem words2 : zvH [] zPa = [[73, 70], [82, 65, 78, 75]] := by kernel_rfl
def y4V : List UInt8 := [67, 79, 85, 78, 84, 73, 70, 32, 70, 85, 83, 69, 68, 32, 77, 73, 68]
theorem words3 : zvH [] y4V = [[67, 79, 85, 78, 84, 73, 70], [70, 85, 83, 69, 68], [77, 73, 68]] := by kernel_rfl
def zhR : List UInt8 := [65, 78, 68, 32, 65, 86, 69, 82, 65, 71, 69, 32, 67, 79, 85, 78, 84, 32, 67, 79, 85, 78, 84, 65, 32, 74, 79, 73, 78, 32, 77, 65, 88, 32, 77, 69, 68, 73, 65, 78, 32, 77, 73, 78, 32, 77, 79, 68, 69, 32, 79, 82, 32, 83, 84, 68, 69, 86, 32, 83, 84, 68, 69, 86, 80, 32, 83, 85, 77, 32, 83, 85, 77, 83, 81, 32, 86, 65, 82, 32, 86, 65, 82, 80]
theorem words4 : zvH [] zhR = [[65, 78, 68], [65, 86, 69, 82, 65, 71, 69], [67, 79, 85, 78, 84], [67, 79, 85, 78, 84, 65], [74, 79, 73, 78], [77, 65, 88], [77, 69, 68, 73, 65, 78], [77, 73, 78], [77, 79, 68, 69], [79, 82], [83, 84, 68, 69, 86], [83, 84, 68, 69, 86, 80], [83, 85, 77], [83, 85, 77, 83, 81], [86, 65, 82], [86, 65, 82, 80]] := by kernel_rfl
def docF (n : List UInt8) : Int × Int × Bool :=
 if (n == [78, 65]) = true then (0, 0, true) else
 if oneR n [] jrr = true then (1, 1, true) else
 if oneR n [] zVB = true then (2, 2, true) else
 if oneR n [] zPa = true then (2, 3, true) else
 if oneR n [] y4V = true then (3, 3, true) else
 if oneR n [] zhR = true then (1, 256, true) else
 if (n == [67, 72, 79, 79, 83, 69]) = true then (2, 256, true) else (0, 0, false)
theorem docF_eq (n : List UInt8) : docF n = jrj n := by
 by_cases h0 : n = [78, 65]
 . rw [h0]; kernel_rfl
 by_cases h1 : n = [65, 66, 83]
 . rw [h1]; kernel_rfl
 by_cases h2 : n = [73, 78, 84]
 . rw [h2]; kernel_rfl
 by_cases h3 : n = [73, 83, 66, 76, 65, 78, 75]
 . rw [h3]; kernel_rfl
 by_cases h4 : n = [73, 83, 69, 82, 82, 79, 82]
 . rw [h4]; kernel_rfl
 by_cases h5 : n = [73, 83, 78, 85, 77, 66, 69, 82]
 . rw [h5]; kernel_rfl
 by_cases h6 : n = [73, 83, 84, 69, 88, 84]
 . rw [h6]; kernel_rfl
 by_cases h7 : n = [76, 69, 78]
 . rw [h7]; kernel_rfl
 by_cases h8 : n = [78, 79, 84]
 . rw [h8]; kernel_rfl
 by_cases h9 : n = [83, 73, 71, 78]
 . rw [h9]; kernel_rfl
 by_cases h10 : n = [83, 73, 78, 71, 76, 69]
 . rw [h10]; kernel_rfl
 by_cases h11 : n = [83, 81, 82, 84]
 . rw [h11]; kernel_rfl
 by_cases h12 : n = [84, 82, 85, 78, 67]
 . rw [h12]; kernel_rfl
 by_cases h13 : n = [86, 65, 76, 85, 69]
 . rw [h13]; kernel_rfl
 by_cases h14 : n = [69, 88, 65, 67, 84]
 . rw [h14]; kernel_rfl
 by_cases h15 : n = [73, 70, 69, 82, 82, 79, 82]
 . rw [h15]; kernel_rfl
 by_cases h16 : n = [76, 65, 82, 71, 69]
 . rw [h16]; kernel_rfl
 by_cases h17 : n = [76, 69, 70, 84]
 . rw [h17]; kernel_rfl
 by_cases h18 : n = [77, 79, 68]
 . rw [h18]; kernel_rfl
 by_cases h19 : n = [80, 69, 82, 67, 69, 78, 84, 73, 76, 69]
 . rw [h19]; kernel_rfl
 by_cases h20 : n = [80, 79, 87, 69, 82]
 . rw [h20]; kernel_rfl
 by_cases h21 : n = [82, 69, 80, 84]
 . rw [h21]; kernel_rfl
 by_cases h22 : n = [82, 73, 71, 72, 84]
 . rw [h22]; kernel_rfl
 by_cases h23 : n = [82, 79, 85, 78, 68]
 . rw [h23]; kernel_rfl
 by_cases h24 : n = [82, 79, 85, 78, 68, 68, 79, 87, 78]
 . rw [h24]; kernel_rfl
 by_cases h25 : n = [82, 79, 85, 78, 68, 69, 86, 69, 78]
 . rw [h25]; kernel_rfl
 by_cases h26 : n = [82, 79, 85, 78, 68, 85, 80]
 . rw [h26]; kernel_rfl
 by_cases h27 : n = [83, 77, 65, 76, 76]
 . rw [h27]; kernel_rfl
 by_cases h28 : n = [83, 85, 77, 80, 82, 79, 68, 85, 67, 84]
 . rw [h28]; kernel_rfl
 by_cases h29 : n = [84, 69, 88, 84]
 . rw [h29]; kernel_rfl
 by_cases h30 : n = [73, 70]
 . rw [h30]; kernel_rfl
 by_cases h31 : n = [82, 65, 78, 75]
 . rw [h31]; kernel_rfl
 by_cases h32 : n = [67, 79, 85, 78, 84, 73, 70]
 . rw [h32]; kernel_rfl
 by_cases h33 : n = [70, 85, 83, 69, 68]
 . rw [h33]; kernel_rfl
 by_cases h34 : n = [77, 73, 68]
 . rw [h34]; kernel_rfl
 by_cases h35 : n = [65, 78, 68]
 . rw [h35]; kernel_rfl
 by_cases h36 : n = [65, 86, 69, 82, 65, 71, 69]
 . rw [h36]; kernel_rfl
 by_cases h37 : n = [67, 79, 85, 78, 84]
 . rw [h37]; kernel_rfl
 by_cases h38 : n = [67, 79, 85, 78, 84, 65]
 . rw [h38]; kernel_rfl
 by_cases h39 : n = [74, 79, 73, 78]
 . rw [h39]; kernel_rfl
 by_cases h40 : n = [77, 65, 88]
 . rw [h40]; kernel_rfl
 by_cases h41 : n = [77, 69, 68, 73, 65, 78]
 . rw [h41]; kernel_rfl
 by_cases h42 : n = [77, 73, 78]
 . rw [h42]; kernel_rfl
 by_cases h43 : n = [77, 79, 68, 69]
 . rw [h43]; kernel_rfl
 by_cases h44 : n = [79, 82]
 . rw [h44]; kernel_rfl
 by_cases h45 : n = [83, 84, 68, 69, 86]
 . rw [h45]; kernel_rfl
 by_cases h46 : n = [83, 84, 68, 69, 86, 80]
 . rw [h46]; kernel_rfl
 by_cases h47 : n = [83, 85, 77]
 . rw [h47]; kernel_rfl
 by_cases h48 : n = [83, 85, 77, 83, 81]
 . rw [h48]; kernel_rfl
 by_cases h49 : n = [86, 65, 82]
 . rw [h49]; kernel_rfl
 by_cases h50 : n = [86, 65, 82, 80]
 . rw [h50]; kernel_rfl
 by_cases h51 : n = [67, 72, 79, 79, 83, 69]
 . rw [h51]; kernel_rfl
 have hk : z9N n = (-1, -1) := by
  unfold z9N;simp only [h0, h1, h2, h3, h4, h5, h6, h7, h8, h9, h10, h11, h12, h13, h14, h15, h16, h17, h18, h19, h20, h21, h22, h23, h24, h25, h26, h27, h28, h29, h30, h31, h32, h33, h34, h35, h36, h37, h38, h39, h40, h41, h42, h43, h44, h45, h46, h47, h48, h49, h50, h51, if_false]
 have hf : jrj n = (0, 0, false) := (by unfold jrj; rw [hk]; rfl);rw [hf];have o0 : oneR n [] jrr = false := by
  rw [yug, words0];simp only [List.any_cons, List.any_nil, q_ (Ne.symm h1), q_ (Ne.symm h2), q_ (Ne.symm h3), q_ (Ne.symm h4), q_ (Ne.symm h5), q_ (Ne.symm h6), q_ (Ne.symm h7), q_ (Ne.symm h8), q_ (Ne.symm h9), q_ (Ne.symm h10), q_ (Ne.symm h11), q_ (Ne.symm h12), q_ (Ne.symm h13), Bool.or_false, Bool.false_and]
 have o1 : oneR n [] zVB = false := by
  rw [yug, words1];simp only [List.any_cons, List.any_nil, q_ (Ne.symm h14), q_ (Ne.symm h15), q_ (Ne.symm h16), q_ (Ne.symm h17), q_ (Ne.symm h18), q_ (Ne.symm h19), q_ (Ne.symm h20), q_ (Ne.symm h21), q_ (Ne.symm h22), q_ (Ne.symm h23), q_ (Ne.symm h24), q_ (Ne.symm h25), q_ (Ne.symm h26), q_ (Ne.symm h27), q_ (Ne.symm h28), q_ (Ne.symm h29), Bool.or_false, Bool.false_and]
 have o2 : oneR n [] zPa = false := by
  rw [yug, words2];simp only [List.any_cons, List.any_nil, q_ (Ne.symm h30), q_ (Ne.symm h31), Bool.or_false, Bool.false_and]
 have o3 : oneR n [] y4V = false := by
  rw [yug, words3];simp only [List.any_cons, List.any_nil, q_ (Ne.symm h32), q_ (Ne.symm h33), q_ (Ne.symm h34), Bool.or_false, Bool.false_and]
 have o4 : oneR n [] zhR = false := by
  rw [yug, words4];simp only [List.any_cons, List.any_nil, q_ (Ne.symm h35), q_ (Ne.symm h36), q_ (Ne.symm h37), q_ (Ne.symm h38), q_ (Ne.symm h39), q_ (Ne.symm h40), q_ (Ne.symm h41), q_ (Ne.symm h42), q_ (Ne.symm h43), q_ (Ne.symm h44), q_ (Ne.symm h45), q_ (Ne.symm h46), q_ (Ne.symm h47), q_ (Ne.symm h48), q_ (Ne.symm h49), q_ (Ne.symm h50), Bool.or_false, Bool.false_and]
 unfold docF;rw [o0, o1, o2, o3, o4, q_ h0, q_ h51];rfl
theorem zCR (s : ByteArray) (w : World) :
    Calls Tryz.prog 177 #[s] w fun e w' => e = .returned (.tuple #[(jrj s.toList).1, .int .i64 (jrj s.toList).2.1, .bool (jrj s.toList).2.2]) /\ w = w' := by
 rw [<- docF_eq];have H1 := h_ (fun W => jKm s jrr (by decide) W);have H2 := h_ (fun W => jKm s zVB (by decide) W);have H3 := h_ (fun W => jKm s zPa (by decide) W);have H4 := h_ (fun W => jKm s y4V (by decide) W);have H5 := h_ (fun W => jKm s zhR (by decide) W);unfold docF;generalize oneR s.toList [] jrr = b1 at H1 ⊢;generalize oneR s.toList [] zVB = b2 at H2 ⊢;generalize oneR s.toList [] zPa = b3 at H3 ⊢;generalize oneR s.toList [] y4V = b4 at H4 ⊢;generalize oneR s.toList [] zhR = b5 at H5 ⊢;obtain ⟨b0, hb0⟩ := e_ (s.toList == [78, 65])
 obtain ⟨b6, hb6⟩ := e_ (s.toList == [67, 72, 79, 79, 83, 69]);rw [hb0, hb6];cases b0 with
 | true =>
  go_enter Tryz.func177, Tryz.ntmps177;go_wp2_with (first | (refine (H1.out _).mono ?_; clear H1; rintro e w' ⟨rfl, rfl⟩) | (refine (H2.out _).mono ?_; clear H2; rintro e w' ⟨rfl, rfl⟩) | (refine (H3.out _).mono ?_; clear H3; rintro e w' ⟨rfl, rfl⟩) | (refine (H4.out _).mono ?_; clear H4; rintro e w' ⟨rfl, rfl⟩) | (refine (H5.out _).mono ?_; clear H5; rintro e w' ⟨rfl, rfl⟩))
  go_ret3
  exact ⟨rfl, rfl⟩
 | false =>
  cases b1 with
  | true =>
   go_enter Tryz.func177, Tryz.ntmps177;go_wp2_with (first | (refine (H1.out _).mono ?_; clear H1; rintro e w' ⟨rfl, rfl⟩) | (refine (H2.out _).mono ?_; clear H2; rintro e w' ⟨rfl, rfl⟩) | (refine (H3.out _).mono ?_; clear H3; rintro e w' ⟨rfl, rfl⟩) | (refine (H4.out _).mono ?_; clear H4; rintro e w' ⟨rfl, rfl⟩) | (refine (H5.out _).mono ?_; clear H5; rintro e w' ⟨rfl, rfl⟩))
   go_ret3
   exact ⟨rfl, rfl⟩
  | false =>
   cases b2 with
   | true =>
    go_enter Tryz.func177, Tryz.ntmps177;go_wp2_with (first | (refine (H1.out _).mono ?_; clear H1; rintro e w' ⟨rfl, rfl⟩) | (refine (H2.out _).mono ?_; clear H2; rintro e w' ⟨rfl, rfl⟩) | (refine (H3.out _).mono ?_; clear H3; rintro e w' ⟨rfl, rfl⟩) | (refine (H4.out _).mono ?_; clear H4; rintro e w' ⟨rfl, rfl⟩) | (refine (H5.out _).mono ?_; clear H5; rintro e w' ⟨rfl, rfl⟩))
    go_ret3
    exact ⟨rfl, rfl⟩
   | false =>
    cases b3 with
    | true =>
     go_enter Tryz.func177, Tryz.ntmps177;go_wp2_with (first | (refine (H1.out _).mono ?_; clear H1; rintro e w' ⟨rfl, rfl⟩) | (refine (H2.out _).mono ?_; clear H2; rintro e w' ⟨rfl, rfl⟩) | (refine (H3.out _).mono ?_; clear H3; rintro e w' ⟨rfl, rfl⟩) | (refine (H4.out _).mono ?_; clear H4; rintro e w' ⟨rfl, rfl⟩) | (refine (H5.out _).mono ?_; clear H5; rintro e w' ⟨rfl, rfl⟩))
     go_ret3
     exact ⟨rfl, rfl⟩
    | false =>
     cases b4 with
     | true =>
      go_enter Tryz.func177, Tryz.ntmps177;go_wp2_with (first | (refine (H1.out _).mono ?_; clear H1; rintro e w' ⟨rfl, rfl⟩) | (refine (H2.out _).mono ?_; clear H2; rintro e w' ⟨rfl, rfl⟩) | (refine (H3.out _).mono ?_; clear H3; rintro e w' ⟨rfl, rfl⟩) | (refine (H4.out _).mono ?_; clear H4; rintro e w' ⟨rfl, rfl⟩) | (refine (H5.out _).mono ?_; clear H5; rintro e w' ⟨rfl, rfl⟩))
      go_ret3
      exact ⟨rfl, rfl⟩
     | false =>
      cases b5 with
      | true =>
       go_enter Tryz.func177, Tryz.ntmps177;go_wp2_with (first | (refine (H1.out _).mono ?_; clear H1; rintro e w' ⟨rfl, rfl⟩) | (refine (H2.out _).mono ?_; clear H2; rintro e w' ⟨rfl, rfl⟩) | (refine (H3.out _).mono ?_; clear H3; rintro e w' ⟨rfl, rfl⟩) | (refine (H4.out _).mono ?_; clear H4; rintro e w' ⟨rfl, rfl⟩) | (refine (H5.out _).mono ?_; clear H5; rintro e w' ⟨rfl, rfl⟩))
       go_ret3
       exact ⟨rfl, rfl⟩
      | false =>
       cases b6 with
       | true =>
        go_enter Tryz.func177, Tryz.ntmps177;go_wp2_with (first | (refine (H1.out _).mono ?_; clear H1; rintro e w' ⟨rfl, rfl⟩) | (refine (H2.out _).mono ?_; clear H2; rintro e w' ⟨rfl, rfl⟩) | (refine (H3.out _).mono ?_; clear H3; rintro e w' ⟨rfl, rfl⟩) | (refine (H4.out _).mono ?_; clear H4; rintro e w' ⟨rfl, rfl⟩) | (refine (H5.out _).mono ?_; clear H5; rintro e w' ⟨rfl, rfl⟩))
        go_ret3
        exact ⟨rfl, rfl⟩
       | false =>
        go_enter Tryz.func177, Tryz.ntmps177;go_wp2_with (first | (refine (H1.out _).mono ?_; clear H1; rintro e w' ⟨rfl, rfl⟩) | (refine (H2.out _).mono ?_; clear H2; rintro e w' ⟨rfl, rfl⟩) | (refine (H3.out _).mono ?_; clear H3; rintro e w' ⟨rfl, rfl⟩) | (refine (H4.out _).mono ?_; clear H4; rintro e w' ⟨rfl, rfl⟩) | (refine (H5.out _).mono ?_; clear H5; rintro e w' ⟨rfl, rfl⟩))
        go_ret3
        exact ⟨rfl, rfl⟩
abbrev intC (x : Int) : List Value := [.int .i64 x]
theorem yYp (x : Int) : (intC x).length = 1 := rfl
def yMh (m a n k : Int) : Int := if k < 1 then 0 else if k < a then k else if 0 <= n then (if k + n <= m then k + n else 0) else (if k < a - n then 0 else k + n)
def yYZ (a n k : Int) : Int := if k <= a then k else if 0 <= n then k + n else if k <= a - n then a else k + n
def yGD (m : Nat) (a n : Int) (k : Nat) : List Int := (List.range (m + 1)).map fun (j : Nat) => if j < k then yMh m a n j else 0
def jpe (m : Nat) (a n : Int) : List Int := yGD m a n (m + 1)
theorem yAW (m : Nat) (a n : Int) (k : Nat) : (yGD m a n k).length = m + 1 := by simp [yGD]
theorem yzM (m : Nat) (a n : Int) : yGD m a n 1 = List.replicate (m + 1) 0 := by
 refine List.ext_getElem (by simp [yGD]) fun i h1 h2 => ?_;simp only [yGD, List.getElem_map, List.getElem_range, List.getElem_replicate];split
 . have : i = 0 := (by omega);subst this; simp [yMh]
 . rfl
theorem zIn {m : Nat} {a n : Int} {k : Nat} {v : Int} (_hk : k <= m) (hv : v = yMh m a n k) : (yGD m a n k).set k v = yGD m a n (k + 1) := by
 subst hv;refine List.ext_getElem (by simp [yGD]) fun i h1 h2 => ?_;simp only [yGD, List.getElem_set, List.getElem_map, List.getElem_range];by_cases e : k = i
 . subst e; simp
 . rw [if_neg e];by_cases h : i < k
   . rw [if_pos h, if_pos (by omega)]
   . rw [if_neg h, if_neg (by omega)]
theorem jQr {m : Nat} {a n : Int} {k : Nat} (hv : yMh m a n k = 0) : yGD m a n k = yGD m a n (k + 1) := by
 unfold yGD;refine List.map_congr_left fun j _ => ?_;by_cases h : j < k
 . rw [if_pos h, if_pos (by omega)]
 . rw [if_neg h];by_cases e : j = k
   . subst e; rw [if_pos (by omega), hv]
   . rw [if_neg (by omega)]
theorem jkY {m : Nat} {a n : Int} {k : Nat} (hk : k <= m) : (jpe m a n)[k]? = some (yMh m a n k) := by
 unfold jpe yGD;rw [List.getElem?_map, List.getElem?_range (by omega)];simp; omega
theorem ybs {w : World} {g : Nat} {T : TypeId} {cap : Nat} {d : List Int} (h : RowL w g T cap 1 intC d) {j : Nat} (hj : j < d.length) (y : Int) : RowL (w.setCell ⟨g, j, none⟩ (.int .i64 y)) g T cap 1 intC (d.set j y) := by
 have := h.set yYp hj y;simpa [World.setCells] using this
theorem infoInt : (Tryz.prog.info? 3).map (fun i => (i.zero, i.size, i.bytes)) = some (some (.int .i64 0), 1, 8) := by kernel_rfl
theorem zf6 (m : Nat) (hm : m <= 4096) (w : World) : ∃ w', (Instr.makeSlice 133 (.int .i64 ((m : Int) + 1)) (.int .i64 ((m : Int) + 1))).run Tryz.prog w = .ok (.slice (some ⟨w.heap.size, 0, none⟩) (m + 1) (m + 1)) w' /\ RowL w' w.heap.size 3 (m + 1) 1 intC (List.replicate (m + 1) 0) /\ Xt w w' := by
 obtain ⟨i0, hi, hz0, hz1, hz2⟩ := info_parts infoInt;have h := run_makeSlice (P := Tryz.prog) w 133 3 i0 (.int .i64 0) Tryz.underlying133 hi hz0 .i64 .i64 ((m : Int) + 1) ((m : Int) + 1) (by omega) (Int.le_refl _) (by rw [hz1]; omega) (by rw [hz2]; omega) (by omega);have e : ((m : Int) + 1).toNat = m + 1 := (by omega);rw [e, hz1] at h;refine ⟨_, h, ⟨_, (a_ w _).1, by simp [size_madeCells], by simp, fun j x hx i u hu => ?_⟩, (Xt.refl w).alloc _⟩;obtain ⟨hj, rfl⟩ := List.getElem?_eq_some_iff.1 hx;simp only [List.length_replicate] at hj;cases i with
 | zero =>
  simp only [intC, List.getElem?_cons_zero, List.getElem_replicate, Option.some.injEq] at hu;subst hu;simp only [madeCells, Value.cells, Nat.mul_one, Nat.add_zero];rw [Array.getElem?_map, Array.getElem?_range];simp [hj, Nat.mod_one]
 | succ i => simp [intC] at hu
def PlacesR (m : Nat) (a n : Int) (w : World) (e : Ending) (w' : World) : Prop := ∃ g, e = .returned (.slice (some ⟨g, 0, none⟩) (m + 1) (m + 1)) /\ RowL w' g 3 (m + 1) 1 intC (jpe m a n) /\ w.heap.size <= g /\ Xt w w'
theorem j6e (m : Nat) (a n : Int) (w : World) (hm : m <= 4096) (ha : 1 <= a /\ a <= m) (hn : -(m : Int) <= n /\ n <= m) :
    Calls Tryz.prog 87 #[.int .i64 m, a, .int .i64 n] w (PlacesR m a n w) := by
 obtain ⟨wM, hmk, hrow, hxM⟩ := zf6 m hm w;have hw1 : wrap64 ((m : Int) + 1) = (m : Int) + 1 := (by unfold wrap64; omega);obtain ⟨g, hg⟩ := e_ w.heap.size;rw [hg] at hmk hrow;have HROW : Hid (RowL wM g 3 (m + 1) 1 intC (yGD m a n 1)) := (by unfold Hid; rw [yzM]; exact hrow);have HXM := h_ hxM;have HGW := h_ hg;clear hrow hxM;go_enter Tryz.func87, Tryz.ntmps87;go_wp2_with fail;clear hmk
 go_loopw [8, 9] (fun s8 s9 wr => ∃ k : Nat, 1 <= k /\ k <= m + 1 /\ s8 = .int .i64 (yYZ a n k) /\ s9 = .int .i64 (k : Int) /\ Hid (RowL wr g 3 (m + 1) 1 intC (yGD m a n k)) /\ Hid (Xt w wr)) (fun _ s9 _ => m + 1 - (intOf s9).toNat)
 case atStart => exact ⟨1, Nat.le_refl _, by omega, by unfold yYZ; rw [if_pos (by omega)]; rfl, rfl, HROW, HXM⟩
 case round =>
  clear HROW HXM;obtain ⟨k, hk1, hkm, rfl, rfl, HR, HX⟩ := hrel
  -- ROUND
  by_cases hle : (k : Int) <= m
  . have hk1w : wrap64 ((k : Int) + 1) = (k : Int) + 1 := (by unfold wrap64; omega);by_cases n0 : n < 0
    . have n1 : ¬ 0 < n := (by omega);have hsub : wrap64 (a - n) = a - n := (by unfold wrap64; omega);by_cases h1 : (k : Int) < a
      . have h1' : ¬ a <= (k : Int) := (by omega);have hka : ((k : Int) == a) = false := (by simp; omega);have hcur : yYZ a n (k : Int) = (k : Int) := (by unfold yYZ; (repeat' split) <;> omega);rw [hcur];obtain ⟨z, hz⟩ := e_ (wrap64 ((k : Int) + 1));have hz2 : yYZ a n ((k + 1 : Nat) : Int) = z := (by rw [<- hz]; unfold yYZ wrap64; (repeat' split) <;> omega);have hpl : yMh m a n (k : Int) = (k : Int) := (by unfold yMh; (repeat' split) <;> omega);have hlen := yAW m a n k;have hhas := HR.out.has (o := k) (by omega);have hfz := HR.out.froz k;obtain ⟨uo, huo⟩ := Option.isSome_iff_exists.1 hhas;have HS := h_ (ybs HR.out (j := k) (by omega) ((k : Int)))
        have HX2 : Hid (Xt w (wr.setCell ⟨g, k, none⟩ (.int .i64 ((k : Int))))) := HX.out.grownB (yiv _ _ _ _) (fun q hq => by cases hq; have := HGW.out; omega);rw [zIn (by omega) hpl.symm] at HS;clear hcur hpl HR HX;have HZ := h_ hz2;clear hz2;try clear heqk
        go_wp2_with fail;go_roundw
        case rel => exact ⟨k + 1, by omega, by omega, by first | (rw [HZ.out]; done) | (rw [HZ.out, <- hz]; congr 1; unfold wrap64; omega), by go_num, HS, HX2⟩
        case measure => simp [intOf]; omega
      . have h1' : a <= (k : Int) := (by omega);by_cases h2 : (k : Int) < a - n
        . by_cases h3 : (k : Int) = a
          . have hka : ((k : Int) == a) = true := (by simp [h3]);have hcur : yYZ a n (k : Int) = a := (by unfold yYZ; (repeat' split) <;> omega);rw [hcur];have hz2 : yYZ a n ((k + 1 : Nat) : Int) = a := (by unfold yYZ; (repeat' split) <;> omega);have hpl : yMh m a n (k : Int) = 0 := (by unfold yMh; (repeat' split) <;> omega);have HS := HR;rw [jQr hpl] at HS;have HX2 := HX;clear hcur hpl HR HX;have HZ := h_ hz2;clear hz2;try clear heqk
            go_wp2_with fail;go_roundw
            case rel => exact ⟨k + 1, by omega, by omega, by first | (rw [HZ.out]; done) | (rw [HZ.out, <- hz]; congr 1; unfold wrap64; omega), by go_num, HS, HX2⟩
            case measure => simp [intOf]; omega
          . have hka : ((k : Int) == a) = false := (by simp [h3]);have hcur : yYZ a n (k : Int) = a := (by unfold yYZ; (repeat' split) <;> omega);rw [hcur];have hz2 : yYZ a n ((k + 1 : Nat) : Int) = a := (by unfold yYZ; (repeat' split) <;> omega);have hpl : yMh m a n (k : Int) = 0 := (by unfold yMh; (repeat' split) <;> omega);have HS := HR;rw [jQr hpl] at HS;have HX2 := HX;clear hcur hpl HR HX;have HZ := h_ hz2;clear hz2;try clear heqk
            go_wp2_with fail;go_roundw
            case rel => exact ⟨k + 1, by omega, by omega, by first | (rw [HZ.out]; done) | (rw [HZ.out, <- hz]; congr 1; unfold wrap64; omega), by go_num, HS, HX2⟩
            case measure => simp [intOf]; omega
        . by_cases h3 : (k : Int) = a
          . omega
          . have hka : ((k : Int) == a) = false := (by simp [h3]);have hnm : (k : Int) + n <= m := (by omega);have hcur : yYZ a n (k : Int) = (k : Int) + n := (by unfold yYZ; (repeat' split) <;> omega);rw [hcur];obtain ⟨z, hz⟩ := e_ (wrap64 ((k : Int) + n + 1));have hz2 : yYZ a n ((k + 1 : Nat) : Int) = z := (by rw [<- hz]; unfold yYZ wrap64; (repeat' split) <;> omega);have hpl : yMh m a n (k : Int) = (k : Int) + n := (by unfold yMh; (repeat' split) <;> omega);have hlen := yAW m a n k;have hhas := HR.out.has (o := k) (by omega);have hfz := HR.out.froz k;obtain ⟨uo, huo⟩ := Option.isSome_iff_exists.1 hhas
            have HS := h_ (ybs HR.out (j := k) (by omega) ((k : Int) + n));have HX2 : Hid (Xt w (wr.setCell ⟨g, k, none⟩ (.int .i64 ((k : Int) + n)))) := HX.out.grownB (yiv _ _ _ _) (fun q hq => by cases hq; have := HGW.out; omega);rw [zIn (by omega) hpl.symm] at HS;clear hcur hpl HR HX;have HZ := h_ hz2;clear hz2;try clear heqk
            go_wp2_with fail;go_roundw
            case rel => exact ⟨k + 1, by omega, by omega, by first | (rw [HZ.out]; done) | (rw [HZ.out, <- hz]; congr 1; unfold wrap64; omega), by go_num, HS, HX2⟩
            case measure => simp [intOf]; omega
    . by_cases h1 : (k : Int) < a
      . have hka : ((k : Int) == a) = false := (by simp; omega);have hcur : yYZ a n (k : Int) = (k : Int) := (by unfold yYZ; (repeat' split) <;> omega);rw [hcur];obtain ⟨z, hz⟩ := e_ (wrap64 ((k : Int) + 1));have hz2 : yYZ a n ((k + 1 : Nat) : Int) = z := (by rw [<- hz]; unfold yYZ wrap64; (repeat' split) <;> omega);have hpl : yMh m a n (k : Int) = (k : Int) := (by unfold yMh; (repeat' split) <;> omega);have hlen := yAW m a n k;have hhas := HR.out.has (o := k) (by omega);have hfz := HR.out.froz k;obtain ⟨uo, huo⟩ := Option.isSome_iff_exists.1 hhas;have HS := h_ (ybs HR.out (j := k) (by omega) ((k : Int)))
        have HX2 : Hid (Xt w (wr.setCell ⟨g, k, none⟩ (.int .i64 ((k : Int))))) := HX.out.grownB (yiv _ _ _ _) (fun q hq => by cases hq; have := HGW.out; omega);rw [zIn (by omega) hpl.symm] at HS;clear hcur hpl HR HX;have HZ := h_ hz2;clear hz2;try clear heqk
        go_wp2_with fail;go_roundw
        case rel => exact ⟨k + 1, by omega, by omega, by first | (rw [HZ.out]; done) | (rw [HZ.out, <- hz]; congr 1; unfold wrap64; omega), by go_num, HS, HX2⟩
        case measure => simp [intOf]; omega
      . by_cases heqk : (k : Int) = a
        . have hka : ((k : Int) == a) = true := (by simp [heqk]);by_cases h3 : 0 < n
          . by_cases hnm : (k : Int) + n <= m
            . have hn0 : 0 <= n := (by omega);have hcur : yYZ a n (k : Int) = (k : Int) := (by unfold yYZ; (repeat' split) <;> omega);rw [hcur];have hadd : wrap64 ((k : Int) + n) = (k : Int) + n := (by unfold wrap64; omega);obtain ⟨z, hz⟩ := e_ (wrap64 ((k : Int) + n + 1));have hz2 : yYZ a n ((k + 1 : Nat) : Int) = z := (by rw [<- hz]; unfold yYZ wrap64; (repeat' split) <;> omega);have hpl : yMh m a n (k : Int) = (k : Int) + n := (by unfold yMh; (repeat' split) <;> omega);have hlen := yAW m a n k;have hhas := HR.out.has (o := k) (by omega);have hfz := HR.out.froz k;obtain ⟨uo, huo⟩ := Option.isSome_iff_exists.1 hhas
              have HS := h_ (ybs HR.out (j := k) (by omega) ((k : Int) + n));have HX2 : Hid (Xt w (wr.setCell ⟨g, k, none⟩ (.int .i64 ((k : Int) + n)))) := HX.out.grownB (yiv _ _ _ _) (fun q hq => by cases hq; have := HGW.out; omega);rw [zIn (by omega) hpl.symm] at HS;clear hcur hpl HR HX;have HZ := h_ hz2;clear hz2;try clear heqk
              go_wp2_with fail;go_roundw
              case rel => exact ⟨k + 1, by omega, by omega, by first | (rw [HZ.out]; done) | (rw [HZ.out, <- hz]; congr 1; unfold wrap64; omega), by go_num, HS, HX2⟩
              case measure => simp [intOf]; omega
            . have h4' : (m : Int) < (k : Int) + n := (by omega);have h4b : ((k : Int) + n <= (m : Int)) = False := eq_false hnm;have hcur : yYZ a n (k : Int) = (k : Int) := (by unfold yYZ; (repeat' split) <;> omega);rw [hcur];have hadd : wrap64 ((k : Int) + n) = (k : Int) + n := (by unfold wrap64; omega);obtain ⟨z, hz⟩ := e_ (wrap64 ((k : Int) + n + 1));have hz2 : yYZ a n ((k + 1 : Nat) : Int) = z := (by rw [<- hz]; unfold yYZ wrap64; (repeat' split) <;> omega);have hpl : yMh m a n (k : Int) = 0 := (by unfold yMh; (repeat' split) <;> omega);have HS := HR;rw [jQr hpl] at HS;have HX2 := HX;clear hcur hpl HR HX;have HZ := h_ hz2;clear hz2;try clear heqk
              go_wp2_with fail;go_roundw
              case rel => exact ⟨k + 1, by omega, by omega, by first | (rw [HZ.out]; done) | (rw [HZ.out, <- hz]; congr 1; unfold wrap64; omega), by go_num, HS, HX2⟩
              case measure => simp [intOf]; omega
          . have hcur : yYZ a n (k : Int) = (k : Int) := (by unfold yYZ; (repeat' split) <;> omega);rw [hcur];obtain ⟨z, hz⟩ := e_ (wrap64 ((k : Int) + 1));have hz2 : yYZ a n ((k + 1 : Nat) : Int) = z := (by rw [<- hz]; unfold yYZ wrap64; (repeat' split) <;> omega);have hpl : yMh m a n (k : Int) = (k : Int) := (by unfold yMh; (repeat' split) <;> omega);have hlen := yAW m a n k;have hhas := HR.out.has (o := k) (by omega);have hfz := HR.out.froz k;obtain ⟨uo, huo⟩ := Option.isSome_iff_exists.1 hhas;have HS := h_ (ybs HR.out (j := k) (by omega) ((k : Int)))
            have HX2 : Hid (Xt w (wr.setCell ⟨g, k, none⟩ (.int .i64 ((k : Int))))) := HX.out.grownB (yiv _ _ _ _) (fun q hq => by cases hq; have := HGW.out; omega);rw [zIn (by omega) hpl.symm] at HS;clear hcur hpl HR HX;have HZ := h_ hz2;clear hz2;try clear heqk
            go_wp2_with fail;go_roundw
            case rel => exact ⟨k + 1, by omega, by omega, by first | (rw [HZ.out]; done) | (rw [HZ.out, <- hz]; congr 1; unfold wrap64; omega), by go_num, HS, HX2⟩
            case measure => simp [intOf]; omega
        . have hka : ((k : Int) == a) = false := (by simp [heqk]);by_cases hnm : (k : Int) + n <= m
          . have hcur : yYZ a n (k : Int) = (k : Int) + n := (by unfold yYZ; (repeat' split) <;> omega);rw [hcur];obtain ⟨z, hz⟩ := e_ (wrap64 ((k : Int) + n + 1));have hz2 : yYZ a n ((k + 1 : Nat) : Int) = z := (by rw [<- hz]; unfold yYZ wrap64; (repeat' split) <;> omega);have hpl : yMh m a n (k : Int) = (k : Int) + n := (by unfold yMh; (repeat' split) <;> omega);have hlen := yAW m a n k;have hhas := HR.out.has (o := k) (by omega);have hfz := HR.out.froz k;obtain ⟨uo, huo⟩ := Option.isSome_iff_exists.1 hhas;have HS := h_ (ybs HR.out (j := k) (by omega) ((k : Int) + n))
            have HX2 : Hid (Xt w (wr.setCell ⟨g, k, none⟩ (.int .i64 ((k : Int) + n)))) := HX.out.grownB (yiv _ _ _ _) (fun q hq => by cases hq; have := HGW.out; omega);rw [zIn (by omega) hpl.symm] at HS;clear hcur hpl HR HX;have HZ := h_ hz2;clear hz2;try clear heqk
            go_wp2_with fail;go_roundw
            case rel => exact ⟨k + 1, by omega, by omega, by first | (rw [HZ.out]; done) | (rw [HZ.out, <- hz]; congr 1; unfold wrap64; omega), by go_num, HS, HX2⟩
            case measure => simp [intOf]; omega
          . have h4' : (m : Int) < (k : Int) + n := (by omega);have h4b : ((k : Int) + n <= (m : Int)) = False := eq_false hnm;have hcur : yYZ a n (k : Int) = (k : Int) + n := (by unfold yYZ; (repeat' split) <;> omega);rw [hcur];obtain ⟨z, hz⟩ := e_ (wrap64 ((k : Int) + n + 1));have hz2 : yYZ a n ((k + 1 : Nat) : Int) = z := (by rw [<- hz]; unfold yYZ wrap64; (repeat' split) <;> omega);have hpl : yMh m a n (k : Int) = 0 := (by unfold yMh; (repeat' split) <;> omega);have HS := HR;rw [jQr hpl] at HS;have HX2 := HX;clear hcur hpl HR HX;have HZ := h_ hz2;clear hz2;try clear heqk
            go_wp2_with fail;go_roundw
            case rel => exact ⟨k + 1, by omega, by omega, by first | (rw [HZ.out]; done) | (rw [HZ.out, <- hz]; congr 1; unfold wrap64; omega), by go_num, HS, HX2⟩
            case measure => simp [intOf]; omega
  . obtain rfl : k = m + 1 := by omega
    go_wp2_with fail;go_ret;exact ⟨g, rfl, HR.out, by have := HGW.out; omega, HX.out⟩
  -- ENDROUND
end
end Go.Proofs.YtdoeejhdenifpaaGreatDoor
