import Derived.Test.YtideclfpbpjebaaGreatDoorB10
namespace Go.Proofs.YtideclfpbpjebaaGreatDoor
section
open Go.RowKit Go.Sort

theorem bAt_of {s : ByteArray} {i : Nat} (h : i < s.size) : (s[i]'h).toNat = bAt s.data.toList i := by
  obtain ⟨⟨l⟩⟩ := s
  exact bAt_eq (L := l) h
theorem size_list (s : ByteArray) : s.size = s.data.toList.length := by
  obtain ⟨⟨l⟩⟩ := s
  rfl
set_option maxRecDepth 100000 in
set_option maxHeartbeats 4000000 in
theorem utf12_any (s : ByteArray) (hsz : s.size < 4611686018427387904) (w : World) : Calls Tryz.prog 91 #[.string s] w fun e w' => e = .returned (.bool (Lib.validD s.data.toList)) ∧ w = w' := by
  obtain ⟨L, hL⟩ : ∃ L, s.data.toList = L := ⟨_, rfl⟩
  have hS : s.size = L.length := by rw [size_list, hL]
  have hB := Lib.hid (fun (i : Nat) (h : i < s.size) => (bAt_of h).trans (by rw [hL] : bAt s.data.toList i = bAt L i))
  rw [hL]
  clear hL
  go_enter Tryz.func91, Tryz.ntmps91
  go_wp2_with fail
  go_loopw [3, 4, 5, 6, 7] (fun s3 _ _ _ _ wr => ∃ i : Nat, i ≤ L.length ∧ s3 = .int .i64 i ∧ wr = w ∧ Hid (Lib.validD L = Lib.validD (L.drop i))) (fun s3 _ _ _ _ _ => L.length - (intOf s3).toNat)
  case atStart => exact ⟨0, Nat.zero_le _, rfl, rfl, rfl⟩
  case round =>
    obtain ⟨i, hi, rfl, rfl, HS⟩ := hrel
    by_cases hlt : i < L.length
    · have hki : (i : Int) < (L.length : Int) := by omega
      have b0 := hB.out i (by omega)
      by_cases h1 : bAt L i < 128
      · have HE := Lib.hid (valid_low hlt h1)
        generalize bAt L i = c at b0 h1
        have hc1 : (c : Int) < 128 := by omega
        go_wp2_with fail
        refine wp_loop_rounds 1 ?_
        rw [rounds_succ]
        go_wp2_with fail
        have g1 : ¬ (c : Int) < 0 := by omega
        have g2 : ¬ (1114111 : Int) < c := by omega
        have g3 : ¬ (55296 : Int) ≤ c := by omega
        go_wp2_with fail
        refine ⟨⟨i + 1, by omega, ?_, trivial, ?_⟩, ?_⟩
        · go_num
        · unfold Hid; rw [HS.out, HE.out]
        · simp only [intOf]; omega
      by_cases h2 : 194 ≤ bAt L i ∧ bAt L i < 224
      · obtain ⟨wq, hwq⟩ : ∃ wq, wq = wr := ⟨_, rfl⟩
        subst hwq
        have HL := Lib.hid (Lead.mk (by omega) : Lead (bAt L i) 1 128 (bAt L i - 192))
        obtain ⟨c, hc⟩ : ∃ c, bAt L i = c := ⟨_, rfl⟩
        rw [hc] at b0 h1 h2 HL
        have HI := Lib.hid hc
        clear hc
        have t0 : ¬ (c : Int) < 128 := by omega
        have t1 : (194 : Int) ≤ c := by omega
        have t2 : (c : Int) < 224 := by omega
        go_wp2_with fail
        go_loopw [4, 7] (fun s4 s7 wi => ∃ k v : Nat, 1 ≤ k ∧ k ≤ 2 ∧ s7 = .int .i64 k ∧ s4 = .int .i64 v ∧ v < 64 ^ k ∧ Hid (v = contU (fun k => bAt L (i + k)) (c - 192) (k - 1)) ∧ wi = wq ∧ Hid (∀ j, 1 ≤ j → j < k → i + j < L.length ∧ 128 ≤ bAt L (i + j) ∧ bAt L (i + j) ≤ 191)) (fun _ s7 _ => 2 - (intOf s7).toNat)
        case atStart => exact ⟨1, c - 192, Nat.le_refl _, by omega, rfl, by congr 1; omega, by omega, rfl, rfl, fun j q1 q2 => by omega⟩
        case round =>
          obtain ⟨k, v, hk1, hk2, rfl, rfl, hv, HV, rfl, HJ⟩ := hrel
          by_cases hkm : k ≤ 1
          · have hkI : (k : Int) ≤ 1 := by omega
            by_cases hin : i + k < L.length
            · have hnI : ¬ (L.length : Int) ≤ (i : Int) + k := by omega
              have bk := hB.out (i + k) (by omega)
              obtain ⟨b, hb⟩ : ∃ b, bAt L (i + k) = b := ⟨_, rfl⟩
              rw [hb] at bk
              have HBk := Lib.hid hb
              clear hb
              have hb2 : b < 256 := by have := bAt_lt L (i + k); have := HBk.out; omega
              have hv2 : v < 16777216 := by
                have : k = 1 ∨ k = 2 ∨ k = 3 := by omega
                rcases this with rfl | rfl | rfl <;> omega
              by_cases q1 : b < 128
              · have HE := Lib.hid (valid_cont hlt (HI.out ▸ HL.out) hk1 hkm (by rw [HBk.out]; omega))
                have q1I : (b : Int) < 128 := by omega
                clear HL
                go_wp2_with fail
                go_ret
                exact ⟨by rw [HS.out, HE.out]; rfl, rfl⟩
              · have q1I : ¬ (b : Int) < 128 := by omega
                by_cases q2 : 191 < b
                · have HE := Lib.hid (valid_cont hlt (HI.out ▸ HL.out) hk1 hkm (by rw [HBk.out]; omega))
                  have q2I : (191 : Int) < b := by omega
                  clear HL
                  go_wp2_with fail
                  go_ret
                  exact ⟨by rw [HS.out, HE.out]; rfl, rfl⟩
                · have q2I : ¬ (191 : Int) < b := by omega
                  go_wp2_with fail
                  refine ⟨⟨k + 1, v * 64 + b - 128, by omega, by omega, by go_num, by congr 1; omega, by rw [Nat.pow_succ]; omega, ?_, trivial, ?_⟩, by simp [intOf]; omega⟩
                  · unfold Hid
                    obtain ⟨k', rfl⟩ : ∃ k', k = k' + 1 := ⟨k - 1, by omega⟩
                    show _ = contU _ _ k' * 64 + bAt L (i + (k' + 1)) - 128
                    rw [HBk.out, HV.out]
                    rfl
                  · intro j j1 j2
                    by_cases hj : j = k
                    · subst hj; rw [HBk.out]; omega
                    · exact HJ.out j j1 (by omega)
            · have hnI : (L.length : Int) ≤ (i : Int) + k := by omega
              have HE := Lib.hid (valid_cont hlt (HI.out ▸ HL.out) hk1 hkm (Or.inl (by omega)))
              clear HL
              go_wp2_with fail
              go_ret
              exact ⟨by rw [HS.out, HE.out]; rfl, rfl⟩
          · have hke : k = 2 := by omega
            subst hke
            have HE : Hid (Lib.validD (L.drop i) = if v < 128 ∨ 1114111 < v ∨ (55296 ≤ v ∧ v < 57344) then false else Lib.validD (L.drop (i + 1 + 1))) := by
              have h := valid_val hlt (HI.out.symm ▸ HL.out) (fun j j1 j2 => HJ.out j j1 (by omega))
              rw [HI.out] at h
              unfold Hid
              rw [HV.out]
              exact h
            have hlen : i + 1 < L.length := (HJ.out 1 (by omega) (by omega)).1
            clear HL HV hkm
            go_wp2_with fail
            all_goals first
              | (go_ret; exact ⟨by rw [HS.out, HE.out, if_pos (by omega)]; rfl, rfl⟩)
              | (refine ⟨⟨i + 1 + 1, by omega, by go_num, trivial, by unfold Hid; rw [HS.out, HE.out, if_neg (by omega)]⟩, by simp [intOf]; omega⟩)
      by_cases h3 : 224 ≤ bAt L i ∧ bAt L i < 240
      · obtain ⟨wq, hwq⟩ : ∃ wq, wq = wr := ⟨_, rfl⟩
        subst hwq
        have HL := Lib.hid (Lead.mk (by omega) : Lead (bAt L i) 2 2048 (bAt L i - 224))
        obtain ⟨c, hc⟩ : ∃ c, bAt L i = c := ⟨_, rfl⟩
        rw [hc] at b0 h1 h3 HL
        have HI := Lib.hid hc
        clear hc
        have t0 : ¬ (c : Int) < 128 := by omega
        have t1 : (194 : Int) ≤ c := by omega
        have t2 : ¬ (c : Int) < 224 := by omega
        have t3 : (224 : Int) ≤ c := by omega
        have t4 : (c : Int) < 240 := by omega
        go_wp2_with fail
        go_loopw [4, 7] (fun s4 s7 wi => ∃ k v : Nat, 1 ≤ k ∧ k ≤ 3 ∧ s7 = .int .i64 k ∧ s4 = .int .i64 v ∧ v < 64 ^ k ∧ Hid (v = contU (fun k => bAt L (i + k)) (c - 224) (k - 1)) ∧ wi = wq ∧ Hid (∀ j, 1 ≤ j → j < k → i + j < L.length ∧ 128 ≤ bAt L (i + j) ∧ bAt L (i + j) ≤ 191)) (fun _ s7 _ => 3 - (intOf s7).toNat)
        case atStart => exact ⟨1, c - 224, Nat.le_refl _, by omega, rfl, by congr 1; omega, by omega, rfl, rfl, fun j q1 q2 => by omega⟩
        case round =>
          obtain ⟨k, v, hk1, hk2, rfl, rfl, hv, HV, rfl, HJ⟩ := hrel
          by_cases hkm : k ≤ 2
          · have hkI : (k : Int) ≤ 2 := by omega
            by_cases hin : i + k < L.length
            · have hnI : ¬ (L.length : Int) ≤ (i : Int) + k := by omega
              have bk := hB.out (i + k) (by omega)
              obtain ⟨b, hb⟩ : ∃ b, bAt L (i + k) = b := ⟨_, rfl⟩
              rw [hb] at bk
              have HBk := Lib.hid hb
              clear hb
              have hb2 : b < 256 := by have := bAt_lt L (i + k); have := HBk.out; omega
              have hv2 : v < 16777216 := by
                have : k = 1 ∨ k = 2 ∨ k = 3 := by omega
                rcases this with rfl | rfl | rfl <;> omega
              by_cases q1 : b < 128
              · have HE := Lib.hid (valid_cont hlt (HI.out ▸ HL.out) hk1 hkm (by rw [HBk.out]; omega))
                have q1I : (b : Int) < 128 := by omega
                clear HL
                go_wp2_with fail
                go_ret
                exact ⟨by rw [HS.out, HE.out]; rfl, rfl⟩
              · have q1I : ¬ (b : Int) < 128 := by omega
                by_cases q2 : 191 < b
                · have HE := Lib.hid (valid_cont hlt (HI.out ▸ HL.out) hk1 hkm (by rw [HBk.out]; omega))
                  have q2I : (191 : Int) < b := by omega
                  clear HL
                  go_wp2_with fail
                  go_ret
                  exact ⟨by rw [HS.out, HE.out]; rfl, rfl⟩
                · have q2I : ¬ (191 : Int) < b := by omega
                  go_wp2_with fail
                  refine ⟨⟨k + 1, v * 64 + b - 128, by omega, by omega, by go_num, by congr 1; omega, by rw [Nat.pow_succ]; omega, ?_, trivial, ?_⟩, by simp [intOf]; omega⟩
                  · unfold Hid
                    obtain ⟨k', rfl⟩ : ∃ k', k = k' + 1 := ⟨k - 1, by omega⟩
                    show _ = contU _ _ k' * 64 + bAt L (i + (k' + 1)) - 128
                    rw [HBk.out, HV.out]
                    rfl
                  · intro j j1 j2
                    by_cases hj : j = k
                    · subst hj; rw [HBk.out]; omega
                    · exact HJ.out j j1 (by omega)
            · have hnI : (L.length : Int) ≤ (i : Int) + k := by omega
              have HE := Lib.hid (valid_cont hlt (HI.out ▸ HL.out) hk1 hkm (Or.inl (by omega)))
              clear HL
              go_wp2_with fail
              go_ret
              exact ⟨by rw [HS.out, HE.out]; rfl, rfl⟩
          · have hke : k = 3 := by omega
            subst hke
            have HE : Hid (Lib.validD (L.drop i) = if v < 2048 ∨ 1114111 < v ∨ (55296 ≤ v ∧ v < 57344) then false else Lib.validD (L.drop (i + 1 + 2))) := by
              have h := valid_val hlt (HI.out.symm ▸ HL.out) (fun j j1 j2 => HJ.out j j1 (by omega))
              rw [HI.out] at h
              unfold Hid
              rw [HV.out]
              exact h
            have hlen : i + 2 < L.length := (HJ.out 2 (by omega) (by omega)).1
            clear HL HV hkm
            go_wp2_with fail
            all_goals first
              | (go_ret; exact ⟨by rw [HS.out, HE.out, if_pos (by omega)]; rfl, rfl⟩)
              | (refine ⟨⟨i + 1 + 2, by omega, by go_num, trivial, by unfold Hid; rw [HS.out, HE.out, if_neg (by omega)]⟩, by simp [intOf]; omega⟩)
      by_cases h4 : 240 ≤ bAt L i ∧ bAt L i < 245
      · obtain ⟨wq, hwq⟩ : ∃ wq, wq = wr := ⟨_, rfl⟩
        subst hwq
        have HL := Lib.hid (Lead.mk (by omega) : Lead (bAt L i) 3 65536 (bAt L i - 240))
        obtain ⟨c, hc⟩ : ∃ c, bAt L i = c := ⟨_, rfl⟩
        rw [hc] at b0 h1 h4 HL
        have HI := Lib.hid hc
        clear hc
        have t0 : ¬ (c : Int) < 128 := by omega
        have t1 : (194 : Int) ≤ c := by omega
        have t2 : ¬ (c : Int) < 224 := by omega
        have t3 : (224 : Int) ≤ c := by omega
        have t4 : ¬ (c : Int) < 240 := by omega
        have t5 : (240 : Int) ≤ c := by omega
        have t6 : (c : Int) < 245 := by omega
        go_wp2_with fail
        go_loopw [4, 7] (fun s4 s7 wi => ∃ k v : Nat, 1 ≤ k ∧ k ≤ 4 ∧ s7 = .int .i64 k ∧ s4 = .int .i64 v ∧ v < 64 ^ k ∧ Hid (v = contU (fun k => bAt L (i + k)) (c - 240) (k - 1)) ∧ wi = wq ∧ Hid (∀ j, 1 ≤ j → j < k → i + j < L.length ∧ 128 ≤ bAt L (i + j) ∧ bAt L (i + j) ≤ 191)) (fun _ s7 _ => 4 - (intOf s7).toNat)
        case atStart => exact ⟨1, c - 240, Nat.le_refl _, by omega, rfl, by congr 1; omega, by omega, rfl, rfl, fun j q1 q2 => by omega⟩
        case round =>
          obtain ⟨k, v, hk1, hk2, rfl, rfl, hv, HV, rfl, HJ⟩ := hrel
          by_cases hkm : k ≤ 3
          · have hkI : (k : Int) ≤ 3 := by omega
            by_cases hin : i + k < L.length
            · have hnI : ¬ (L.length : Int) ≤ (i : Int) + k := by omega
              have bk := hB.out (i + k) (by omega)
              obtain ⟨b, hb⟩ : ∃ b, bAt L (i + k) = b := ⟨_, rfl⟩
              rw [hb] at bk
              have HBk := Lib.hid hb
              clear hb
              have hb2 : b < 256 := by have := bAt_lt L (i + k); have := HBk.out; omega
              have hv2 : v < 16777216 := by
                have : k = 1 ∨ k = 2 ∨ k = 3 := by omega
                rcases this with rfl | rfl | rfl <;> omega
              by_cases q1 : b < 128
              · have HE := Lib.hid (valid_cont hlt (HI.out ▸ HL.out) hk1 hkm (by rw [HBk.out]; omega))
                have q1I : (b : Int) < 128 := by omega
                clear HL
                go_wp2_with fail
                go_ret
                exact ⟨by rw [HS.out, HE.out]; rfl, rfl⟩
              · have q1I : ¬ (b : Int) < 128 := by omega
                by_cases q2 : 191 < b
                · have HE := Lib.hid (valid_cont hlt (HI.out ▸ HL.out) hk1 hkm (by rw [HBk.out]; omega))
                  have q2I : (191 : Int) < b := by omega
                  clear HL
                  go_wp2_with fail
                  go_ret
                  exact ⟨by rw [HS.out, HE.out]; rfl, rfl⟩
                · have q2I : ¬ (191 : Int) < b := by omega
                  go_wp2_with fail
                  refine ⟨⟨k + 1, v * 64 + b - 128, by omega, by omega, by go_num, by congr 1; omega, by rw [Nat.pow_succ]; omega, ?_, trivial, ?_⟩, by simp [intOf]; omega⟩
                  · unfold Hid
                    obtain ⟨k', rfl⟩ : ∃ k', k = k' + 1 := ⟨k - 1, by omega⟩
                    show _ = contU _ _ k' * 64 + bAt L (i + (k' + 1)) - 128
                    rw [HBk.out, HV.out]
                    rfl
                  · intro j j1 j2
                    by_cases hj : j = k
                    · subst hj; rw [HBk.out]; omega
                    · exact HJ.out j j1 (by omega)
            · have hnI : (L.length : Int) ≤ (i : Int) + k := by omega
              have HE := Lib.hid (valid_cont hlt (HI.out ▸ HL.out) hk1 hkm (Or.inl (by omega)))
              clear HL
              go_wp2_with fail
              go_ret
              exact ⟨by rw [HS.out, HE.out]; rfl, rfl⟩
          · have hke : k = 4 := by omega
            subst hke
            have HE : Hid (Lib.validD (L.drop i) = if v < 65536 ∨ 1114111 < v ∨ (55296 ≤ v ∧ v < 57344) then false else Lib.validD (L.drop (i + 1 + 3))) := by
              have h := valid_val hlt (HI.out.symm ▸ HL.out) (fun j j1 j2 => HJ.out j j1 (by omega))
              rw [HI.out] at h
              unfold Hid
              rw [HV.out]
              exact h
            have hlen : i + 3 < L.length := (HJ.out 3 (by omega) (by omega)).1
            clear HL HV hkm
            go_wp2_with fail
            all_goals first
              | (go_ret; exact ⟨by rw [HS.out, HE.out, if_pos (by omega)]; rfl, rfl⟩)
              | (refine ⟨⟨i + 1 + 3, by omega, by go_num, trivial, by unfold Hid; rw [HS.out, HE.out, if_neg (by omega)]⟩, by simp [intOf]; omega⟩)
      have HE := Lib.hid (valid_none hlt (by omega) (by omega))
      have hb256 := bAt_lt L i
      generalize bAt L i = c at b0 h1 h2 h3 h4 hb256
      have n0 : (c : Int) < 256 := by omega
      have n1 : ¬ (c : Int) < 128 := by omega
      by_cases n2 : (194 : Int) ≤ c
      · have n3 : ¬ (c : Int) < 224 := by omega
        have n4 : ¬ (c : Int) < 240 := by omega
        have n5 : ¬ (c : Int) < 245 := by omega
        have n6 : (224 : Int) ≤ c := by omega
        have n7 : (240 : Int) ≤ c := by omega
        go_wp2_with fail
        all_goals (go_ret; exact ⟨by rw [HS.out, HE.out]; rfl, rfl⟩)
      · have n3 : ¬ (224 : Int) ≤ c := by omega
        have n4 : ¬ (240 : Int) ≤ c := by omega
        go_wp2_with fail
        go_ret
        exact ⟨by rw [HS.out, HE.out]; rfl, rfl⟩
    · have he : i = L.length := by omega
      subst he
      go_wp2_with fail
      go_ret
      exact ⟨by rw [HS.out, List.drop_length]; rfl, rfl⟩

/-- A round's push, with all that the region asks on its way. -/
theorem grow_step {w ws wr w6 : World} {M n n' i b off cap xc : Nat} {g : NodeT → NodeT} {t t2 x : NodeT} {l : List NodeT} {va a' xa : Option Addr} {vn vc c' : Nat} (hn : n = n' + 1) (h : GSt w ws (w.heap.size + 1 + 1) M g n t2 l wr i va vn vc) (hx : l[i]? = some x) (hl : l.length ≤ 1099511627744)
    (hN14 : wr.cell? ⟨w.heap.size, 14, none⟩ = some (.slice (some ⟨b, off, none⟩) t.args.length cap)) (hNx : NodeAt wr b (off + i * 15) x xa x.args.length xc) (hb : b < w.heap.size)
    (hAS : OwnIn (fun b => wr.drew.heap.size ≤ b) w6 n' (.slice a' (g x).args.length c') (g x).args) (h6 : Xt wr.drew w6) :
    ∃ wA, w6.alloc (.cells #[.int .i64 (g x).kind, .int .i64 (g x).op, .float .f64 (g x).x, .string (g x).s, .bool (g x).b, .int .i64 (g x).f, .int .i64 (g x).ref.a.1, .int .i64 (g x).ref.a.2, .bool (g x).ref.cf, .bool (g x).ref.rf, .int .i64 (g x).to.a.1, .int .i64 (g x).to.a.2, .bool (g x).to.cf, .bool (g x).to.rf, .slice a' (g x).args.length c'] 44) = wA ∧
    ∃ va' vn' vc' w7, (Builtin.append_ #[42, 42] 42 #[.slice va vn vc, .slice (some ⟨w6.heap.size, 0, none⟩) 1 1]).run Tryz.prog wA = .ok (.slice va' vn' vc') w7 ∧ w6.cell? ⟨w.heap.size + 1 + 1, 14, none⟩ = some (.slice va vn vc) ∧ wA.cell? ⟨w.heap.size + 1 + 1, 14, none⟩ = some (.slice va vn vc) ∧ w7.cell? ⟨w.heap.size + 1 + 1, 14, none⟩ = some (.slice va vn vc) ∧ w7.frozen? ⟨w.heap.size + 1 + 1, 14, none⟩ = false ∧
      Hid (w6.cell? ⟨w.heap.size, 14, none⟩ = some (.slice (some ⟨b, off, none⟩) t.args.length cap) ∧ NodeAt w6 b (off + i * 15) x xa x.args.length xc) ∧ Hid (wA.cell? ⟨w.heap.size, 14, none⟩ = some (.slice (some ⟨b, off, none⟩) t.args.length cap) ∧ NodeAt wA b (off + i * 15) x xa x.args.length xc) ∧ Hid (w7.cell? ⟨w.heap.size, 14, none⟩ = some (.slice (some ⟨b, off, none⟩) t.args.length cap) ∧ NodeAt w7 b (off + i * 15) x xa x.args.length xc) ∧
      Hid ((w7.setCell ⟨w.heap.size + 1 + 1, 14, none⟩ (.slice va' vn' vc')).cell? ⟨w.heap.size, 14, none⟩ = some (.slice (some ⟨b, off, none⟩) t.args.length cap) ∧ NodeAt (w7.setCell ⟨w.heap.size + 1 + 1, 14, none⟩ (.slice va' vn' vc')) b (off + i * 15) x xa x.args.length xc) ∧
      Hid (GSt w ws (w.heap.size + 1 + 1) M g n t2 l (w7.setCell ⟨w.heap.size + 1 + 1, 14, none⟩ (.slice va' vn' vc')) (i + 1) va' vn' vc') := by
  refine ⟨_, rfl, ?_⟩
  obtain ⟨va', vn', vc', w7, q1, ⟨q6, q7, q8⟩, q9, q10, _, q11⟩ := grow_push hn h hx hl ((Xt.refl wr).drew.trans h6) hAS _ rfl
  have hlo := h.lo
  have hb2 : b < wr.heap.size := by omega
  have hn2 : w.heap.size < wr.heap.size := by omega
  obtain ⟨x6, xA, x7, x8⟩ := q10 b hb2 (Or.inr hb)
  obtain ⟨y6, yA, y7, y8⟩ := q10 w.heap.size hn2 (Or.inl ⟨by omega, by omega⟩)
  have hc : ∀ {u : World} {k o : Nat}, u.heap[k]? = wr.heap[k]? → u.cell? ⟨k, o, none⟩ = wr.cell? ⟨k, o, none⟩ := fun {u k o} e => World.cell?_of_block (w := wr) (a := ⟨k, o, none⟩) e
  exact ⟨va', vn', vc', w7, q1, q6, q7, q8, q9, ⟨(hc y6).trans hN14, hNx.keep (fun o => hc x6)⟩, ⟨(hc yA).trans hN14, hNx.keep (fun o => hc xA)⟩, ⟨(hc y7).trans hN14, hNx.keep (fun o => hc x7)⟩, ⟨(hc y8).trans hN14, hNx.keep (fun o => hc x8)⟩, q11⟩
end
end Go.Proofs.YtideclfpbpjebaaGreatDoor
