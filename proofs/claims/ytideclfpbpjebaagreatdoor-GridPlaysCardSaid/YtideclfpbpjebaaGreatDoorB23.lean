import Derived.Test.YtideclfpbpjebaaGreatDoorB20
namespace Go.Proofs.YtideclfpbpjebaaGreatDoor
section
open Go.RowKit Go.Sort

def ownErr (mb b5 b6 b9 vb va k3 lo hi ins : Bool) : Int :=
  if mb then (if (b5 && !vb) || (b6 && !va) then 20 else if b9 && !k3 then 21 else if b9 && (lo || hi) then 22 else if b6 && !ins then 31 else 0) else 1
def own12T (t : NodeT) (ins : Bool) : Int := ownErr (madeB t) (t.kind == 5) (t.kind == 6) (t.kind == 9) (validB t.ref.a.1 t.ref.a.2) (validA t.ref.a.1 t.ref.a.2 t.to.a.1 t.to.a.2) (knownF t.s.toList).2.2 (decide ((t.args.length : Int) < (knownF t.s.toList).1)) (decide ((knownF t.s.toList).2.1 < (t.args.length : Int))) ins
theorem fault_own (t : NodeT) (ins : Bool) : faultT t ins = if own12T t ins = 0 then faultL t.args (t.kind == 9) else own12T t ins := by
  rw [faultT_eq]
  unfold own12T ownErr validA
  generalize hv : (validB t.ref.a.1 t.ref.a.2 && validB t.to.a.1 t.to.a.2 && decide (t.ref.a.1 ≤ t.to.a.1) && decide (t.ref.a.2 ≤ t.to.a.2)) = va
  cases madeB t
  · simp
  · by_cases h5 : t.kind = 5
    · simp only [h5]; cases validB t.ref.a.1 t.ref.a.2 <;> simp
    · by_cases h6 : t.kind = 6
      · simp only [h6]; cases va <;> cases ins <;> simp
      · by_cases h9 : t.kind = 9
        · simp only [h9]
          cases (knownF t.s.toList).2.2
          · simp
          · by_cases h1 : (t.args.length : Int) < (knownF t.s.toList).1
            · simp [h1]
            · by_cases h2 : (knownF t.s.toList).2.1 < (t.args.length : Int)
              · simp [h1, h2]
              · simp [h1, h2]
        · have e5 : (t.kind == 5) = false := by simpa using h5
          have e6 : (t.kind == 6) = false := by simpa using h6
          have e9 : (t.kind == 9) = false := by simpa using h9
          simp [e5, e6, e9]
set_option maxRecDepth 100000 in
set_option maxHeartbeats 4000000 in
theorem own12_any (t : NodeT) (a : Option Addr) (cap : Nat) (ins : Bool) (w : World) (hok : t.ok) :
    Calls Tryz.prog 111 #[nodeV t a t.args.length cap, .bool ins] w fun e w' => e = .returned (.int .i64 (own12T t ins)) ∧ Gr w w' := by
  obtain ⟨w0, hw0, hg0, hs0, hN⟩ := boxN w t a t.args.length cap 44
  have HN := Lib.hid hN
  obtain ⟨c0, c1, c2, c3, c4, c5, c6, c7, c8, c9, c10, c11, c12, c13, c14⟩ := hN
  simp only [Nat.zero_add] at c0 c1 c2 c3 c4 c5 c6 c7 c8 c9 c10 c11 c12 c13 c14
  have HG0 := Lib.hid hg0
  have HM := Lib.hid (Made12_any t a cap · hok)
  have HK := Lib.hid (Known12_any t.s)
  have HV := Lib.hid (valid10_any t.ref.a.1 t.ref.a.2)
  have HA := Lib.hid (validArea10_any t.ref.a.1 t.ref.a.2 t.to.a.1 t.to.a.2)
  unfold own12T
  generalize madeB t = mb at HM ⊢
  generalize knownF t.s.toList = kn at HK ⊢
  obtain ⟨k1, k2, k3⟩ := kn
  simp only at HK ⊢
  generalize validB t.ref.a.1 t.ref.a.2 = vb at HV ⊢
  generalize validA t.ref.a.1 t.ref.a.2 t.to.a.1 t.to.a.2 = va at HA ⊢
  obtain ⟨b5, e5⟩ : ∃ b, (t.kind == 5) = b := ⟨_, rfl⟩
  obtain ⟨b6, e6⟩ : ∃ b, (t.kind == 6) = b := ⟨_, rfl⟩
  obtain ⟨b9, e9⟩ : ∃ b, (t.kind == 9) = b := ⟨_, rfl⟩
  obtain ⟨lo, elo⟩ : ∃ b, decide ((t.args.length : Int) < k1) = b := ⟨_, rfl⟩
  obtain ⟨hi, ehi⟩ : ∃ b, decide (k2 < (t.args.length : Int)) = b := ⟨_, rfl⟩
  rw [e5, e6, e9, elo, ehi]
  clear hg0 hok
  go_enter Tryz.func111, Tryz.ntmps111
  go_wp2_with fail
  refine (HM.out _).mono ?_
  rintro e w1 ⟨rfl, hg1⟩
  have HG1 := Lib.hid (HG0.out.trans hg1)
  have hN1 := HN.out.xt hg1.xt
  have HN1 := Lib.hid hN1
  clear hg1 hw0 c0 c1 c2 c3 c4 c5 c6 c7 c8 c9 c10 c11 c12 c13 c14
  obtain ⟨c0, c1, c2, c3, c4, c5, c6, c7, c8, c9, c10, c11, c12, c13, c14⟩ := hN1
  simp only [Nat.zero_add] at c0 c1 c2 c3 c4 c5 c6 c7 c8 c9 c10 c11 c12 c13 c14
  go_wp2_with (first | (go_at_call 130; refine (HK.out _).mono ?_; rintro e w' ⟨rfl, rfl⟩))
  refine (HV.out _).mono ?_
  rintro e w2 ⟨rfl, rfl⟩
  have hN2 := HN1.out.xt ((Xt.refl w1).alloc (.cells #[.int .i64 t.ref.a.1, .int .i64 t.ref.a.2] 36))
  have HG2 : Hid (Gr w (w1.alloc (.cells #[.int .i64 t.ref.a.1, .int .i64 t.ref.a.2] 36))) := HG1.out.alloc _
  generalize w1.alloc (.cells #[.int .i64 t.ref.a.1, .int .i64 t.ref.a.2] 36) = w2 at hN2 HG2 ⊢
  have HN2 := Lib.hid hN2
  clear c0 c1 c2 c3 c4 c5 c6 c7 c8 c9 c10 c11 c12 c13 c14
  obtain ⟨c0, c1, c2, c3, c4, c5, c6, c7, c8, c9, c10, c11, c12, c13, c14⟩ := hN2
  simp only [Nat.zero_add] at c0 c1 c2 c3 c4 c5 c6 c7 c8 c9 c10 c11 c12 c13 c14
  go_wp2_with fail
  refine (HA.out _).mono ?_
  rintro e w3 ⟨rfl, hg3⟩
  have hN3 := HN2.out.xt hg3.xt
  have HG3 := Lib.hid (HG2.out.trans hg3)
  clear hg3 c0 c1 c2 c3 c4 c5 c6 c7 c8 c9 c10 c11 c12 c13 c14
  obtain ⟨c0, c1, c2, c3, c4, c5, c6, c7, c8, c9, c10, c11, c12, c13, c14⟩ := hN3
  simp only [Nat.zero_add] at c0 c1 c2 c3 c4 c5 c6 c7 c8 c9 c10 c11 c12 c13 c14
  cases mb
  · go_wp2_with fail
    go_ret
    exact ⟨rfl, HG3.out⟩
  cases b5 <;> cases b6 <;> cases b9
  all_goals
    go_wp2_with fail
    all_goals (go_ret; refine ⟨?_, HG3.out⟩; first | (simp [ownErr, *]; done) | (subst elo ehi; simp [ownErr, *]; done) | (subst elo ehi; simp [ownErr, *]; omega))
set_option maxRecDepth 100000 in
set_option maxHeartbeats 4000000 in
theorem first12_any : ∀ (n : Nat) (t : NodeT) (a : Option Addr) (cap : Nat) (ins : Bool) (w : World), t.ok → ArgsIn w n (.slice a t.args.length cap) t.args →
    Calls Tryz.prog 94 #[nodeV t a t.args.length cap, .bool ins] w fun e w' => e = .returned (.int .i64 (faultT t ins)) ∧ Gr w w' := by
  intro n
  induction n using Nat.strongRecOn with
  | ind n ih =>
    intro t a cap ins w hok hin
    have HIN := Lib.hid hin
    obtain ⟨_, _, he, q1, q2⟩ := hin.shape
    cases he
    have IH := Lib.hid ih
    have HOK := Lib.hid hok
    obtain ⟨w0, hw0, hg0, hs0, hN⟩ := boxN w t a t.args.length cap 44
    have HG0 := Lib.hid hg0
    have HN := Lib.hid hN
    obtain ⟨c0, c1, c2, c3, c4, c5, c6, c7, c8, c9, c10, c11, c12, c13, c14⟩ := hN
    simp only [Nat.zero_add] at c0 c1 c2 c3 c4 c5 c6 c7 c8 c9 c10 c11 c12 c13 c14
    have HO := Lib.hid (own12_any t a cap ins · hok)
    generalize hans : faultT t ins = ans
    have HA := Lib.hid hans
    rw [fault_own] at HA
    generalize own12T t ins = oe at HO HA
    obtain ⟨b9, e9⟩ : ∃ b, (t.kind == 9) = b := ⟨_, rfl⟩
    rw [e9] at HA
    clear hin hg0 ih hok hans
    go_enter Tryz.func94, Tryz.ntmps94
    go_wp2_with fail
    refine (HO.out _).mono ?_
    rintro e w1 ⟨rfl, hg1⟩
    have HG1 := Lib.hid (HG0.out.trans hg1)
    have hN1 := HN.out.xt hg1.xt
    have HN1 := Lib.hid hN1
    clear hg1 hw0 c0 c1 c2 c3 c4 c5 c6 c7 c8 c9 c10 c11 c12 c13 c14 hN1
    have hsz1 : w.heap.size < w1.heap.size := World.block_lt_of_cell? _ _ HN1.out.c0
    go_wp2_with fail
    have HF : Hid (if oe = 0 then faultL (t.args.drop 0) b9 = ans else oe = ans) := by
      have h := HA.out
      rw [List.drop_zero]
      by_cases hz : oe = 0
      · rw [if_pos hz] at h; rw [if_pos hz]; exact h
      · rw [if_neg hz] at h; rw [if_neg hz]; exact h
    go_loopw [5, 6] (fun s5 s6 wr => ∃ (i : Nat) (e : Int), i ≤ t.args.length ∧ s6 = .int .i64 i ∧ s5 = .int .i64 e ∧ Hid (if e = 0 then faultL (t.args.drop i) b9 = ans else e = ans) ∧ Hid (Gr w1 wr)) (fun _ s6 _ => t.args.length - (intOf s6).toNat)
    case atStart => exact ⟨0, oe, Nat.zero_le _, rfl, rfl, HF, Gr.refl _⟩
    case round =>
      obtain ⟨i, e, hi, rfl, rfl, HE, HG⟩ := hrel
      have hNr := HN1.out.xt HG.out.xt
      have c0 := hNr.c0
      have c14 := hNr.c14
      simp only [Nat.zero_add] at c0 c14
      by_cases hlt : i < t.args.length
      · have hii : (i : Int) < (t.args.length : Int) := by omega
        by_cases hz : e = 0
        · subst hz
          obtain ⟨u, hx⟩ : ∃ u, t.args[i]? = some u := ⟨t.args[i], by simp [hlt]⟩
          have hdr := drop_at hx
          obtain ⟨n', bk, off, a', c', hn, rfl, hA, hI⟩ := HIN.out.at hx
          have hxw : Xt w wr := (HG1.out.trans HG.out).xt
          have hou := okL_at (NodeT.ok_args HOK.out) hx
          obtain ⟨d0, d1, d2, d3, d4, d5, d6, d7, d8, d9, d10, d11, d12, d13, d14⟩ := hA.xt hxw
          have hf := HE.out
          rw [if_pos rfl, hdr] at hf
          simp only [faultL] at hf
          have HCALL := Lib.hid (IH.out n' (by omega) u a' c' b9 wr.drew hou ((hI.xt hxw).xt (Xt.refl wr).drew))
          have HF2 := Lib.hid hf
          have HP : ∀ fu : Int, Hid ((if fu = 0 then faultL (t.args.drop (i + 1)) b9 else fu) = ans) → Hid (if fu = 0 then faultL (t.args.drop (i + 1)) b9 = ans else fu = ans) := by
            intro fu h
            have h := h.out
            by_cases hz : fu = 0
            · rw [if_pos hz] at h; unfold Hid; rw [if_pos hz]; exact h
            · rw [if_neg hz] at h; unfold Hid; rw [if_neg hz]; exact h
          generalize faultT u b9 = fu at HF2 HCALL
          have HF3 := HP fu HF2
          clear hx hdr hA hI hn hxw hf hou hNr HP
          go_wp2_with fail
          refine wp_region_still_tail 8 (by kernel_rfl) (by kernel_rfl) ?_
          change wpStill _ _ (World.drew _) _ _ _
          simp only [List.take_succ_cons, List.take_zero, List.drop_succ_cons, List.drop_zero]
          still_step
          still_step
          still_step
          still_step
          still_step
          still_step
          still_step
          still_step
          refine wpStill_nil ?_
          change wpList _ _ _ _ _ (World.drew _)
          refine wpList_step (fun K hK => ?_)
          go_simp
          refine (HCALL.out).mono ?_
          rintro e w4 ⟨rfl, hg4⟩
          refine hK _ _ ?_
          have HG4 : Hid (Gr w1 w4) := (HG.out.drew).trans hg4
          clear hK K hg4 d0 d1 d2 d3 d4 d5 d6 d7 d8 d9 d10 d11 d12 d13 d14 c0 c14
          go_wp2_with fail
          go_roundw
          case rel => exact ⟨i + 1, fu, by omega, by go_num, rfl, HF3, HG4⟩
          case measure => simp [intOf]; omega
        · have hzb : (e == 0) = false := by simpa using hz
          have HE2 : Hid (e = ans) := by have h := HE.out; rw [if_neg hz] at h; exact h
          go_wp2_with fail
          go_ret
          exact ⟨congrArg (fun z => Ending.returned (.int .i64 z)) HE2.out, HG1.out.trans HG.out⟩
      · have HE2 : Hid (e = ans) := by
          have h := HE.out
          rw [List.drop_eq_nil_of_le (by omega)] at h
          simp only [faultL] at h
          by_cases hz : e = 0
          · rw [if_pos hz] at h; rw [hz]; exact h
          · rw [if_neg hz] at h; exact h
        go_wp2_with fail
        go_ret
        exact ⟨congrArg (fun z => Ending.returned (.int .i64 z)) HE2.out, HG1.out.trans HG.out⟩

set_option maxRecDepth 100000 in
set_option maxHeartbeats 4000000 in
theorem Check12_any (n : Nat) (t : NodeT) (a : Option Addr) (cap : Nat) (w : World) (hok : t.ok) (hin : ArgsIn w n (.slice a t.args.length cap) t.args) :
    Calls Tryz.prog 70 #[nodeV t a t.args.length cap] w fun e w' => e = .returned (.int .i64 (checkT t)) ∧ Gr w w' := by
  obtain ⟨w0, hw0, hg0, hs0, hN⟩ := boxN w t a t.args.length cap 44
  have HG0 := Lib.hid hg0
  have HN := Lib.hid hN
  have HIN := Lib.hid hin
  have HC := Lib.hid (count12_any n t a cap w0 (hin.xt hg0.xt))
  have HD := Lib.hid (fun w1 (h : Gr w0 w1) => depth12_any n t a cap w1 (hin.xt (hg0.trans h).xt))
  have HF := Lib.hid (fun w1 (h : Gr w0 w1) => first12_any n t a cap false w1 hok (hin.xt (hg0.trans h).xt))
  obtain ⟨c0, c1, c2, c3, c4, c5, c6, c7, c8, c9, c10, c11, c12, c13, c14⟩ := hN
  simp only [Nat.zero_add] at c0 c1 c2 c3 c4 c5 c6 c7 c8 c9 c10 c11 c12 c13 c14
  generalize hans : checkT t = ans
  have HA := Lib.hid hans
  unfold checkT at HA
  generalize (measT t).1 = m1 at HC HA
  generalize (measT t).2 = m2 at HD HA
  generalize faultT t false = ft at HF HA
  clear hans hok hg0 hin
  go_enter Tryz.func70, Tryz.ntmps70
  go_wp2_with fail
  refine (HC.out).mono ?_
  rintro e w1 ⟨rfl, hg1⟩
  have HG1 := Lib.hid hg1
  have hN1 := HN.out.xt hg1.xt
  have HD1 := Lib.hid (HD.out w1 hg1)
  clear hg1 hw0 c0 c1 c2 c3 c4 c5 c6 c7 c8 c9 c10 c11 c12 c13 c14
  obtain ⟨c0, c1, c2, c3, c4, c5, c6, c7, c8, c9, c10, c11, c12, c13, c14⟩ := hN1
  simp only [Nat.zero_add] at c0 c1 c2 c3 c4 c5 c6 c7 c8 c9 c10 c11 c12 c13 c14
  by_cases h1 : 256 < m1
  · rw [if_pos h1] at HA
    go_wp2_with fail
    go_ret
    exact ⟨congrArg (fun z => Ending.returned (.int .i64 z)) HA.out, HG0.out.trans HG1.out⟩
  rw [if_neg h1] at HA
  go_wp2_with fail
  refine (HD1.out).mono ?_
  rintro e w2 ⟨rfl, hg2⟩
  have HG2 := Lib.hid (HG1.out.trans hg2)
  have hN2 := HN.out.xt HG2.out.xt
  have HF2 := Lib.hid (HF.out w2 HG2.out)
  clear hg2 c0 c1 c2 c3 c4 c5 c6 c7 c8 c9 c10 c11 c12 c13 c14
  obtain ⟨c0, c1, c2, c3, c4, c5, c6, c7, c8, c9, c10, c11, c12, c13, c14⟩ := hN2
  simp only [Nat.zero_add] at c0 c1 c2 c3 c4 c5 c6 c7 c8 c9 c10 c11 c12 c13 c14
  by_cases h2 : 32 < m2
  · rw [if_pos h2] at HA
    go_wp2_with fail
    go_ret
    exact ⟨congrArg (fun z => Ending.returned (.int .i64 z)) HA.out, HG0.out.trans HG2.out⟩
  rw [if_neg h2] at HA
  go_wp2_with fail
  refine (HF2.out).mono ?_
  rintro e w3 ⟨rfl, hg3⟩
  have HG3 := Lib.hid (HG2.out.trans hg3)
  clear hg3
  go_wp2_with fail
  go_ret
  exact ⟨congrArg (fun z => Ending.returned (.int .i64 z)) HA.out, HG0.out.trans HG3.out⟩
/-! ### quadrilleref14.Valid -/

set_option maxRecDepth 100000 in
set_option maxHeartbeats 4000000 in
theorem valid14_0 (v : ValT) (w : World) (hk : v.kind = 0) :
    Calls Tryz.prog 69 #[valV v] w fun e w' => e = .returned (.bool (vvalidB v)) ∧ Gr w w' := by
  obtain ⟨w0, hw0, hg0, hs0, c0, c1, c2, c3, c4⟩ := boxV w v 39
  have HG0 := Lib.hid hg0
  have e0 : (v.kind == 0) = true := by rw [hk]; rfl
  have he : vvalidB v = restB v.x v.s v.b v.f := by unfold vvalidB; simp only [hk, reduceIte, Int.reduceEq]
  rw [he]
  clear hg0 he hk
  go_enter Tryz.func69, Tryz.ntmps69
  go_wp2_with fail
  all_goals (go_ret; refine ⟨?_, HG0.out⟩; first | (simp [restB, *]; done) | (simp [restB, *]; omega) | (simp [restB, *]; intros; exfalso; omega) | (cases hb : v.b <;> simp_all [restB]; done) | (by_cases hx : v.x = 0 <;> by_cases hf : v.f = 0 <;> simp_all [restB]; done) | trace_state)
set_option maxRecDepth 100000 in
set_option maxHeartbeats 4000000 in
theorem valid14_1 (v : ValT) (w : World) (hk : v.kind = 1) :
    Calls Tryz.prog 69 #[valV v] w fun e w' => e = .returned (.bool (vvalidB v)) ∧ Gr w w' := by
  obtain ⟨w0, hw0, hg0, hs0, c0, c1, c2, c3, c4⟩ := boxV w v 39
  have HG0 := Lib.hid hg0
  have e0 : (v.kind == 0) = false := by rw [hk]; rfl
  have e1 : (v.kind == 1) = true := by rw [hk]; rfl
  have he : vvalidB v = restB 0 v.s v.b v.f := by unfold vvalidB; simp only [hk, reduceIte, Int.reduceEq]
  rw [he]
  clear hg0 he hk
  go_enter Tryz.func69, Tryz.ntmps69
  go_wp2_with fail
  all_goals (go_ret; refine ⟨?_, HG0.out⟩; first | (simp [restB, *]; done) | (simp [restB, *]; omega) | (simp [restB, *]; intros; exfalso; omega) | (cases hb : v.b <;> simp_all [restB]; done) | (by_cases hx : v.x = 0 <;> by_cases hf : v.f = 0 <;> simp_all [restB]; done) | trace_state)
set_option maxRecDepth 100000 in
set_option maxHeartbeats 4000000 in
theorem valid14_2 (v : ValT) (w : World) (hk : v.kind = 2) (hs : v.s.size < 4611686018427387904) :
    Calls Tryz.prog 69 #[valV v] w fun e w' => e = .returned (.bool (vvalidB v)) ∧ Gr w w' := by
  obtain ⟨w0, hw0, hg0, hs0, c0, c1, c2, c3, c4⟩ := boxV w v 39
  have HG0 := Lib.hid hg0
  have e0 : (v.kind == 0) = false := by rw [hk]; rfl
  have e1 : (v.kind == 1) = false := by rw [hk]; rfl
  have e2 : (v.kind == 2) = true := by rw [hk]; rfl
  have HU := Lib.hid (utf12_any v.s hs)
  have he : vvalidB v = (Lib.validD v.s.data.toList && decide ((v.s.size : Int) ≤ 1024) && restB v.x ⟨#[]⟩ v.b v.f) := by unfold vvalidB; simp only [hk, reduceIte, Int.reduceEq]
  rw [he]
  generalize Lib.validD v.s.data.toList = vd at HU ⊢
  clear hg0 he hk
  go_enter Tryz.func69, Tryz.ntmps69
  go_wp2_with (go_at_call 91; refine (HU.out _).mono ?_; rintro e w' ⟨rfl, rfl⟩)
  all_goals (go_ret; refine ⟨?_, HG0.out⟩; first | (simp [restB, *]; done) | (simp [restB, toList_nil, *]; omega) | (simp [restB, toList_nil, *]; intros; exfalso; omega) | (cases hb : v.b <;> simp_all [restB, toList_nil]; done) | (by_cases hx : v.x = 0 <;> by_cases hf : v.f = 0 <;> simp_all [restB, toList_nil]; done) | trace_state)
set_option maxRecDepth 100000 in
set_option maxHeartbeats 4000000 in
theorem valid14_3 (v : ValT) (w : World) (hk : v.kind = 3) :
    Calls Tryz.prog 69 #[valV v] w fun e w' => e = .returned (.bool (vvalidB v)) ∧ Gr w w' := by
  obtain ⟨w0, hw0, hg0, hs0, c0, c1, c2, c3, c4⟩ := boxV w v 39
  have HG0 := Lib.hid hg0
  have e0 : (v.kind == 0) = false := by rw [hk]; rfl
  have e1 : (v.kind == 1) = false := by rw [hk]; rfl
  have e2 : (v.kind == 2) = false := by rw [hk]; rfl
  have e3 : (v.kind == 3) = true := by rw [hk]; rfl
  have he : vvalidB v = restB v.x v.s false v.f := by unfold vvalidB; simp only [hk, reduceIte, Int.reduceEq]
  rw [he]
  clear hg0 he hk
  go_enter Tryz.func69, Tryz.ntmps69
  go_wp2_with fail
  all_goals (go_ret; refine ⟨?_, HG0.out⟩; first | (simp [restB, *]; done) | (simp [restB, *]; omega) | (simp [restB, *]; intros; exfalso; omega) | (cases hb : v.b <;> simp_all [restB]; done) | (by_cases hx : v.x = 0 <;> by_cases hf : v.f = 0 <;> simp_all [restB]; done) | trace_state)
set_option maxRecDepth 100000 in
set_option maxHeartbeats 4000000 in
theorem valid14_4 (v : ValT) (w : World) (hk : v.kind = 4) :
    Calls Tryz.prog 69 #[valV v] w fun e w' => e = .returned (.bool (vvalidB v)) ∧ Gr w w' := by
  obtain ⟨w0, hw0, hg0, hs0, c0, c1, c2, c3, c4⟩ := boxV w v 39
  have HG0 := Lib.hid hg0
  have e0 : (v.kind == 0) = false := by rw [hk]; rfl
  have e1 : (v.kind == 1) = false := by rw [hk]; rfl
  have e2 : (v.kind == 2) = false := by rw [hk]; rfl
  have e3 : (v.kind == 3) = false := by rw [hk]; rfl
  have e4 : (v.kind == 4) = true := by rw [hk]; rfl
  have he : vvalidB v = (decide (1 ≤ v.f) && decide (v.f ≤ 5) && restB v.x v.s v.b 0) := by unfold vvalidB; simp only [hk, reduceIte, Int.reduceEq]
  rw [he]
  clear hg0 he hk
  go_enter Tryz.func69, Tryz.ntmps69
  go_wp2_with fail
  all_goals (go_ret; refine ⟨?_, HG0.out⟩; first | (simp [restB, *]; done) | (simp [restB, *]; omega) | (simp [restB, toList_nil, *]; intros; exfalso; omega) | (cases hb : v.b <;> simp_all [restB, toList_nil]; done) | (by_cases hx : v.x = 0 <;> by_cases hf : v.f = 0 <;> simp_all [restB, toList_nil]; done) | trace_state)
set_option maxRecDepth 100000 in
set_option maxHeartbeats 4000000 in
theorem valid14_none (v : ValT) (w : World) (h : ¬ (0 ≤ v.kind ∧ v.kind ≤ 4)) :
    Calls Tryz.prog 69 #[valV v] w fun e w' => e = .returned (.bool (vvalidB v)) ∧ Gr w w' := by
  obtain ⟨w0, hw0, hg0, hs0, c0, c1, c2, c3, c4⟩ := boxV w v 39
  have HG0 := Lib.hid hg0
  have e0 : (v.kind == 0) = false := by simp; omega
  have e1 : (v.kind == 1) = false := by simp; omega
  have e2 : (v.kind == 2) = false := by simp; omega
  have e3 : (v.kind == 3) = false := by simp; omega
  have e4 : (v.kind == 4) = false := by simp; omega
  have he : vvalidB v = false := by unfold vvalidB; rw [if_neg (by omega), if_neg (by omega), if_neg (by omega), if_neg (by omega), if_neg (by omega)]
  rw [he]
  clear hg0 he h
  go_enter Tryz.func69, Tryz.ntmps69
  go_wp2_with fail
  all_goals (go_ret; refine ⟨?_, HG0.out⟩; first | (simp [*]; done) | (simp [restB, toList_nil, *]; omega) | (simp [restB, toList_nil, *]; intros; exfalso; omega) | (cases hb : v.b <;> simp_all [restB, toList_nil]; done) | (by_cases hx : v.x = 0 <;> by_cases hf : v.f = 0 <;> simp_all [restB, toList_nil]; done) | trace_state)
theorem valid14_any (v : ValT) (w : World) (hs : v.s.size < 4611686018427387904) :
    Calls Tryz.prog 69 #[valV v] w fun e w' => e = .returned (.bool (vvalidB v)) ∧ Gr w w' := by
  by_cases h0 : v.kind = 0
  · exact valid14_0 v w h0
  by_cases h1 : v.kind = 1
  · exact valid14_1 v w h1
  by_cases h2 : v.kind = 2
  · exact valid14_2 v w h2 hs
  by_cases h3 : v.kind = 3
  · exact valid14_3 v w h3
  by_cases h4 : v.kind = 4
  · exact valid14_4 v w h4
  exact valid14_none v w (by omega)
/-! ### quadrilleref17.Valid -/
set_option maxRecDepth 100000 in
set_option maxHeartbeats 4000000 in
theorem gvalid17_any (n : Nat) (c : ContT) (a : Option Addr) (cap : Nat) (w : World) (hok : c.ok) (hin : ArgsIn w n (.slice a c.t.args.length cap) c.t.args) :
    Calls Tryz.prog 42 #[contV c a c.t.args.length cap] w fun e w' => e = .returned (.bool (gvalidB c)) ∧ Gr w w' := by
  obtain ⟨w0, hw0, hg0, hs0, hC⟩ := boxC w c a c.t.args.length cap 46
  have HG0 := Lib.hid hg0
  have HC := Lib.hid hC
  have H1 := Lib.hid (noValue17_any c.v w0)
  have H2 := Lib.hid (noNode17_any c.t a cap)
  have H3 := Lib.hid (fun w1 => valid14_any c.v w1 hok.1)
  have H4 := Lib.hid (fun w1 (h : Gr w0 w1) => Check12_any n c.t a cap w1 hok.2.1 (hin.xt (hg0.trans h).xt))
  obtain ⟨c0, c1, c2, c3, c4, c5, c6, c7, c8, c9, c10, c11, c12, c13, c14, c15, c16, c17, c18, c19, c20⟩ := hC
  simp only [Nat.zero_add] at c0 c1 c2 c3 c4 c5 c6 c7 c8 c9 c10 c11 c12 c13 c14 c15 c16 c17 c18 c19 c20
  unfold gvalidB
  generalize noValB c.v = nv at H1 ⊢
  generalize noNodeB c.t = nn at H2 ⊢
  generalize vvalidB c.v = vv at H3 ⊢
  generalize checkT c.t = ck at H4 ⊢
  obtain ⟨b0, e0⟩ : ∃ b, (c.kind == 0) = b := ⟨_, rfl⟩
  obtain ⟨b1, e1⟩ : ∃ b, (c.kind == 1) = b := ⟨_, rfl⟩
  obtain ⟨b2, e2⟩ : ∃ b, (c.kind == 2) = b := ⟨_, rfl⟩
  obtain ⟨bv, ev⟩ : ∃ b, (c.v.kind != 0) = b := ⟨_, rfl⟩
  obtain ⟨bc, ec⟩ : ∃ b, (ck == 0) = b := ⟨_, rfl⟩
  rw [e0, e1, e2, ev, ec]
  clear hg0 hok hin
  go_enter Tryz.func42, Tryz.ntmps42
  go_wp2_with fail
  refine (H1.out).mono ?_
  rintro e w1 ⟨rfl, hg1⟩
  have HG1 := Lib.hid hg1
  have hC1 := HC.out.xt hg1.xt
  clear hg1 hw0 c0 c1 c2 c3 c4 c5 c6 c7 c8 c9 c10 c11 c12 c13 c14 c15 c16 c17 c18 c19 c20
  obtain ⟨c0, c1, c2, c3, c4, c5, c6, c7, c8, c9, c10, c11, c12, c13, c14, c15, c16, c17, c18, c19, c20⟩ := hC1
  simp only [Nat.zero_add] at c0 c1 c2 c3 c4 c5 c6 c7 c8 c9 c10 c11 c12 c13 c14 c15 c16 c17 c18 c19 c20
  go_wp2_with fail
  refine (H2.out _).mono ?_
  rintro e w2 ⟨rfl, hg2⟩
  have HG2 := Lib.hid (HG1.out.trans hg2)
  have hC2 := HC.out.xt HG2.out.xt
  have H42 := Lib.hid (H4.out w2 HG2.out)
  clear hg2 c0 c1 c2 c3 c4 c5 c6 c7 c8 c9 c10 c11 c12 c13 c14 c15 c16 c17 c18 c19 c20
  obtain ⟨c0, c1, c2, c3, c4, c5, c6, c7, c8, c9, c10, c11, c12, c13, c14, c15, c16, c17, c18, c19, c20⟩ := hC2
  simp only [Nat.zero_add] at c0 c1 c2 c3 c4 c5 c6 c7 c8 c9 c10 c11 c12 c13 c14 c15 c16 c17 c18 c19 c20
  cases b0
  rotate_left
  · go_wp2_with fail
    all_goals (go_ret; exact ⟨by simp [*], HG0.out.trans HG2.out⟩)
  cases b1
  rotate_left
  · go_wp2_with fail
    refine (H3.out _).mono ?_
    rintro e w3 ⟨rfl, hg3⟩
    have HG3 := Lib.hid (HG2.out.trans hg3)
    have hC3 := HC.out.xt HG3.out.xt
    clear hg3 c0 c1 c2 c3 c4 c5 c6 c7 c8 c9 c10 c11 c12 c13 c14 c15 c16 c17 c18 c19 c20
    obtain ⟨c0, c1, c2, c3, c4, c5, c6, c7, c8, c9, c10, c11, c12, c13, c14, c15, c16, c17, c18, c19, c20⟩ := hC3
    simp only [Nat.zero_add] at c0 c1 c2 c3 c4 c5 c6 c7 c8 c9 c10 c11 c12 c13 c14 c15 c16 c17 c18 c19 c20
    cases nn <;> cases vv <;> cases bv
    all_goals (go_wp2_with fail; all_goals (go_ret; exact ⟨by simp [*], HG0.out.trans HG3.out⟩))
  cases b2
  rotate_left
  · go_wp2_with fail
    refine (H42.out).mono ?_
    rintro e w3 ⟨rfl, hg3⟩
    have HG3 := Lib.hid (HG2.out.trans hg3)
    clear hg3
    cases nv <;> cases bc
    all_goals (go_wp2_with fail; all_goals (go_ret; exact ⟨by simp [*], HG0.out.trans HG3.out⟩))
  · go_wp2_with fail
    go_ret
    exact ⟨rfl, HG0.out.trans HG2.out⟩
end
end Go.Proofs.YtideclfpbpjebaaGreatDoor
