/- quadrilleref12.own, first and Check: a formula's first error, by the document (made by mkv11.py). -/
import Derived.Test.YtlgkaipgdhcajaaGreatDoorA15
import Derived.Test.YtlgkaipgdhcajaaGreatDoorV8
import Derived.Test.YtlgkaipgdhcajaaGreatDoorV4
import Derived.Test.YtlgkaipgdhcajaaGreatDoorW18
namespace Go.Proofs.YtlgkaipgdhcajaaGreatDoor
open Go.RowKit Go.Sort

def ownErr (mb b5 b6 b9 vb va k3 lo hi ins : Bool) : Int :=
  if mb then (if (b5 && !vb) || (b6 && !va) then 20 else if b9 && !k3 then 21 else if b9 && (lo || hi) then 22 else if b6 && !ins then 31 else 0) else 1
def own12T (t : NodeT) (ins : Bool) : Int := ownErr (madeB t) (t.kind == 5) (t.kind == 6) (t.kind == 9) (validB t.ref.a.1 t.ref.a.2) (validA t.ref.a.1 t.ref.a.2 t.to.a.1 t.to.a.2) (knownF t.s.toList).2.2 (decide ((t.args.length : Int) < (knownF t.s.toList).1)) (decide ((knownF t.s.toList).2.1 < (t.args.length : Int))) ins
theorem fault_own (t : NodeT) (ins : Bool) : faultT t ins = if own12T t ins = 0 then faultL t.args (t.kind == 9) else own12T t ins := by
  rw [faultT_eq]
  unfold own12T ownErr validA
  generalize hv : (validB t.ref.a.1 t.ref.a.2 && validB t.to.a.1 t.to.a.2 && decide (t.ref.a.1 ≤ t.to.a.1) && decide (t.ref.a.2 ≤ t.to.a.2)) = va
  cases madeB t
  · simp
  · by_cases h5 : t.kind = 5
    · simp only [h5]; cases validB t.ref.a.1 t.ref.a.2 <;> simp
    · by_cases h6 : t.kind = 6
      · simp only [h6]; cases va <;> cases ins <;> simp
      · by_cases h9 : t.kind = 9
        · simp only [h9]
          cases (knownF t.s.toList).2.2
          · simp
          · by_cases h1 : (t.args.length : Int) < (knownF t.s.toList).1
            · simp [h1]
            · by_cases h2 : (knownF t.s.toList).2.1 < (t.args.length : Int)
              · simp [h1, h2]
              · simp [h1, h2]
        · have e5 : (t.kind == 5) = false := by simpa using h5
          have e6 : (t.kind == 6) = false := by simpa using h6
          have e9 : (t.kind == 9) = false := by simpa using h9
          simp [e5, e6, e9]
set_option maxRecDepth 100000 in
set_option maxHeartbeats 4000000 in
theorem own12_any (t : NodeT) (a : Option Addr) (cap : Nat) (ins : Bool) (w : World) (hok : t.ok) :
    Calls Tryz.prog 94 #[nodeV t a t.args.length cap, .bool ins] w fun e w' => e = .returned (.int .i64 (own12T t ins)) ∧ Gr w w' := by
  obtain ⟨w0, hw0, hg0, hs0, hN⟩ := boxN w t a t.args.length cap 29
  have HN := Lib.hid hN
  obtain ⟨c0, c1, c2, c3, c4, c5, c6, c7, c8, c9, c10, c11, c12, c13, c14⟩ := hN
  simp only [Nat.zero_add] at c0 c1 c2 c3 c4 c5 c6 c7 c8 c9 c10 c11 c12 c13 c14
  have HG0 := Lib.hid hg0
  have HM := Lib.hid (Made12_any t a cap · hok)
  have HK := Lib.hid (Known12_any t.s)
  have HV := Lib.hid (valid10_any t.ref.a.1 t.ref.a.2)
  have HA := Lib.hid (validArea10_any t.ref.a.1 t.ref.a.2 t.to.a.1 t.to.a.2)
  unfold own12T
  generalize madeB t = mb at HM ⊢
  generalize knownF t.s.toList = kn at HK ⊢
  obtain ⟨k1, k2, k3⟩ := kn
  simp only at HK ⊢
  generalize validB t.ref.a.1 t.ref.a.2 = vb at HV ⊢
  generalize validA t.ref.a.1 t.ref.a.2 t.to.a.1 t.to.a.2 = va at HA ⊢
  obtain ⟨b5, e5⟩ : ∃ b, (t.kind == 5) = b := ⟨_, rfl⟩
  obtain ⟨b6, e6⟩ : ∃ b, (t.kind == 6) = b := ⟨_, rfl⟩
  obtain ⟨b9, e9⟩ : ∃ b, (t.kind == 9) = b := ⟨_, rfl⟩
  obtain ⟨lo, elo⟩ : ∃ b, decide ((t.args.length : Int) < k1) = b := ⟨_, rfl⟩
  obtain ⟨hi, ehi⟩ : ∃ b, decide (k2 < (t.args.length : Int)) = b := ⟨_, rfl⟩
  rw [e5, e6, e9, elo, ehi]
  clear hg0 hok
  go_enter Tryz.func94, Tryz.ntmps94
  go_wp2_with fail
  refine (HM.out _).mono ?_
  rintro e w1 ⟨rfl, hg1⟩
  have HG1 := Lib.hid (HG0.out.trans hg1)
  have hN1 := HN.out.xt hg1.xt
  have HN1 := Lib.hid hN1
  clear hg1 hw0 c0 c1 c2 c3 c4 c5 c6 c7 c8 c9 c10 c11 c12 c13 c14
  obtain ⟨c0, c1, c2, c3, c4, c5, c6, c7, c8, c9, c10, c11, c12, c13, c14⟩ := hN1
  simp only [Nat.zero_add] at c0 c1 c2 c3 c4 c5 c6 c7 c8 c9 c10 c11 c12 c13 c14
  go_wp2_with (first | (go_at_call 112; refine (HK.out _).mono ?_; rintro e w' ⟨rfl, rfl⟩))
  refine (HV.out _).mono ?_
  rintro e w2 ⟨rfl, rfl⟩
  have hN2 := HN1.out.xt ((Xt.refl w1).alloc (.cells #[.int .i64 t.ref.a.1, .int .i64 t.ref.a.2] 24))
  have HG2 : Hid (Gr w (w1.alloc (.cells #[.int .i64 t.ref.a.1, .int .i64 t.ref.a.2] 24))) := HG1.out.alloc _
  generalize w1.alloc (.cells #[.int .i64 t.ref.a.1, .int .i64 t.ref.a.2] 24) = w2 at hN2 HG2 ⊢
  have HN2 := Lib.hid hN2
  clear c0 c1 c2 c3 c4 c5 c6 c7 c8 c9 c10 c11 c12 c13 c14
  obtain ⟨c0, c1, c2, c3, c4, c5, c6, c7, c8, c9, c10, c11, c12, c13, c14⟩ := hN2
  simp only [Nat.zero_add] at c0 c1 c2 c3 c4 c5 c6 c7 c8 c9 c10 c11 c12 c13 c14
  go_wp2_with fail
  refine (HA.out _).mono ?_
  rintro e w3 ⟨rfl, hg3⟩
  have hN3 := HN2.out.xt hg3.xt
  have HG3 := Lib.hid (HG2.out.trans hg3)
  clear hg3 c0 c1 c2 c3 c4 c5 c6 c7 c8 c9 c10 c11 c12 c13 c14
  obtain ⟨c0, c1, c2, c3, c4, c5, c6, c7, c8, c9, c10, c11, c12, c13, c14⟩ := hN3
  simp only [Nat.zero_add] at c0 c1 c2 c3 c4 c5 c6 c7 c8 c9 c10 c11 c12 c13 c14
  cases mb
  · go_wp2_with fail
    go_ret
    exact ⟨rfl, HG3.out⟩
  cases b5 <;> cases b6 <;> cases b9
  all_goals
    go_wp2_with fail
    all_goals (go_ret; refine ⟨?_, HG3.out⟩; first | (simp [ownErr, *]; done) | (subst elo ehi; simp [ownErr, *]; done) | (subst elo ehi; simp [ownErr, *]; omega))
set_option maxRecDepth 100000 in
set_option maxHeartbeats 4000000 in
theorem first12_any : ∀ (n : Nat) (t : NodeT) (a : Option Addr) (cap : Nat) (ins : Bool) (w : World), t.ok → ArgsIn w n (.slice a t.args.length cap) t.args →
    Calls Tryz.prog 77 #[nodeV t a t.args.length cap, .bool ins] w fun e w' => e = .returned (.int .i64 (faultT t ins)) ∧ Gr w w' := by
  intro n
  induction n using Nat.strongRecOn with
  | ind n ih =>
    intro t a cap ins w hok hin
    have HIN := Lib.hid hin
    obtain ⟨_, _, he, q1, q2⟩ := hin.shape
    cases he
    have IH := Lib.hid ih
    have HOK := Lib.hid hok
    obtain ⟨w0, hw0, hg0, hs0, hN⟩ := boxN w t a t.args.length cap 29
    have HG0 := Lib.hid hg0
    have HN := Lib.hid hN
    obtain ⟨c0, c1, c2, c3, c4, c5, c6, c7, c8, c9, c10, c11, c12, c13, c14⟩ := hN
    simp only [Nat.zero_add] at c0 c1 c2 c3 c4 c5 c6 c7 c8 c9 c10 c11 c12 c13 c14
    have HO := Lib.hid (own12_any t a cap ins · hok)
    generalize hans : faultT t ins = ans
    have HA := Lib.hid hans
    rw [fault_own] at HA
    generalize own12T t ins = oe at HO HA
    obtain ⟨b9, e9⟩ : ∃ b, (t.kind == 9) = b := ⟨_, rfl⟩
    rw [e9] at HA
    clear hin hg0 ih hok hans
    go_enter Tryz.func77, Tryz.ntmps77
    go_wp2_with fail
    refine (HO.out _).mono ?_
    rintro e w1 ⟨rfl, hg1⟩
    have HG1 := Lib.hid (HG0.out.trans hg1)
    have hN1 := HN.out.xt hg1.xt
    have HN1 := Lib.hid hN1
    clear hg1 hw0 c0 c1 c2 c3 c4 c5 c6 c7 c8 c9 c10 c11 c12 c13 c14 hN1
    have hsz1 : w.heap.size < w1.heap.size := World.block_lt_of_cell? _ _ HN1.out.c0
    go_wp2_with fail
    have HF : Hid (if oe = 0 then faultL (t.args.drop 0) b9 = ans else oe = ans) := by
      have h := HA.out
      rw [List.drop_zero]
      by_cases hz : oe = 0
      · rw [if_pos hz] at h; rw [if_pos hz]; exact h
      · rw [if_neg hz] at h; rw [if_neg hz]; exact h
    go_loopw [5, 6] (fun s5 s6 wr => ∃ (i : Nat) (e : Int), i ≤ t.args.length ∧ s6 = .int .i64 i ∧ s5 = .int .i64 e ∧ Hid (if e = 0 then faultL (t.args.drop i) b9 = ans else e = ans) ∧ Hid (Gr w1 wr)) (fun _ s6 _ => t.args.length - (intOf s6).toNat)
    case atStart => exact ⟨0, oe, Nat.zero_le _, rfl, rfl, HF, Gr.refl _⟩
    case round =>
      obtain ⟨i, e, hi, rfl, rfl, HE, HG⟩ := hrel
      have hNr := HN1.out.xt HG.out.xt
      have c0 := hNr.c0
      have c14 := hNr.c14
      simp only [Nat.zero_add] at c0 c14
      by_cases hlt : i < t.args.length
      · have hii : (i : Int) < (t.args.length : Int) := by omega
        by_cases hz : e = 0
        · subst hz
          obtain ⟨u, hx⟩ : ∃ u, t.args[i]? = some u := ⟨t.args[i], by simp [hlt]⟩
          have hdr := drop_at hx
          obtain ⟨n', bk, off, a', c', hn, rfl, hA, hI⟩ := HIN.out.at hx
          have hxw : Xt w wr := (HG1.out.trans HG.out).xt
          have hou := okL_at (NodeT.ok_args HOK.out) hx
          obtain ⟨d0, d1, d2, d3, d4, d5, d6, d7, d8, d9, d10, d11, d12, d13, d14⟩ := hA.xt hxw
          have hf := HE.out
          rw [if_pos rfl, hdr] at hf
          simp only [faultL] at hf
          have HCALL := Lib.hid (IH.out n' (by omega) u a' c' b9 wr.drew hou ((hI.xt hxw).xt (Xt.refl wr).drew))
          have HF2 := Lib.hid hf
          have HP : ∀ fu : Int, Hid ((if fu = 0 then faultL (t.args.drop (i + 1)) b9 else fu) = ans) → Hid (if fu = 0 then faultL (t.args.drop (i + 1)) b9 = ans else fu = ans) := by
            intro fu h
            have h := h.out
            by_cases hz : fu = 0
            · rw [if_pos hz] at h; unfold Hid; rw [if_pos hz]; exact h
            · rw [if_neg hz] at h; unfold Hid; rw [if_neg hz]; exact h
          generalize faultT u b9 = fu at HF2 HCALL
          have HF3 := HP fu HF2
          clear hx hdr hA hI hn hxw hf hou hNr HP
          go_wp2_with fail
          refine wp_region_still_tail 8 (by kernel_rfl) (by kernel_rfl) ?_
          change wpStill _ _ (World.drew _) _ _ _
          simp only [List.take_succ_cons, List.take_zero, List.drop_succ_cons, List.drop_zero]
          still_step
          still_step
          still_step
          still_step
          still_step
          still_step
          still_step
          still_step
          refine wpStill_nil ?_
          change wpList _ _ _ _ _ (World.drew _)
          refine wpList_step (fun K hK => ?_)
          go_simp
          refine (HCALL.out).mono ?_
          rintro e w4 ⟨rfl, hg4⟩
          refine hK _ _ ?_
          have HG4 : Hid (Gr w1 w4) := (HG.out.drew).trans hg4
          clear hK K hg4 d0 d1 d2 d3 d4 d5 d6 d7 d8 d9 d10 d11 d12 d13 d14 c0 c14
          go_wp2_with fail
          go_roundw
          case rel => exact ⟨i + 1, fu, by omega, by go_num, rfl, HF3, HG4⟩
          case measure => simp [intOf]; omega
        · have hzb : (e == 0) = false := by simpa using hz
          have HE2 : Hid (e = ans) := by have h := HE.out; rw [if_neg hz] at h; exact h
          go_wp2_with fail
          go_ret
          exact ⟨congrArg (fun z => Ending.returned (.int .i64 z)) HE2.out, HG1.out.trans HG.out⟩
      · have HE2 : Hid (e = ans) := by
          have h := HE.out
          rw [List.drop_eq_nil_of_le (by omega)] at h
          simp only [faultL] at h
          by_cases hz : e = 0
          · rw [if_pos hz] at h; rw [hz]; exact h
          · rw [if_neg hz] at h; exact h
        go_wp2_with fail
        go_ret
        exact ⟨congrArg (fun z => Ending.returned (.int .i64 z)) HE2.out, HG1.out.trans HG.out⟩
end Go.Proofs.YtlgkaipgdhcajaaGreatDoor
