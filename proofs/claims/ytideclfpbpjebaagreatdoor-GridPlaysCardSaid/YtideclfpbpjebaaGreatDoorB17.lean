import Derived.Test.YtideclfpbpjebaaGreatDoorB14
import Derived.Deep.Cut
namespace Go.Proofs.YtideclfpbpjebaaGreatDoor
section
open Go.RowKit Go.Sort
theorem bitsV_any (x : Nat) (w : World) : Calls Tryz.prog 41 #[.float .f64 x] w fun e w' => e = .returned (.int .u64 x) ∧ w = w' := by
  go_enter Tryz.func41, Tryz.ntmps41
  go_wp2
  go_ret
  exact ⟨rfl, rfl⟩
noncomputable def eqB (a b : NodeT) : Bool := @decide (a = b) (Classical.propDecidable _)
noncomputable def eqLB (a b : List NodeT) : Bool := @decide (a = b) (Classical.propDecidable _)
theorem eqB_iff (a b : NodeT) : eqB a b = true ↔ a = b := @decide_eq_true_iff _ (Classical.propDecidable _)
theorem eqLB_iff (a b : List NodeT) : eqLB a b = true ↔ a = b := @decide_eq_true_iff _ (Classical.propDecidable _)
theorem eqLB_nil : eqLB [] [] = true := (eqLB_iff _ _).2 rfl
theorem eqLB_cons (x y : NodeT) (a b : List NodeT) : eqLB (x :: a) (y :: b) = (eqB x y && eqLB a b) := by
  rw [Bool.eq_iff_iff, Bool.and_eq_true]; simp only [eqLB_iff, eqB_iff, List.cons.injEq]
/-- All but the args, and how many these are. -/
def headB (a b : NodeT) : Bool := (a.kind == b.kind) && (a.op == b.op) && (((a.x : Nat) : Int) == ((b.x : Nat) : Int)) && (a.s.toList == b.s.toList) && (a.b == b.b) && (a.f == b.f) && refB a.ref b.ref && refB a.to b.to
theorem eqB_eq (a b : NodeT) : eqB a b = (headB a b && ((a.args.length : Int) == (b.args.length : Int)) && eqLB a.args b.args) := by
  obtain ⟨k, o, x, s, bb, f, r, q, l⟩ := a
  obtain ⟨k', o', x', s', bb', f', r', q', l'⟩ := b
  rw [Bool.eq_iff_iff]
  simp only [eqB_iff, eqLB_iff, headB, Bool.and_eq_true, beq_iff_eq, refB_eq, toList_eq, NodeT.kind, NodeT.op, NodeT.x, NodeT.s, NodeT.b, NodeT.f, NodeT.ref, NodeT.to, NodeT.args, NodeT.mk.injEq]
  constructor
  · rintro ⟨h1, h2, h3, h4, h5, h6, h7, h8, h9⟩
    exact ⟨⟨⟨⟨⟨⟨⟨⟨⟨h1, h2⟩, by omega⟩, h4⟩, h5⟩, h6⟩, h7⟩, h8⟩, by rw [h9]⟩, h9⟩
  · rintro ⟨⟨⟨⟨⟨⟨⟨⟨⟨h1, h2⟩, h3⟩, h4⟩, h5⟩, h6⟩, h7⟩, h8⟩, _⟩, h9⟩
    exact ⟨h1, h2, by omega, h4, h5, h6, h7, h8, h9⟩
theorem same_nosameN_any {a b : NodeT} {l l' : List NodeT} (h : (headB a b && ((a.args.length : Int) == (b.args.length : Int))) = false) : (headB a b && ((a.args.length : Int) == (b.args.length : Int)) && eqLB l l') = false := by rw [h]; rfl
theorem same_yessameN_any {a b : NodeT} {l l' : List NodeT} (h : (headB a b && ((a.args.length : Int) == (b.args.length : Int))) = true) : (headB a b && ((a.args.length : Int) == (b.args.length : Int)) && eqLB l l') = eqLB l l' := by rw [h]; rfl
def SameNIs (n : Nat) : Prop := ∀ (a b : NodeT) (aa ba : Option Addr) (ac bc : Nat) (w : World), ArgsIn w n (.slice aa a.args.length ac) a.args → ArgsIn w n (.slice ba b.args.length bc) b.args →
  Calls Tryz.prog 40 #[nodeV a aa a.args.length ac, nodeV b ba b.args.length bc] w fun e w' => e = .returned (.bool (eqB a b)) ∧ Gr w w'
set_option maxRecDepth 100000 in
set_option maxHeartbeats 8000000 in
theorem sameN_any : ∀ n, SameNIs n := by
  intro n
  induction n using Nat.strongRecOn with
  | ind n ih =>
    intro a b aa ba ac bc w ha hb
    obtain ⟨w0, hw0, hg0, hs0, hN⟩ := boxN w a aa a.args.length ac 44
    obtain ⟨w1, hw1, hg1, hs1, hM⟩ := boxN w0 b ba b.args.length bc 44
    rw [hs0] at hM hs1
    have hN := hN.xt hg1.xt
    obtain ⟨k0, k1, k2, k3, k4, k5, k6, k7, k8, k9, k10, k11, k12, k13, k14⟩ := hN
    simp only [Nat.zero_add] at k0 k1 k2 k3 k4 k5 k6 k7 k8 k9 k10 k11 k12 k13 k14
    obtain ⟨m0, m1, m2, m3, m4, m5, m6, m7, m8, m9, m10, m11, m12, m13, m14⟩ := hM
    simp only [Nat.zero_add] at m0 m1 m2 m3 m4 m5 m6 m7 m8 m9 m10 m11 m12 m13 m14
    have HG := Lib.hid (hg0.trans hg1)
    have HS := Lib.hid (eqB_eq a b)
    have HA := Lib.hid ha
    have HB := Lib.hid hb
    have IH := Lib.hid ih
    obtain ⟨_, _, e1, ql1, ql2⟩ := ha.shape
    cases e1
    obtain ⟨_, _, e2, qm1, qm2⟩ := hb.shape
    cases e2
    generalize eqB a b = ans at HS ⊢
    clear ih ha hb hg0 hg1
    cases h0 : (a.kind == b.kind)
    · have hn0 : (a.kind != b.kind) = true := by unfold bne; rw [h0]; rfl
      go_enter Tryz.func40, Tryz.ntmps40
      go_wp2_with fail
      try simp only [List.append_eq, List.cons_append, List.nil_append]
      go_quiet (first | ((go_at_call 41; exact Calls.quiet_of_same ((bitsV_any _ _).mono fun _ _ h => ⟨h.1, h.2.symm⟩))))
      go_wp2_with fail
      go_ret
      refine ⟨?_, HG.out.drewN _⟩
      rw [HS.out]
      refine congrArg (fun z => Ending.returned (.bool z)) (Eq.symm ?_)
      exact same_nosameN_any (by simp [headB, h0])
    have hn0 : (a.kind != b.kind) = false := by unfold bne; rw [h0]; rfl
    have E0 := Lib.hid h0
    cases h1 : (a.op == b.op)
    · have hn1 : (a.op != b.op) = true := by unfold bne; rw [h1]; rfl
      go_enter Tryz.func40, Tryz.ntmps40
      go_wp2_with fail
      try simp only [List.append_eq, List.cons_append, List.nil_append]
      go_quiet (first | ((go_at_call 41; exact Calls.quiet_of_same ((bitsV_any _ _).mono fun _ _ h => ⟨h.1, h.2.symm⟩))))
      go_wp2_with fail
      go_ret
      refine ⟨?_, HG.out.drewN _⟩
      rw [HS.out]
      refine congrArg (fun z => Ending.returned (.bool z)) (Eq.symm ?_)
      exact same_nosameN_any (by simp [headB, h1, E0.out])
    have hn1 : (a.op != b.op) = false := by unfold bne; rw [h1]; rfl
    have E1 := Lib.hid h1
    cases h2 : (((a.x : Nat) : Int) == ((b.x : Nat) : Int))
    · have hn2 : (((a.x : Nat) : Int) != ((b.x : Nat) : Int)) = true := by unfold bne; rw [h2]; rfl
      go_enter Tryz.func40, Tryz.ntmps40
      go_wp2_with fail
      try simp only [List.append_eq, List.cons_append, List.nil_append]
      go_quiet (first | ((go_at_call 41; exact Calls.quiet_of_same ((bitsV_any _ _).mono fun _ _ h => ⟨h.1, h.2.symm⟩))))
      go_wp2_with fail
      go_ret
      refine ⟨?_, HG.out.drewN _⟩
      rw [HS.out]
      refine congrArg (fun z => Ending.returned (.bool z)) (Eq.symm ?_)
      exact same_nosameN_any (by simp [headB, h2, E0.out, E1.out])
    have hn2 : (((a.x : Nat) : Int) != ((b.x : Nat) : Int)) = false := by unfold bne; rw [h2]; rfl
    have E2 := Lib.hid h2
    cases h3 : (a.s.toList == b.s.toList)
    · have hn3 : (a.s.toList != b.s.toList) = true := by unfold bne; rw [h3]; rfl
      go_enter Tryz.func40, Tryz.ntmps40
      go_wp2_with fail
      try simp only [List.append_eq, List.cons_append, List.nil_append]
      go_quiet (first | ((go_at_call 41; exact Calls.quiet_of_same ((bitsV_any _ _).mono fun _ _ h => ⟨h.1, h.2.symm⟩))))
      go_wp2_with fail
      go_ret
      refine ⟨?_, HG.out.drewN _⟩
      rw [HS.out]
      refine congrArg (fun z => Ending.returned (.bool z)) (Eq.symm ?_)
      exact same_nosameN_any (by simp [headB, h3, E0.out, E1.out, E2.out])
    have hn3 : (a.s.toList != b.s.toList) = false := by unfold bne; rw [h3]; rfl
    have E3 := Lib.hid h3
    cases h4 : (a.b == b.b)
    · have hn4 : (a.b != b.b) = true := by unfold bne; rw [h4]; rfl
      go_enter Tryz.func40, Tryz.ntmps40
      go_wp2_with fail
      try simp only [List.append_eq, List.cons_append, List.nil_append]
      go_quiet (first | ((go_at_call 41; exact Calls.quiet_of_same ((bitsV_any _ _).mono fun _ _ h => ⟨h.1, h.2.symm⟩))))
      go_wp2_with fail
      go_ret
      refine ⟨?_, HG.out.drewN _⟩
      rw [HS.out]
      refine congrArg (fun z => Ending.returned (.bool z)) (Eq.symm ?_)
      exact same_nosameN_any (by simp [headB, h4, E0.out, E1.out, E2.out, E3.out])
    have hn4 : (a.b != b.b) = false := by unfold bne; rw [h4]; rfl
    have E4 := Lib.hid h4
    cases h5 : (a.f == b.f)
    · have hn5 : (a.f != b.f) = true := by unfold bne; rw [h5]; rfl
      go_enter Tryz.func40, Tryz.ntmps40
      go_wp2_with fail
      try simp only [List.append_eq, List.cons_append, List.nil_append]
      go_quiet (first | ((go_at_call 41; exact Calls.quiet_of_same ((bitsV_any _ _).mono fun _ _ h => ⟨h.1, h.2.symm⟩))))
      go_wp2_with fail
      go_ret
      refine ⟨?_, HG.out.drewN _⟩
      rw [HS.out]
      refine congrArg (fun z => Ending.returned (.bool z)) (Eq.symm ?_)
      exact same_nosameN_any (by simp [headB, h5, E0.out, E1.out, E2.out, E3.out, E4.out])
    have hn5 : (a.f != b.f) = false := by unfold bne; rw [h5]; rfl
    have E5 := Lib.hid h5
    cases h6 : refB a.ref b.ref
    · have hn6 : (!refB a.ref b.ref) = true := by rw [h6]; rfl
      go_enter Tryz.func40, Tryz.ntmps40
      go_wp2_with fail
      try simp only [List.append_eq, List.cons_append, List.nil_append]
      go_quiet (first | ((go_at_call 41; exact Calls.quiet_of_same ((bitsV_any _ _).mono fun _ _ h => ⟨h.1, h.2.symm⟩))))
      go_wp2_with fail
      go_ret
      refine ⟨?_, HG.out.drewN _⟩
      rw [HS.out]
      refine congrArg (fun z => Ending.returned (.bool z)) (Eq.symm ?_)
      exact same_nosameN_any (by simp [headB, h6, E0.out, E1.out, E2.out, E3.out, E4.out, E5.out])
    have E6 := Lib.hid h6
    cases h7 : refB a.to b.to
    · have hn7 : (!refB a.to b.to) = true := by rw [h7]; rfl
      go_enter Tryz.func40, Tryz.ntmps40
      go_wp2_with fail
      try simp only [List.append_eq, List.cons_append, List.nil_append]
      go_quiet (first | ((go_at_call 41; exact Calls.quiet_of_same ((bitsV_any _ _).mono fun _ _ h => ⟨h.1, h.2.symm⟩))))
      go_wp2_with fail
      go_ret
      refine ⟨?_, HG.out.drewN _⟩
      rw [HS.out]
      refine congrArg (fun z => Ending.returned (.bool z)) (Eq.symm ?_)
      exact same_nosameN_any (by simp [headB, h7, E0.out, E1.out, E2.out, E3.out, E4.out, E5.out, E6.out])
    have E7 := Lib.hid h7
    cases h8 : ((a.args.length : Int) == (b.args.length : Int))
    · have hn8 : ((a.args.length : Int) != (b.args.length : Int)) = true := by unfold bne; rw [h8]; rfl
      go_enter Tryz.func40, Tryz.ntmps40
      go_wp2_with fail
      try simp only [List.append_eq, List.cons_append, List.nil_append]
      go_quiet (first | ((go_at_call 41; exact Calls.quiet_of_same ((bitsV_any _ _).mono fun _ _ h => ⟨h.1, h.2.symm⟩))))
      go_wp2_with fail
      go_ret
      refine ⟨?_, HG.out.drewN _⟩
      rw [HS.out]
      refine congrArg (fun z => Ending.returned (.bool z)) (Eq.symm ?_)
      exact same_nosameN_any (by simp [headB, h8, E0.out, E1.out, E2.out, E3.out, E4.out, E5.out, E6.out, E7.out])
    have hn8 : ((a.args.length : Int) != (b.args.length : Int)) = false := by unfold bne; rw [h8]; rfl
    have E8 := Lib.hid h8
    have hll : a.args.length = b.args.length := by have := of_eq_of_beq_len h8; exact this
    have HL := Lib.hid hll
    clear hll
    have HS2 : Hid (ans = eqLB a.args b.args) := by
      unfold Hid
      rw [HS.out]
      exact same_yessameN_any (by simp [headB, h8, E0.out, E1.out, E2.out, E3.out, E4.out, E5.out, E6.out, E7.out])
    go_enter Tryz.func40, Tryz.ntmps40
    go_wp2_with fail
    try simp only [List.append_eq, List.cons_append, List.nil_append]
    go_quiet (first | ((go_at_call 41; exact Calls.quiet_of_same ((bitsV_any _ _).mono fun _ _ h => ⟨h.1, h.2.symm⟩))))
    go_wp2_with fail
    obtain ⟨wn, hwn⟩ : ∃ wn, w1.drewN nq = wn := ⟨_, rfl⟩
    have HGN : Hid (Gr w wn) := by rw [← hwn]; exact HG.out.drewN _
    have k14n : wn.cell? ⟨w.heap.size, 14, none⟩ = some (.slice aa a.args.length ac) := by rw [← hwn]; exact k14
    have m14n : wn.cell? ⟨w.heap.size + 1, 14, none⟩ = some (.slice ba b.args.length bc) := by rw [← hwn]; exact m14
    have hszn : wn.heap.size = w.heap.size + 1 + 1 := by rw [← hwn]; exact hs1
    rw [hwn]
    clear hwn hw1 hw0 hs0 hs1 k14 m14
    clear k0 k1 k2 k3 k4 k5 k6 k7 k8 k9 k10 k11 k12 k13 m0 m1 m2 m3 m4 m5 m6 m7 m8 m9 m10 m11 m12 m13
    clear h0 h1 h2 h3 h4 h5 h6 h7 h8 HG HS
    go_loopw [5] (fun s wr => ∃ i : Nat, i ≤ a.args.length ∧ s = .int .i64 i ∧ Hid (Gr wn wr) ∧ Hid (ans = eqLB (a.args.drop i) (b.args.drop i))) (fun s _ => a.args.length - (intOf s).toNat)
    case atStart => exact ⟨0, Nat.zero_le _, rfl, Gr.refl _, HS2⟩
    case round =>
      obtain ⟨i, hi, rfl, HGr, HSi⟩ := hrel
      have c14 := ((HGr.out.xt.cells).1 w.heap.size 14 (by omega)).trans k14n
      have b14 := ((HGr.out.xt.cells).1 (w.heap.size + 1) 14 (by omega)).trans m14n
      by_cases hlt : i < a.args.length
      · obtain ⟨x, hx⟩ : ∃ x, a.args[i]? = some x := ⟨a.args[i], by simp [hlt]⟩
        obtain ⟨y, hy⟩ : ∃ y, b.args[i]? = some y := ⟨b.args[i]'(by have := HL.out; omega), by simp⟩
        obtain ⟨n', bx, ox, xa, xc, hn', rfl, hNx, hAx⟩ := HA.out.at hx
        obtain ⟨n2, by', oy, ya, yc, hn2, rfl, hNy, hAy⟩ := HB.out.at hy
        obtain rfl : n' = n2 := by omega
        have hxw : Xt w wr := (HGN.out.trans HGr.out).xt
        have hNx := hNx.xt hxw
        have hNy := hNy.xt hxw
        obtain ⟨d0, d1, d2, d3, d4, d5, d6, d7, d8, d9, d10, d11, d12, d13, d14⟩ := hNx
        obtain ⟨f0, f1, f2, f3, f4, f5, f6, f7, f8, f9, f10, f11, f12, f13, f14⟩ := hNy
        have hki : (i : Int) < (a.args.length : Int) := by omega
        have hkj : (i : Int) < (b.args.length : Int) := by have := HL.out; omega
        have HC := Lib.hid (IH.out n' (by omega) x y xa ya xc yc wr.drew ((hAx.xt hxw).xt (Xt.refl wr).drew) ((hAy.xt hxw).xt (Xt.refl wr).drew))
        have HE : Hid (eqLB (a.args.drop i) (b.args.drop i) = (eqB x y && eqLB (a.args.drop (i + 1)) (b.args.drop (i + 1)))) := by
          unfold Hid
          rw [drop_at hx, drop_at hy, eqLB_cons]
        generalize eqB x y = rb at HC HE
        clear hAx hAy hx hy hxw hn' hn2
        go_wp2_with fail
        refine wp_region_still_tail 10 (by kernel_rfl) (by kernel_rfl) ?_
        change wpStill _ _ (World.drew _) _ _ _
        simp only [List.take_succ_cons, List.take_zero, List.drop_succ_cons, List.drop_zero]
        still_step
        still_step
        still_step
        still_step
        still_step
        still_step
        still_step
        still_step
        still_step
        still_step
        refine wpStill_nil ?_
        change wpList _ _ _ _ _ (World.drew _)
        refine wpList_step (fun K hK => ?_)
        go_simp
        refine (HC.out).mono ?_
        rintro e w4 ⟨rfl, hg4⟩
        refine hK _ _ ?_
        have HG4 : Hid (Gr wn w4) := (HGr.out.drew).trans hg4
        clear hK K hg4 d0 d1 d2 d3 d4 d5 d6 d7 d8 d9 d10 d11 d12 d13 d14 f0 f1 f2 f3 f4 f5 f6 f7 f8 f9 f10 f11 f12 f13 f14 c14 b14
        cases rb
        · go_wp2_with fail
          go_ret
          exact ⟨by rw [HSi.out, HE.out]; rfl, HGN.out.trans HG4.out⟩
        · go_wp2_with fail
          go_roundw
          case rel => exact ⟨i + 1, by omega, by go_num, HG4, by unfold Hid; rw [HSi.out, HE.out]; rfl⟩
          case measure => simp [intOf]; omega
      · have he : i = a.args.length := by omega
        subst he
        go_wp2_with fail
        go_ret
        have hb : b.args.length = a.args.length := HL.out.symm
        exact ⟨by rw [HSi.out, List.drop_length, ← hb, List.drop_length, eqLB_nil]; rfl, HGN.out.trans HGr.out⟩
end
end Go.Proofs.YtideclfpbpjebaaGreatDoor
