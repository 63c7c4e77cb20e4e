import Derived.Test.YtideclfpbpjebaaGreatDoorB5
import Derived.Deep.MidRow
namespace Go.Proofs.YtideclfpbpjebaaGreatDoor
section
open Go.RowKit Go.Sort

/-! ### formula.Same -/
theorem toList_eq (a b : ByteArray) : a.toList = b.toList ↔ a = b := by
  constructor
  · intro h
    obtain ⟨⟨x⟩⟩ := a
    obtain ⟨⟨y⟩⟩ := b
    have hx : x = y := by simpa using h
    rw [hx]
  · rintro rfl; rfl
theorem refB_eq (r q : RefT) : refB r q = true ↔ r = q := by
  obtain ⟨⟨a, b⟩, c, d⟩ := r
  obtain ⟨⟨a', b'⟩, c', d'⟩ := q
  simp [refB, and_assoc]
noncomputable def sameTB (a b : NodeT) : Bool := @decide (copyT a = copyT b) (Classical.propDecidable _)
noncomputable def sameLB (a b : List NodeT) : Bool := @decide (copyL a = copyL b) (Classical.propDecidable _)
theorem sameTB_iff (a b : NodeT) : sameTB a b = true ↔ copyT a = copyT b := @decide_eq_true_iff _ (Classical.propDecidable _)
theorem sameLB_iff (a b : List NodeT) : sameLB a b = true ↔ copyL a = copyL b := @decide_eq_true_iff _ (Classical.propDecidable _)
theorem sameTB_eq (a b : NodeT) : sameTB a b = (alikeB a b && sameLB a.args b.args) := by
  obtain ⟨k, o, x, s, bb, f, r, q, l⟩ := a
  obtain ⟨k', o', x', s', bb', f', r', q', l'⟩ := b
  rw [Bool.eq_iff_iff]
  simp only [sameTB_iff, sameLB_iff, alikeB, copyT, Bool.and_eq_true, refB_eq, NodeT.kind, NodeT.op, NodeT.x, NodeT.s, NodeT.b, NodeT.f, NodeT.ref, NodeT.to, NodeT.args, NodeT.mk.injEq]
  constructor
  · rintro ⟨h1, h2, h3, h4, h5, h6, h7, h8, h9⟩
    exact ⟨⟨⟨⟨⟨⟨⟨⟨decide_eq_true h1, decide_eq_true h2⟩, decide_eq_true (by rw [h3])⟩, decide_eq_true ((toList_eq _ _).2 h4)⟩, decide_eq_true h5⟩, decide_eq_true h6⟩, h7⟩, h8⟩, h9⟩
  · rintro ⟨⟨⟨⟨⟨⟨⟨⟨h1, h2⟩, h3⟩, h4⟩, h5⟩, h6⟩, h7⟩, h8⟩, h9⟩
    exact ⟨of_decide_eq_true h1, of_decide_eq_true h2, by have := of_decide_eq_true h3; omega, (toList_eq _ _).1 (of_decide_eq_true h4), of_decide_eq_true h5, of_decide_eq_true h6, h7, h8, h9⟩
theorem sameLB_nil : sameLB [] [] = true := (sameLB_iff _ _).2 rfl
theorem sameLB_cons (x y : NodeT) (a b : List NodeT) : sameLB (x :: a) (y :: b) = (sameTB x y && sameLB a b) := by
  rw [Bool.eq_iff_iff, Bool.and_eq_true]; simp only [sameLB_iff, sameTB_iff, copyL, List.cons.injEq]
theorem sameLB_len {a b : List NodeT} (h : a.length ≠ b.length) : sameLB a b = false := by
  cases hs : sameLB a b
  · rfl
  rw [sameLB_iff, copyL_map, copyL_map] at hs
  have := congrArg List.length hs
  simp at this
  exact absurd this h
def SameIs (n : Nat) : Prop := ∀ (a b : NodeT) (aa ba : Option Addr) (ac bc : Nat) (w : World), ArgsIn w n (.slice aa a.args.length ac) a.args → ArgsIn w n (.slice ba b.args.length bc) b.args →
  Calls Tryz.prog 77 #[nodeV a aa a.args.length ac, nodeV b ba b.args.length bc] w fun e w' => e = .returned (.bool (sameTB a b)) ∧ Gr w w'
set_option maxRecDepth 100000 in
set_option maxHeartbeats 4000000 in
theorem eqNodes_any (n : Nat) (ih : ∀ m, m < n → SameIs m) (a b : List NodeT) (aa ba : Option Addr) (ac bc : Nat) (w : World) (ha : ArgsIn w n (.slice aa a.length ac) a) (hb : ArgsIn w n (.slice ba b.length bc) b) :
    Calls Tryz.prog 101 #[.slice aa a.length ac, .slice ba b.length bc, .func (.func 77) #[] #[]] w fun e w' => e = .returned (.bool (sameLB a b)) ∧ Gr w w' := by
  by_cases hl : a.length = b.length
  rotate_left
  · have hne : ((a.length : Int) == (b.length : Int)) = false := by simp; omega
    have HN := Lib.hid (sameLB_len hl)
    clear hl ha hb ih
    go_enter Tryz.func101, Tryz.ntmps101
    go_wp2_with fail
    go_ret
    exact ⟨by rw [HN.out]; rfl, Gr.refl _⟩
  have HL := Lib.hid hl
  have IH := Lib.hid ih
  have HA := Lib.hid ha
  have HB := Lib.hid hb
  obtain ⟨_, _, e1, ql1, ql2⟩ := ha.shape
  cases e1
  obtain ⟨_, _, e2, qm1, qm2⟩ := hb.shape
  cases e2
  clear ih ha hb
  rw [← hl]
  rw [← hl] at qm1
  clear hl
  go_enter Tryz.func101, Tryz.ntmps101
  go_wp2_with fail
  go_loopw [17] (fun s17 wr => ∃ i : Nat, i ≤ a.length ∧ s17 = .int .i64 i ∧ Hid (Gr w wr) ∧ Hid (sameLB a b = sameLB (a.drop i) (b.drop i))) (fun s17 _ => a.length - (intOf s17).toNat)
  case atStart => exact ⟨0, Nat.zero_le _, rfl, Gr.refl _, rfl⟩
  case round =>
    obtain ⟨i, hi, rfl, HG, HS⟩ := hrel
    by_cases hlt : i < a.length
    · obtain ⟨x, hx⟩ : ∃ x, a[i]? = some x := ⟨a[i], by simp [hlt]⟩
      obtain ⟨y, hy⟩ : ∃ y, b[i]? = some y := ⟨b[i]'(by have := HL.out; omega), by simp⟩
      obtain ⟨n', bx, ox, xa, xc, hn', rfl, hNx, hAx⟩ := HA.out.at hx
      obtain ⟨n2, by', oy, ya, yc, hn2, rfl, hNy, hAy⟩ := HB.out.at hy
      obtain rfl : n' = n2 := by omega
      have hNx := hNx.xt HG.out.xt
      have hNy := hNy.xt HG.out.xt
      obtain ⟨d0, d1, d2, d3, d4, d5, d6, d7, d8, d9, d10, d11, d12, d13, d14⟩ := hNx
      have hki : (i : Int) < (a.length : Int) := by omega
      obtain ⟨wA, hwA, hgA, hsA, hNA⟩ := boxN wr x xa x.args.length xc 44
      have hNy := hNy.xt hgA.xt
      obtain ⟨f0, f1, f2, f3, f4, f5, f6, f7, f8, f9, f10, f11, f12, f13, f14⟩ := hNy
      obtain ⟨wB, hwB, hgB, hsB, hNB⟩ := boxN wA y ya y.args.length yc 44
      have hNA := hNA.xt hgB.xt
      rw [hsA] at hNB
      have HC := Lib.hid (IH.out n' (by omega) x y xa ya xc yc wB (hAx.xt ((HG.out.trans hgA).trans hgB).xt) (hAy.xt ((HG.out.trans hgA).trans hgB).xt))
      obtain ⟨k0, k1, k2, k3, k4, k5, k6, k7, k8, k9, k10, k11, k12, k13, k14⟩ := hNA
      obtain ⟨m0, m1, m2, m3, m4, m5, m6, m7, m8, m9, m10, m11, m12, m13, m14⟩ := hNB
      simp only [Nat.zero_add] at k0 k1 k2 k3 k4 k5 k6 k7 k8 k9 k10 k11 k12 k13 k14 m0 m1 m2 m3 m4 m5 m6 m7 m8 m9 m10 m11 m12 m13 m14
      have HGB := Lib.hid (hgA.trans hgB)
      have HE : Hid (sameLB (a.drop i) (b.drop i) = (sameTB x y && sameLB (a.drop (i + 1)) (b.drop (i + 1)))) := by
        unfold Hid
        rw [drop_at hx, drop_at hy, sameLB_cons]
      clear hAx hAy hgA hgB hsB hx hy hNx hNy
      cases hsxy : sameTB x y
      · rw [hsxy] at HC HE
        go_wp2_with (refine (HC.out).mono ?_; clear HC; rintro e w2 ⟨rfl, hg2⟩; have HG2 := Lib.hid hg2; clear hg2)
        go_ret
        exact ⟨by rw [HS.out, HE.out]; rfl, (HG.out.trans HGB.out).trans HG2.out⟩
      · rw [hsxy] at HC HE
        go_wp2_with (refine (HC.out).mono ?_; clear HC; rintro e w2 ⟨rfl, hg2⟩; have HG2 := Lib.hid hg2; clear hg2)
        go_roundw
        case rel => exact ⟨i + 1, by omega, by go_num, (HG.out.trans HGB.out).trans HG2.out, by unfold Hid; rw [HS.out, HE.out]; rfl⟩
        case measure => simp [intOf]; omega
    · have he : i = a.length := by omega
      subst he
      go_wp2_with fail
      go_ret
      have hb : b.length = a.length := HL.out.symm
      exact ⟨by rw [HS.out, List.drop_length, ← hb, List.drop_length, sameLB_nil]; rfl, HG.out⟩
set_option maxRecDepth 100000 in
set_option maxHeartbeats 4000000 in
theorem fsame_any : ∀ n, SameIs n := by
  intro n
  induction n using Nat.strongRecOn with
  | ind n ih =>
    intro a b aa ba ac bc w ha hb
    obtain ⟨w0, hw0, hg0, hs0, hN⟩ := boxN w a aa a.args.length ac 44
    obtain ⟨w1, hw1, hg1, hs1, hM⟩ := boxN w0 b ba b.args.length bc 44
    rw [hs0] at hM
    have hN := hN.xt hg1.xt
    obtain ⟨k0, k1, k2, k3, k4, k5, k6, k7, k8, k9, k10, k11, k12, k13, k14⟩ := hN
    obtain ⟨m0, m1, m2, m3, m4, m5, m6, m7, m8, m9, m10, m11, m12, m13, m14⟩ := hM
    simp only [Nat.zero_add] at k0 k1 k2 k3 k4 k5 k6 k7 k8 k9 k10 k11 k12 k13 k14 m0 m1 m2 m3 m4 m5 m6 m7 m8 m9 m10 m11 m12 m13 m14
    have HG := Lib.hid (hg0.trans hg1)
    have HK := Lib.hid (alike_any a b aa ba ac bc w1)
    have HE := Lib.hid (fun W (hx : Gr w1 W) => eqNodes_any n ih a.args b.args aa ba ac bc W (ha.xt ((hg0.trans hg1).trans hx).xt) (hb.xt ((hg0.trans hg1).trans hx).xt))
    have HS := Lib.hid (sameTB_eq a b)
    have HX := Lib.hid (fun W b' (hx : Gr w1 W) (hb : b' < w1.heap.size) o => (hx.xt.cells).1 b' o hb)
    clear ih ha hb hg0 hg1
    cases hal : alikeB a b
    · rw [hal] at HK HS
      go_enter Tryz.func77, Tryz.ntmps77
      go_wp2_with (first | (go_at_call 100; refine (HK.out).mono ?_; rintro e w2 ⟨rfl, hg2⟩; have HG2 := Lib.hid hg2; clear hg2))
      go_ret
      exact ⟨by rw [HS.out]; rfl, HG.out.trans HG2.out⟩
    · rw [hal] at HK HS
      go_enter Tryz.func77, Tryz.ntmps77
      go_wp2_with (first | (go_at_call 100; refine (HK.out).mono ?_; rintro e w2 ⟨rfl, hg2⟩; have HG2 := Lib.hid hg2; have j1 := (HX.out w2 w.heap.size hg2 (by omega) 14).trans k14; have j2 := (HX.out w2 (w.heap.size + 1) hg2 (by omega) 14).trans m14; clear hg2) | (go_at_call 101; refine (HE.out _ HG2.out).mono ?_; rintro e w3 ⟨rfl, hg3⟩; have HG3 := Lib.hid hg3; clear hg3))
      go_ret
      exact ⟨by rw [HS.out]; rfl, (HG.out.trans HG2.out).trans HG3.out⟩

theorem of_eq_of_beq_len {m n : Nat} (h : ((m : Int) == (n : Int)) = true) : m = n := by
  have := eq_of_beq h; omega
theorem run_neRef (w : World) (r q : RefT) : (binOp .neq 41 (.agg #[.int .i64 r.a.1, .int .i64 r.a.2, .bool r.cf, .bool r.rf]) (.agg #[.int .i64 q.a.1, .int .i64 q.a.2, .bool q.cf, .bool q.rf])).run Tryz.prog w = .ok (.bool (!refB r q)) w := by
  go_simp
  unfold refB
  (repeat' split) <;> simp [*]
attribute [go_sem high] run_neRef
end
end Go.Proofs.YtideclfpbpjebaaGreatDoor
