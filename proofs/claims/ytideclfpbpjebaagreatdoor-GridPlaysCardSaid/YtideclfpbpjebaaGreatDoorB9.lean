import Derived.Test.YtideclfpbpjebaaGreatDoorB6
import Derived.Test.YtideclfpbpjebaaGreatDoorB7
import Derived.Test.YtideclfpbpjebaaGreatDoorB8
import Derived.Test.YtideclfpbpjebaaGreatDoorB4
import Derived.Deep.MidRow
import Derived.Laws.Rows
namespace Go.Proofs.YtideclfpbpjebaaGreatDoor
section
open Go.RowKit Go.Sort

def madeB : NodeT → Bool
  | .mk k op x s b f r q args =>
    if k = 1 then ((decide (2 < classX x) && !negX x) && (0 == (args.length : Int)) && alikeB (.mk k op x s b f r q args) (.mk 1 0 x ⟨#[]⟩ false 0 zR zR []))
    else if k = 2 then ((Lib.validD s.data.toList && decide ((s.size : Int) ≤ 1024)) && (0 == (args.length : Int)) && alikeB (.mk k op x s b f r q args) (.mk 2 0 0 s false 0 zR zR []))
    else if k = 3 then (true && (0 == (args.length : Int)) && alikeB (.mk k op x s b f r q args) (.mk 3 0 0 ⟨#[]⟩ b 0 zR zR []))
    else if k = 4 then ((decide (1 ≤ f) && decide (f ≤ 5)) && (0 == (args.length : Int)) && alikeB (.mk k op x s b f r q args) (.mk 4 0 0 ⟨#[]⟩ false f zR zR []))
    else if k = 5 then (true && (0 == (args.length : Int)) && alikeB (.mk k op x s b f r q args) (.mk 5 0 0 ⟨#[]⟩ false 0 r zR []))
    else if k = 6 then (true && (0 == (args.length : Int)) && alikeB (.mk k op x s b f r q args) (.mk 6 0 0 ⟨#[]⟩ false 0 r q []))
    else if k = 7 then ((decide (1 ≤ op) && decide (op ≤ 3)) && (1 == (args.length : Int)) && alikeB (.mk k op x s b f r q args) (.mk 7 op 0 ⟨#[]⟩ false 0 zR zR []))
    else if k = 8 then ((decide (4 ≤ op) && decide (op ≤ 15)) && (2 == (args.length : Int)) && alikeB (.mk k op x s b f r q args) (.mk 8 op 0 ⟨#[]⟩ false 0 zR zR []))
    else if k = 9 then (true && ((args.length : Int) == (args.length : Int)) && alikeB (.mk k op x s b f r q args) (.mk 9 0 0 s false 0 zR zR []))
    else false
mutual
/-- Its texts are no longer than an int tells. -/
def NodeT.ok : NodeT → Prop
  | .mk _ _ x s _ _ _ _ args => s.size < 4611686018427387904 ∧ x < 18446744073709551616 ∧ okL args
def okL : List NodeT → Prop
  | [] => True
  | t :: r => t.ok ∧ okL r
end
theorem okL_at : ∀ {l : List NodeT} {k : Nat} {t : NodeT}, okL l → l[k]? = some t → t.ok
  | _ :: _, 0, _, h, e => by simp only [okL] at h; cases e; exact h.1
  | _ :: _, k + 1, _, h, e => by simp only [okL] at h; exact okL_at (k := k) h.2 e
theorem NodeT.ok_sz {t : NodeT} (h : t.ok) : t.s.size < 4611686018427387904 := by cases t; simp only [NodeT.ok] at h; exact h.1
theorem NodeT.ok_s {t : NodeT} (h : t.ok) : t.s.size ≤ 9223372036854775807 := by have := NodeT.ok_sz h; omega
theorem NodeT.ok_x {t : NodeT} (h : t.ok) : t.x < 18446744073709551616 := by cases t; simp only [NodeT.ok] at h; exact h.2.1
theorem NodeT.ok_args {t : NodeT} (h : t.ok) : okL t.args := by cases t; simp only [NodeT.ok] at h; exact h.2.2
set_option maxRecDepth 100000 in
set_option maxHeartbeats 4000000 in
theorem made_none (k op : Int) (x : Nat) (s : ByteArray) (b : Bool) (f : Int) (r q : RefT) (args : List NodeT) (a : Option Addr) (cap : Nat) (w : World) (h : ¬ (1 ≤ k ∧ k ≤ 9)) :
    Calls Tryz.prog 108 #[nodeW k op x s b f r q a args.length cap] w fun e w' => e = .returned (.bool false) ∧ Xt w w' := by
  obtain ⟨w0, hw0, hg0, hs0, hN⟩ := boxN w (.mk k op x s b f r q args) a args.length cap 44
  simp only [NodeT.kind, NodeT.op, NodeT.x, NodeT.s, NodeT.b, NodeT.f, NodeT.ref, NodeT.to] at hw0
  have c0 := hN.c0
  simp only [NodeT.kind] at c0
  have HG := Lib.hid hg0
  clear hg0 hN
  have e1 : (k == 1) = false := by simp; omega
  have e2 : (k == 2) = false := by simp; omega
  have e3 : (k == 3) = false := by simp; omega
  have e4 : (k == 4) = false := by simp; omega
  have e5 : (k == 5) = false := by simp; omega
  have e6 : (k == 6) = false := by simp; omega
  have e7 : (k == 7) = false := by simp; omega
  have e8 : (k == 8) = false := by simp; omega
  have e9 : (k == 9) = false := by simp; omega
  clear h
  go_enter Tryz.func108, Tryz.ntmps108
  go_wp2_with fail
  go_ret
  exact ⟨rfl, (HG.out.alloc _).xt⟩
theorem made_any (t : NodeT) (a : Option Addr) (cap : Nat) (w : World) (hk : t.ok) (hT : Tabs w) :
    Calls Tryz.prog 108 #[nodeV t a t.args.length cap] w fun e w' => e = .returned (.bool (madeB t)) ∧ Xt w w' := by
  have hs := NodeT.ok_s hk
  clear hk
  obtain ⟨k, op, x, s, b, f, r, q, args⟩ := t
  simp only [NodeT.s] at hs
  show Calls Tryz.prog 108 #[nodeW k op x s b f r q a args.length cap] w _
  unfold madeB
  by_cases h1 : k = 1
  · subst h1
    simp only [reduceIte, Int.reduceEq]
    exact made_1 op x s b f r q args a cap w
  by_cases h2 : k = 2
  · subst h2
    simp only [reduceIte, Int.reduceEq]
    exact made_2 op x s b f r q args a cap w hs hT
  by_cases h3 : k = 3
  · subst h3
    simp only [reduceIte, Int.reduceEq]
    exact made_3 op x s b f r q args a cap w
  by_cases h4 : k = 4
  · subst h4
    simp only [reduceIte, Int.reduceEq]
    exact made_4 op x s b f r q args a cap w
  by_cases h5 : k = 5
  · subst h5
    simp only [reduceIte, Int.reduceEq]
    exact made_5 op x s b f r q args a cap w
  by_cases h6 : k = 6
  · subst h6
    simp only [reduceIte, Int.reduceEq]
    exact made_6 op x s b f r q args a cap w
  by_cases h7 : k = 7
  · subst h7
    simp only [reduceIte, Int.reduceEq]
    exact made_7 op x s b f r q args a cap w
  by_cases h8 : k = 8
  · subst h8
    simp only [reduceIte, Int.reduceEq]
    exact made_8 op x s b f r q args a cap w
  by_cases h9 : k = 9
  · subst h9
    simp only [reduceIte, Int.reduceEq]
    exact made_9 op x s b f r q args a cap w
  simp only [h1, h2, h3, h4, h5, h6, h7, h8, h9, if_false]
  exact made_none k op x s b f r q args a cap w (by omega)

/-! ### fault -/
mutual
def faultT : NodeT → Bool → Int
  | .mk k op x s b f r q args, ins =>
    if madeB (.mk k op x s b f r q args) then
      if k == 5 then (if validB r.a.1 r.a.2 then faultL args (k == 9) else 20)
      else if k == 6 then (if (validB r.a.1 r.a.2 && validB q.a.1 q.a.2 && decide (r.a.1 ≤ q.a.1) && decide (r.a.2 ≤ q.a.2)) then (if ins then faultL args (k == 9) else 31) else 20)
      else if k == 9 then (if (knownF s.toList).2.2 then (if (args.length : Int) < (knownF s.toList).1 then 22 else if (knownF s.toList).2.1 < (args.length : Int) then 22 else faultL args (k == 9)) else 21)
      else faultL args (k == 9)
    else 1
def faultL : List NodeT → Bool → Int
  | [], _ => 0
  | t :: r, c => if faultT t c = 0 then faultL r c else faultT t c
end
theorem faultT_eq (t : NodeT) (ins : Bool) : faultT t ins =
    if madeB t then
      if t.kind == 5 then (if validB t.ref.a.1 t.ref.a.2 then faultL t.args (t.kind == 9) else 20)
      else if t.kind == 6 then (if (validB t.ref.a.1 t.ref.a.2 && validB t.to.a.1 t.to.a.2 && decide (t.ref.a.1 ≤ t.to.a.1) && decide (t.ref.a.2 ≤ t.to.a.2)) then (if ins then faultL t.args (t.kind == 9) else 31) else 20)
      else if t.kind == 9 then (if (knownF t.s.toList).2.2 then (if (t.args.length : Int) < (knownF t.s.toList).1 then 22 else if (knownF t.s.toList).2.1 < (t.args.length : Int) then 22 else faultL t.args (t.kind == 9)) else 21)
      else faultL t.args (t.kind == 9)
    else 1 := by cases t; rw [faultT]; rfl
def FaultIs (n : Nat) : Prop := ∀ (t : NodeT) (a : Option Addr) (cap : Nat) (ins : Bool) (w : World), t.ok → Tabs w → ArgsIn w n (.slice a t.args.length cap) t.args →
    Calls Tryz.prog 88 #[nodeV t a t.args.length cap, .bool ins] w fun e w' => e = .returned (.int .i64 (faultT t ins)) ∧ Xt w w'

set_option maxRecDepth 100000 in
set_option maxHeartbeats 16000000 in
theorem fault_56 (n : Nat) (ih : ∀ m, m < n → FaultIs m) (t : NodeT) (a : Option Addr) (cap : Nat) (ins : Bool) (w : World) (hok : t.ok) (hT : Tabs w) (hin : ArgsIn w n (.slice a t.args.length cap) t.args) (hk : (t.kind == 5) = true ∨ (t.kind == 6) = true) :
    Calls Tryz.prog 88 #[nodeV t a t.args.length cap, .bool ins] w fun e w' => e = .returned (.int .i64 (faultT t ins)) ∧ Xt w w' := by
  have HIN := Lib.hid hin
  obtain ⟨_, _, he, q1, q2⟩ := hin.shape
  cases he
  have IH := Lib.hid ih
  have HOK := Lib.hid hok
  have HT := Lib.hid hT
  obtain ⟨w0, hw0, hg0, hs0, hN⟩ := boxN w t a t.args.length cap 44
  have HG0 := Lib.hid hg0
  have HN := Lib.hid hN
  have HMADE := Lib.hid (made_any t a cap w0 hok (hT.xt hg0.xt))
  obtain ⟨c0, c1, c2, c3, c4, c5, c6, c7, c8, c9, c10, c11, c12, c13, c14⟩ := hN
  simp only [Nat.zero_add] at c0 c1 c2 c3 c4 c5 c6 c7 c8 c9 c10 c11 c12 c13 c14
  have H5 := Lib.hid (valid_gr t.ref.a.1 t.ref.a.2)
  have H6 := Lib.hid (ValidArea_any t.ref.a.1 t.ref.a.2 t.to.a.1 t.to.a.2)
  have H9 := Lib.hid (Known_any t.s)
  generalize hans : faultT t ins = ans
  have HA := Lib.hid hans
  rw [faultT_eq] at HA
  generalize madeB t = mb at HMADE HA
  generalize hva : (validB t.ref.a.1 t.ref.a.2 && validB t.to.a.1 t.to.a.2 && decide (t.ref.a.1 ≤ t.to.a.1) && decide (t.ref.a.2 ≤ t.to.a.2)) = va at H6 HA
  generalize hvb : validB t.ref.a.1 t.ref.a.2 = vb at H5 HA
  generalize knownF t.s.toList = kn at H9 HA
  obtain ⟨kn1, kn2, kn3⟩ := kn
  simp only at H9 HA
  generalize hk5 : (t.kind == 5) = b5 at HA hk
  generalize hk6 : (t.kind == 6) = b6 at HA hk
  generalize hk9 : (t.kind == 9) = b9 at HA
  clear hans hva hvb hok hT hg0 hin ih
  go_enter Tryz.func88, Tryz.ntmps88
  go_wp2_with fail
  refine (HMADE.out).mono ?_
  rintro e w1 ⟨rfl, hx1⟩
  have HN1 := Lib.hid (HN.out.xt hx1)
  have HX1 := Lib.hid (HG0.out.xt.trans hx1)
  have hsz1 : w.heap.size < w1.heap.size := by have := hx1.sz; omega
  clear hx1 hw0 c0 c1 c2 c3 c4 c5 c6 c7 c8 c9 c10 c11 c12 c13 c14
  obtain ⟨c0, c1, c2, c3, c4, c5, c6, c7, c8, c9, c10, c11, c12, c13, c14⟩ := HN1.out
  simp only [Nat.zero_add] at c0 c1 c2 c3 c4 c5 c6 c7 c8 c9 c10 c11 c12 c13 c14
  cases mb with
  | false =>
    go_wp2_with fail
    go_ret
    exact ⟨congrArg (fun z => Ending.returned (.int .i64 z)) HA.out, HX1.out⟩
  | true =>
    simp only [reduceIte] at HA
    cases b5
    case' true =>
      try simp only [reduceIte] at HA
      go_wp2_with fail
      refine (H5.out _).mono ?_
      rintro e w2 ⟨rfl, hg2⟩
      have HX2 := Lib.hid (HX1.out.trans hg2.xt)
      have hN2 := HN1.out.xt hg2.xt
      have HN2 := Lib.hid hN2
      have hsz2 : w.heap.size < w2.heap.size := by have := hg2.xt.sz; omega
      clear c0 c1 c2 c3 c4 c5 c6 c7 c8 c9 c10 c11 c12 c13 c14
      clear hg2
      obtain ⟨c0, c1, c2, c3, c4, c5, c6, c7, c8, c9, c10, c11, c12, c13, c14⟩ := hN2
      simp only [Nat.zero_add] at c0 c1 c2 c3 c4 c5 c6 c7 c8 c9 c10 c11 c12 c13 c14
      cases vb
      case false =>
        try simp only [reduceIte, Bool.false_eq_true] at HA
        go_wp2_with fail
        go_ret
        exact ⟨congrArg (fun z => Ending.returned (.int .i64 z)) HA.out, HX2.out⟩
      try simp only [reduceIte] at HA
      obtain ⟨bb, hbb⟩ : ∃ bb, bb = b9 := ⟨_, rfl⟩
      rw [← hbb] at HA
    case' false =>
      cases b6
      case false => exact absurd hk (by simp)
      case' true =>
        try simp only [reduceIte, Bool.false_eq_true] at HA
        go_wp2_with fail
        refine (H6.out _).mono ?_
        rintro e w2 ⟨rfl, hg2⟩
        have HX2 := Lib.hid (HX1.out.trans hg2.xt)
        have hN2 := HN1.out.xt hg2.xt
        have HN2 := Lib.hid hN2
        have hsz2 : w.heap.size < w2.heap.size := by have := hg2.xt.sz; omega
        clear c0 c1 c2 c3 c4 c5 c6 c7 c8 c9 c10 c11 c12 c13 c14
        clear hg2
        obtain ⟨c0, c1, c2, c3, c4, c5, c6, c7, c8, c9, c10, c11, c12, c13, c14⟩ := hN2
        simp only [Nat.zero_add] at c0 c1 c2 c3 c4 c5 c6 c7 c8 c9 c10 c11 c12 c13 c14
        cases va
        case false =>
          try simp only [reduceIte, Bool.false_eq_true] at HA
          go_wp2_with fail
          go_ret
          exact ⟨congrArg (fun z => Ending.returned (.int .i64 z)) HA.out, HX2.out⟩
        try simp only [reduceIte] at HA
        cases ins
        case false =>
          try simp only [reduceIte, Bool.false_eq_true] at HA
          go_wp2_with fail
          go_ret
          exact ⟨congrArg (fun z => Ending.returned (.int .i64 z)) HA.out, HX2.out⟩
        try simp only [reduceIte] at HA
        obtain ⟨bb, hbb⟩ : ∃ bb, bb = b9 := ⟨_, rfl⟩
        rw [← hbb] at HA
    all_goals
      have HBB := Lib.hid hbb
      clear hbb hk
      go_wp2_with fail
      have HF : Hid (faultL (t.args.drop 0) bb = ans) := by have h := HA.out; rw [List.drop_zero]; exact h
      clear c0 c1 c2 c3 c4 c5 c6 c7 c8 c9 c10 c11 c12 c13 c14
      go_loopw [62] (fun s62 wr => ∃ i : Nat, i ≤ t.args.length ∧ s62 = .int .i64 i ∧ Hid (faultL (t.args.drop i) bb = ans) ∧ Hid (Xt w2 wr)) (fun s62 _ => t.args.length - (intOf s62).toNat)
      case atStart => exact ⟨0, Nat.zero_le _, rfl, HF, Xt.refl _⟩
      case round =>
        obtain ⟨i, hi, rfl, HWi, HG⟩ := hrel
        have hNr := HN2.out.xt HG.out
        have c0 := hNr.c0
        have c14 := hNr.c14
        simp only [Nat.zero_add] at c0 c14
        by_cases hlt : i < t.args.length
        · have hii : (i : Int) < (t.args.length : Int) := by omega
          obtain ⟨u, hx⟩ : ∃ u, t.args[i]? = some u := ⟨t.args[i], by simp [hlt]⟩
          have hdr := drop_at hx
          obtain ⟨n', bk, off, a', c', hn, rfl, hA, hI⟩ := HIN.out.at hx
          have hxw : Xt w wr := HX2.out.trans HG.out
          have hou := okL_at (NodeT.ok_args HOK.out) hx
          obtain ⟨d0, d1, d2, d3, d4, d5, d6, d7, d8, d9, d10, d11, d12, d13, d14⟩ := hA.xt hxw
          obtain ⟨wq, hwq, hgq, hsq, hB⟩ := boxN wr u a' u.args.length c' 44
          obtain ⟨e0, e1, e2, e3, e4, e5, e6, e7, e8, e9, e10, e11, e12, e13, e14⟩ := hB
          simp only [Nat.zero_add] at e0 e1 e2 e3 e4 e5 e6 e7 e8 e9 e10 e11 e12 e13 e14
          have c0q : wq.cell? ⟨w.heap.size, 0, none⟩ = some (.int .i64 t.kind) := ((hgq.xt.cells).1 _ _ (World.block_lt_of_cell? _ _ c0)).trans c0
          have hcall := IH.out n' (by omega) u a' c' bb wq hou (HT.out.xt (hxw.trans hgq.xt)) ((hI.xt hxw).xt hgq.xt)
          have hf := HWi.out
          rw [hdr] at hf
          simp only [faultL] at hf
          have HF := Lib.hid hf
          have HGQ := Lib.hid hgq
          generalize faultT u bb = fu at HF hcall
          rw [HBB.out] at hcall
          have HCALL := Lib.hid hcall
          clear hx hdr hA hI hn hcall hxw hgq hf hou hNr
          by_cases hz : fu = 0
          · subst hz
            have HF2 : Hid (faultL (t.args.drop (i + 1)) bb = ans) := by have h := HF.out; rw [if_pos rfl] at h; exact h
            go_wp2_with fail
            refine (HCALL.out).mono ?_
            rintro e w4 ⟨rfl, hg4⟩
            have HG4 := Lib.hid hg4
            clear hg4 d0 d1 d2 d3 d4 d5 d6 d7 d8 d9 d10 d11 d12 d13 d14 e0 e1 e2 e3 e4 e5 e6 e7 e8 e9 e10 e11 e12 e13 e14
            go_wp2_with fail
            go_roundw
            case rel => exact ⟨i + 1, by omega, by go_num, HF2, (HG.out.trans HGQ.out.xt).trans HG4.out⟩
            case measure => simp [intOf]; omega
          · have HF2 : Hid (fu = ans) := by have h := HF.out; rw [if_neg hz] at h; exact h
            have hzb : (fu == 0) = false := by simpa using hz
            go_wp2_with fail
            refine (HCALL.out).mono ?_
            rintro e w4 ⟨rfl, hg4⟩
            have HG4 := Lib.hid hg4
            clear hg4 d0 d1 d2 d3 d4 d5 d6 d7 d8 d9 d10 d11 d12 d13 d14 e0 e1 e2 e3 e4 e5 e6 e7 e8 e9 e10 e11 e12 e13 e14
            go_wp2_with fail
            go_ret
            exact ⟨congrArg (fun z => Ending.returned (.int .i64 z)) HF2.out, HX2.out.trans ((HG.out.trans HGQ.out.xt).trans HG4.out)⟩
        · have HE : Hid (0 = ans) := by
            have h := HWi.out
            rw [List.drop_eq_nil_of_le (by omega)] at h
            simp only [faultL] at h
            exact h
          go_wp2_with fail
          go_ret
          exact ⟨congrArg (fun z => Ending.returned (.int .i64 z)) HE.out, HX2.out.trans HG.out⟩
set_option maxRecDepth 100000 in
set_option maxHeartbeats 16000000 in
theorem fault_90 (n : Nat) (ih : ∀ m, m < n → FaultIs m) (t : NodeT) (a : Option Addr) (cap : Nat) (ins : Bool) (w : World) (hok : t.ok) (hT : Tabs w) (hin : ArgsIn w n (.slice a t.args.length cap) t.args) (hk : (t.kind == 5) = false ∧ (t.kind == 6) = false) :
    Calls Tryz.prog 88 #[nodeV t a t.args.length cap, .bool ins] w fun e w' => e = .returned (.int .i64 (faultT t ins)) ∧ Xt w w' := by
  have HIN := Lib.hid hin
  obtain ⟨_, _, he, q1, q2⟩ := hin.shape
  cases he
  have IH := Lib.hid ih
  have HOK := Lib.hid hok
  have HT := Lib.hid hT
  obtain ⟨w0, hw0, hg0, hs0, hN⟩ := boxN w t a t.args.length cap 44
  have HG0 := Lib.hid hg0
  have HN := Lib.hid hN
  have HMADE := Lib.hid (made_any t a cap w0 hok (hT.xt hg0.xt))
  obtain ⟨c0, c1, c2, c3, c4, c5, c6, c7, c8, c9, c10, c11, c12, c13, c14⟩ := hN
  simp only [Nat.zero_add] at c0 c1 c2 c3 c4 c5 c6 c7 c8 c9 c10 c11 c12 c13 c14
  have H5 := Lib.hid (valid_gr t.ref.a.1 t.ref.a.2)
  have H6 := Lib.hid (ValidArea_any t.ref.a.1 t.ref.a.2 t.to.a.1 t.to.a.2)
  have H9 := Lib.hid (Known_any t.s)
  generalize hans : faultT t ins = ans
  have HA := Lib.hid hans
  rw [faultT_eq] at HA
  generalize madeB t = mb at HMADE HA
  generalize hva : (validB t.ref.a.1 t.ref.a.2 && validB t.to.a.1 t.to.a.2 && decide (t.ref.a.1 ≤ t.to.a.1) && decide (t.ref.a.2 ≤ t.to.a.2)) = va at H6 HA
  generalize hvb : validB t.ref.a.1 t.ref.a.2 = vb at H5 HA
  generalize knownF t.s.toList = kn at H9 HA
  obtain ⟨kn1, kn2, kn3⟩ := kn
  simp only at H9 HA
  generalize hk5 : (t.kind == 5) = b5 at HA hk
  generalize hk6 : (t.kind == 6) = b6 at HA hk
  generalize hk9 : (t.kind == 9) = b9 at HA
  clear hans hva hvb hok hT hg0 hin ih
  go_enter Tryz.func88, Tryz.ntmps88
  go_wp2_with fail
  refine (HMADE.out).mono ?_
  rintro e w1 ⟨rfl, hx1⟩
  have HN1 := Lib.hid (HN.out.xt hx1)
  have HX1 := Lib.hid (HG0.out.xt.trans hx1)
  have hsz1 : w.heap.size < w1.heap.size := by have := hx1.sz; omega
  clear hx1 hw0 c0 c1 c2 c3 c4 c5 c6 c7 c8 c9 c10 c11 c12 c13 c14
  obtain ⟨c0, c1, c2, c3, c4, c5, c6, c7, c8, c9, c10, c11, c12, c13, c14⟩ := HN1.out
  simp only [Nat.zero_add] at c0 c1 c2 c3 c4 c5 c6 c7 c8 c9 c10 c11 c12 c13 c14
  cases mb with
  | false =>
    go_wp2_with fail
    go_ret
    exact ⟨congrArg (fun z => Ending.returned (.int .i64 z)) HA.out, HX1.out⟩
  | true =>
    simp only [reduceIte] at HA
    cases b5
    case true => exact absurd hk.1 (by simp)
    cases b6
    case true => exact absurd hk.2 (by simp)
    cases b9
    case' true =>
      try simp only [reduceIte, Bool.false_eq_true] at HA
      go_wp2_with fail
      refine (H9.out _).mono ?_
      rintro e w2 ⟨rfl, hg2⟩
      have HX2 := Lib.hid (HX1.out.trans hg2.xt)
      have hN2 := HN1.out.xt hg2.xt
      have HN2 := Lib.hid hN2
      have hsz2 : w.heap.size < w2.heap.size := by have := hg2.xt.sz; omega
      clear c0 c1 c2 c3 c4 c5 c6 c7 c8 c9 c10 c11 c12 c13 c14
      clear hg2
      obtain ⟨c0, c1, c2, c3, c4, c5, c6, c7, c8, c9, c10, c11, c12, c13, c14⟩ := hN2
      simp only [Nat.zero_add] at c0 c1 c2 c3 c4 c5 c6 c7 c8 c9 c10 c11 c12 c13 c14
      cases kn3
      case false =>
        try simp only [reduceIte, Bool.false_eq_true] at HA
        go_wp2_with fail
        go_ret
        exact ⟨congrArg (fun z => Ending.returned (.int .i64 z)) HA.out, HX2.out⟩
      try simp only [reduceIte] at HA
      by_cases hl1 : (t.args.length : Int) < kn1
      · rw [if_pos hl1] at HA
        go_wp2_with fail
        go_ret
        exact ⟨congrArg (fun z => Ending.returned (.int .i64 z)) HA.out, HX2.out⟩
      rw [if_neg hl1] at HA
      by_cases hl2 : kn2 < (t.args.length : Int)
      · rw [if_pos hl2] at HA
        go_wp2_with fail
        go_ret
        exact ⟨congrArg (fun z => Ending.returned (.int .i64 z)) HA.out, HX2.out⟩
      rw [if_neg hl2] at HA
      obtain ⟨bb, hbb⟩ : ∃ bb, bb = true := ⟨_, rfl⟩
      rw [← hbb] at HA
    case' false =>
      try simp only [reduceIte, Bool.false_eq_true] at HA
      rename World => w2
      have HX2 := HX1
      have HN2 := HN1
      have hsz2 := hsz1
      obtain ⟨bb, hbb⟩ : ∃ bb, bb = false := ⟨_, rfl⟩
      rw [← hbb] at HA
    all_goals
      have HBB := Lib.hid hbb
      clear hbb hk
      go_wp2_with fail
      have HF : Hid (faultL (t.args.drop 0) bb = ans) := by have h := HA.out; rw [List.drop_zero]; exact h
      clear c0 c1 c2 c3 c4 c5 c6 c7 c8 c9 c10 c11 c12 c13 c14
      go_loopw [62] (fun s62 wr => ∃ i : Nat, i ≤ t.args.length ∧ s62 = .int .i64 i ∧ Hid (faultL (t.args.drop i) bb = ans) ∧ Hid (Xt w2 wr)) (fun s62 _ => t.args.length - (intOf s62).toNat)
      case atStart => exact ⟨0, Nat.zero_le _, rfl, HF, Xt.refl _⟩
      case round =>
        obtain ⟨i, hi, rfl, HWi, HG⟩ := hrel
        have hNr := HN2.out.xt HG.out
        have c0 := hNr.c0
        have c14 := hNr.c14
        simp only [Nat.zero_add] at c0 c14
        by_cases hlt : i < t.args.length
        · have hii : (i : Int) < (t.args.length : Int) := by omega
          obtain ⟨u, hx⟩ : ∃ u, t.args[i]? = some u := ⟨t.args[i], by simp [hlt]⟩
          have hdr := drop_at hx
          obtain ⟨n', bk, off, a', c', hn, rfl, hA, hI⟩ := HIN.out.at hx
          have hxw : Xt w wr := HX2.out.trans HG.out
          have hou := okL_at (NodeT.ok_args HOK.out) hx
          obtain ⟨d0, d1, d2, d3, d4, d5, d6, d7, d8, d9, d10, d11, d12, d13, d14⟩ := hA.xt hxw
          obtain ⟨wq, hwq, hgq, hsq, hB⟩ := boxN wr u a' u.args.length c' 44
          obtain ⟨e0, e1, e2, e3, e4, e5, e6, e7, e8, e9, e10, e11, e12, e13, e14⟩ := hB
          simp only [Nat.zero_add] at e0 e1 e2 e3 e4 e5 e6 e7 e8 e9 e10 e11 e12 e13 e14
          have c0q : wq.cell? ⟨w.heap.size, 0, none⟩ = some (.int .i64 t.kind) := ((hgq.xt.cells).1 _ _ (World.block_lt_of_cell? _ _ c0)).trans c0
          have hcall := IH.out n' (by omega) u a' c' bb wq hou (HT.out.xt (hxw.trans hgq.xt)) ((hI.xt hxw).xt hgq.xt)
          have hf := HWi.out
          rw [hdr] at hf
          simp only [faultL] at hf
          have HF := Lib.hid hf
          have HGQ := Lib.hid hgq
          generalize faultT u bb = fu at HF hcall
          rw [HBB.out] at hcall
          have HCALL := Lib.hid hcall
          clear hx hdr hA hI hn hcall hxw hgq hf hou hNr
          by_cases hz : fu = 0
          · subst hz
            have HF2 : Hid (faultL (t.args.drop (i + 1)) bb = ans) := by have h := HF.out; rw [if_pos rfl] at h; exact h
            go_wp2_with fail
            refine (HCALL.out).mono ?_
            rintro e w4 ⟨rfl, hg4⟩
            have HG4 := Lib.hid hg4
            clear hg4 d0 d1 d2 d3 d4 d5 d6 d7 d8 d9 d10 d11 d12 d13 d14 e0 e1 e2 e3 e4 e5 e6 e7 e8 e9 e10 e11 e12 e13 e14
            go_wp2_with fail
            go_roundw
            case rel => exact ⟨i + 1, by omega, by go_num, HF2, (HG.out.trans HGQ.out.xt).trans HG4.out⟩
            case measure => simp [intOf]; omega
          · have HF2 : Hid (fu = ans) := by have h := HF.out; rw [if_neg hz] at h; exact h
            have hzb : (fu == 0) = false := by simpa using hz
            go_wp2_with fail
            refine (HCALL.out).mono ?_
            rintro e w4 ⟨rfl, hg4⟩
            have HG4 := Lib.hid hg4
            clear hg4 d0 d1 d2 d3 d4 d5 d6 d7 d8 d9 d10 d11 d12 d13 d14 e0 e1 e2 e3 e4 e5 e6 e7 e8 e9 e10 e11 e12 e13 e14
            go_wp2_with fail
            go_ret
            exact ⟨congrArg (fun z => Ending.returned (.int .i64 z)) HF2.out, HX2.out.trans ((HG.out.trans HGQ.out.xt).trans HG4.out)⟩
        · have HE : Hid (0 = ans) := by
            have h := HWi.out
            rw [List.drop_eq_nil_of_le (by omega)] at h
            simp only [faultL] at h
            exact h
          go_wp2_with fail
          go_ret
          exact ⟨congrArg (fun z => Ending.returned (.int .i64 z)) HE.out, HX2.out.trans HG.out⟩

theorem fault_any : ∀ n, FaultIs n := by
  intro n
  induction n using Nat.strongRecOn with
  | ind n ih =>
    intro t a cap ins w hok hT hin
    by_cases h : (t.kind == 5) = true ∨ (t.kind == 6) = true
    · exact fault_56 n ih t a cap ins w hok hT hin h
    · exact fault_90 n ih t a cap ins w hok hT hin ⟨Bool.eq_false_iff.2 fun e => h (Or.inl e), Bool.eq_false_iff.2 fun e => h (Or.inr e)⟩
def checkT (t : NodeT) : Int := if 256 < (measT t).1 then 34 else if 32 < (measT t).2 then 33 else faultT t false
set_option maxRecDepth 100000 in
set_option maxHeartbeats 4000000 in
theorem Check_any (n : Nat) (t : NodeT) (a : Option Addr) (cap : Nat) (w : World) (hok : t.ok) (hT : Tabs w) (hin : ArgsIn w n (.slice a t.args.length cap) t.args) :
    Calls Tryz.prog 63 #[nodeV t a t.args.length cap] w fun e w' => e = .returned (.int .i64 (checkT t)) ∧ Xt w w' := by
  obtain ⟨w0, hw0, hg0, hs0, hN⟩ := boxN w t a t.args.length cap 44
  have HG0 := Lib.hid hg0
  have HN := Lib.hid hN
  have hm := Lib.hid (measure_any n t a cap w0 (hin.xt hg0.xt))
  have HIN := Lib.hid hin
  have HOK := Lib.hid hok
  have HT := Lib.hid hT
  obtain ⟨c0, c1, c2, c3, c4, c5, c6, c7, c8, c9, c10, c11, c12, c13, c14⟩ := hN
  simp only [Nat.zero_add] at c0 c1 c2 c3 c4 c5 c6 c7 c8 c9 c10 c11 c12 c13 c14
  generalize hans : checkT t = ans
  have HA := Lib.hid hans
  unfold checkT at HA
  generalize measT t = mt at hm HA
  obtain ⟨m1, m2⟩ := mt
  simp only at hm HA
  clear hans hok hT hg0 hin
  go_enter Tryz.func63, Tryz.ntmps63
  go_wp2_with fail
  refine (hm.out).mono ?_
  rintro e w1 ⟨rfl, hg1⟩
  have HG1 := Lib.hid hg1
  have hN1 := HN.out.xt hg1.xt
  have hf := Lib.hid (fault_any n t a cap false w1 HOK.out (HT.out.xt (HG0.out.xt.trans hg1.xt)) (HIN.out.xt (HG0.out.xt.trans hg1.xt)))
  clear hg1 hw0 c0 c1 c2 c3 c4 c5 c6 c7 c8 c9 c10 c11 c12 c13 c14
  obtain ⟨c0, c1, c2, c3, c4, c5, c6, c7, c8, c9, c10, c11, c12, c13, c14⟩ := hN1
  simp only [Nat.zero_add] at c0 c1 c2 c3 c4 c5 c6 c7 c8 c9 c10 c11 c12 c13 c14
  generalize faultT t false = ft at hf HA
  by_cases h1 : 256 < m1
  · rw [if_pos h1] at HA
    go_wp2_with fail
    go_ret
    exact ⟨congrArg (fun z => Ending.returned (.int .i64 z)) HA.out, HG0.out.xt.trans HG1.out.xt⟩
  · rw [if_neg h1] at HA
    by_cases h2 : 32 < m2
    · rw [if_pos h2] at HA
      go_wp2_with fail
      go_ret
      exact ⟨congrArg (fun z => Ending.returned (.int .i64 z)) HA.out, HG0.out.xt.trans HG1.out.xt⟩
    · rw [if_neg h2] at HA
      go_wp2_with fail
      refine (hf.out).mono ?_
      rintro e w2 ⟨rfl, hx2⟩
      have HX2 := Lib.hid hx2
      clear hx2
      go_wp2_with fail
      go_ret
      exact ⟨congrArg (fun z => Ending.returned (.int .i64 z)) HA.out, (HG0.out.xt.trans HG1.out.xt).trans HX2.out⟩

/-! ### value.Valid -/
def restB (x : Nat) (s : ByteArray) (b : Bool) (f : Int) : Bool := decide ((x : Int) = 0) && decide (s.toList = []) && !b && decide (f = 0)
theorem toList_nil : (ByteArray.mk #[]).toList = [] := by first | (simp; done) | (unfold ByteArray.toList ByteArray.toList.loop; simp; done) | (unfold ByteArray.toList; rw [ByteArray.toList.loop]; rfl) | decide
abbrev valW (k : Int) (x : Nat) (s : ByteArray) (b : Bool) (f : Int) : Value := .agg #[.int .i64 k, .float .f64 x, .string s, .bool b, .int .i64 f]
set_option maxRecDepth 100000 in
set_option maxHeartbeats 4000000 in
theorem vvalid_0 (x : Nat) (s : ByteArray) (b : Bool) (f : Int) (w : World) :
    Calls Tryz.prog 62 #[valW 0 x s b f] w fun e w' => e = .returned (.bool (restB x s b f)) ∧ Xt w w' := by
  obtain ⟨w0, hw0, hg0, hs0, c0, c1, c2, c3, c4⟩ := boxV w ⟨0, x, s, b, f⟩ 39
  simp only at hw0 c0 c1 c2 c3 c4
  have HG0 := Lib.hid hg0
  clear hg0
  go_enter Tryz.func62, Tryz.ntmps62
  go_wp2_with fail
  all_goals (go_ret; refine ⟨?_, (HG0.out.alloc _).xt⟩; first | (simp [restB, *]; done) | (simp [restB, toList_nil, *]; omega) | (simp [restB, toList_nil, *]; intros; exfalso; omega) | (by_cases hx : x = 0 <;> simp_all [restB, toList_nil, feq00]; done))
set_option maxRecDepth 100000 in
set_option maxHeartbeats 4000000 in
theorem vvalid_1 (x : Nat) (s : ByteArray) (b : Bool) (f : Int) (w : World) :
    Calls Tryz.prog 62 #[valW 1 x s b f] w fun e w' => e = .returned (.bool (restB 0 s b f)) ∧ Xt w w' := by
  obtain ⟨w0, hw0, hg0, hs0, c0, c1, c2, c3, c4⟩ := boxV w ⟨1, x, s, b, f⟩ 39
  simp only at hw0 c0 c1 c2 c3 c4
  have HG0 := Lib.hid hg0
  clear hg0
  go_enter Tryz.func62, Tryz.ntmps62
  go_wp2_with fail
  all_goals (go_ret; refine ⟨?_, (HG0.out.alloc _).xt⟩; first | (simp [restB, *]; done) | (simp [restB, toList_nil, *]; omega) | (simp [restB, toList_nil, *]; intros; exfalso; omega) | (by_cases hx : x = 0 <;> simp_all [restB, toList_nil, feq00]; done))
set_option maxRecDepth 100000 in
set_option maxHeartbeats 4000000 in
theorem vvalid_2 (x : Nat) (s : ByteArray) (b : Bool) (f : Int) (w : World) (hs : s.size ≤ 9223372036854775807) (hT : Tabs w) :
    Calls Tryz.prog 62 #[valW 2 x s b f] w fun e w' => e = .returned (.bool ((Lib.validD s.data.toList && decide ((s.size : Int) ≤ 1024) && restB x ⟨#[]⟩ b f))) ∧ Xt w w' := by
  obtain ⟨w0, hw0, hg0, hs0, c0, c1, c2, c3, c4⟩ := boxV w ⟨2, x, s, b, f⟩ 39
  simp only at hw0 c0 c1 c2 c3 c4
  have HG0 := Lib.hid hg0
  obtain ⟨w1, hw1, hg1, hs1, d0, d1, d2, d3, d4⟩ := boxV w0 ⟨2, x, ⟨#[]⟩, b, f⟩ 39
  rw [hs0] at hs1 d0 d1 d2 d3 d4
  simp only at hw1 d0 d1 d2 d3 d4
  have kk := fun o => (hg1.xt.cells).1 w.heap.size o (by omega)
  have k0 := (kk 0).trans c0
  have k1 := (kk 1).trans c1
  have k2 := (kk 2).trans c2
  have k3 := (kk 3).trans c3
  have k4 := (kk 4).trans c4
  have HG := Lib.hid (hg0.trans hg1)
  have H1 := Lib.hid (validString_any s w1 hs (hT.xt HG.out.xt))
  generalize Lib.validD s.data.toList = vd at H1 ⊢
  clear hT hs kk hg1 hg0
  go_enter Tryz.func62, Tryz.ntmps62
  go_wp2_with fail
  refine (H1.out).mono ?_
  rintro e w3 ⟨rfl, hb3⟩
  have hx3 : Xt w1 w3 := hb3
  have kc := fun o => (hx3.cells).1 w.heap.size o (by omega)
  have kd := fun o => (hx3.cells).1 (w.heap.size + 1) o (by omega)
  have m0 := (kc 0).trans k0
  have m1 := (kc 1).trans k1
  have m2 := (kc 2).trans k2
  have m3 := (kc 3).trans k3
  have m4 := (kc 4).trans k4
  have n0 := (kd 0).trans d0
  have n1 := (kd 1).trans d1
  have n2 := (kd 2).trans d2
  have n3 := (kd 3).trans d3
  have n4 := (kd 4).trans d4
  have HX := Lib.hid (Xt.trans HG.out.xt hx3)
  clear hb3 hx3 kc kd c0 c1 c2 c3 c4 k0 k1 k2 k3 k4 d0 d1 d2 d3 d4 hw0 hw1
  cases vd
  all_goals
    go_wp2_with fail
    all_goals (go_ret; refine ⟨?_, HX.out⟩; first | (simp [restB, *]; done) | (simp [restB, *]; omega) | (simp [restB, toList_nil, *]; intros; exfalso; omega) | (by_cases hx : x = 0 <;> simp_all [restB, toList_nil, feq00]; done))
set_option maxRecDepth 100000 in
set_option maxHeartbeats 4000000 in
theorem vvalid_3 (x : Nat) (s : ByteArray) (b : Bool) (f : Int) (w : World) :
    Calls Tryz.prog 62 #[valW 3 x s b f] w fun e w' => e = .returned (.bool (restB x s false f)) ∧ Xt w w' := by
  obtain ⟨w0, hw0, hg0, hs0, c0, c1, c2, c3, c4⟩ := boxV w ⟨3, x, s, b, f⟩ 39
  simp only at hw0 c0 c1 c2 c3 c4
  have HG0 := Lib.hid hg0
  clear hg0
  go_enter Tryz.func62, Tryz.ntmps62
  go_wp2_with fail
  all_goals (go_ret; refine ⟨?_, (HG0.out.alloc _).xt⟩; first | (simp [restB, *]; done) | (simp [restB, toList_nil, *]; omega) | (simp [restB, toList_nil, *]; intros; exfalso; omega) | (by_cases hx : x = 0 <;> simp_all [restB, toList_nil, feq00]; done))
set_option maxRecDepth 100000 in
set_option maxHeartbeats 4000000 in
theorem vvalid_4 (x : Nat) (s : ByteArray) (b : Bool) (f : Int) (w : World) :
    Calls Tryz.prog 62 #[valW 4 x s b f] w fun e w' => e = .returned (.bool ((decide (1 ≤ f) && decide (f ≤ 5) && restB x s b 0))) ∧ Xt w w' := by
  obtain ⟨w0, hw0, hg0, hs0, c0, c1, c2, c3, c4⟩ := boxV w ⟨4, x, s, b, f⟩ 39
  simp only at hw0 c0 c1 c2 c3 c4
  have HG0 := Lib.hid hg0
  clear hg0
  go_enter Tryz.func62, Tryz.ntmps62
  go_wp2_with fail
  all_goals (go_ret; refine ⟨?_, (HG0.out.alloc _).xt⟩; first | (simp [restB, *]; done) | (simp [restB, *]; omega) | (simp [restB, toList_nil, *]; intros; exfalso; omega) | (by_cases hx : x = 0 <;> simp_all [restB, toList_nil, feq00]; done))
set_option maxRecDepth 100000 in
set_option maxHeartbeats 4000000 in
theorem vvalid_none (k : Int) (x : Nat) (s : ByteArray) (b : Bool) (f : Int) (w : World) (h : ¬ (0 ≤ k ∧ k ≤ 4)) :
    Calls Tryz.prog 62 #[valW k x s b f] w fun e w' => e = .returned (.bool false) ∧ Xt w w' := by
  obtain ⟨w0, hw0, hg0, hs0, c0, c1, c2, c3, c4⟩ := boxV w ⟨k, x, s, b, f⟩ 39
  simp only at hw0 c0 c1 c2 c3 c4
  have HG0 := Lib.hid hg0
  clear hg0
  have e0 : (k == 0) = false := by simp; omega
  have e1 : (k == 1) = false := by simp; omega
  have e2 : (k == 2) = false := by simp; omega
  have e3 : (k == 3) = false := by simp; omega
  have e4 : (k == 4) = false := by simp; omega
  clear h
  go_enter Tryz.func62, Tryz.ntmps62
  go_wp2_with fail
  go_ret
  exact ⟨rfl, (HG0.out.alloc _).xt⟩
def vvalidB (v : ValT) : Bool :=
  if v.kind = 0 then restB v.x v.s v.b v.f else
  if v.kind = 1 then restB 0 v.s v.b v.f else
  if v.kind = 2 then (Lib.validD v.s.data.toList && decide ((v.s.size : Int) ≤ 1024) && restB v.x ⟨#[]⟩ v.b v.f) else
  if v.kind = 3 then restB v.x v.s false v.f else
  if v.kind = 4 then (decide (1 ≤ v.f) && decide (v.f ≤ 5) && restB v.x v.s v.b 0) else
  false
theorem vvalid_any (v : ValT) (w : World) (hs : v.s.size ≤ 9223372036854775807) (hT : Tabs w) :
    Calls Tryz.prog 62 #[valV v] w fun e w' => e = .returned (.bool (vvalidB v)) ∧ Xt w w' := by
  obtain ⟨k, x, s, b, f⟩ := v
  simp only at hs
  show Calls Tryz.prog 62 #[valW k x s b f] w _
  unfold vvalidB
  simp only
  by_cases h0 : k = 0
  · subst h0
    simp only [reduceIte, Int.reduceEq]
    exact vvalid_0 x s b f w
  by_cases h1 : k = 1
  · subst h1
    simp only [reduceIte, Int.reduceEq]
    exact vvalid_1 x s b f w
  by_cases h2 : k = 2
  · subst h2
    simp only [reduceIte, Int.reduceEq]
    exact vvalid_2 x s b f w hs hT
  by_cases h3 : k = 3
  · subst h3
    simp only [reduceIte, Int.reduceEq]
    exact vvalid_3 x s b f w
  by_cases h4 : k = 4
  · subst h4
    simp only [reduceIte, Int.reduceEq]
    exact vvalid_4 x s b f w
  simp only [h0, h1, h2, h3, h4, if_false]
  exact vvalid_none k x s b f w (by omega)

/-! ### contents -/
structure ContT where
  kind : Int
  v : ValT
  t : NodeT
abbrev contV (c : ContT) (a : Option Addr) (n cap : Nat) : Value := .agg #[.int .i64 c.kind, .int .i64 c.v.kind, .float .f64 c.v.x, .string c.v.s, .bool c.v.b, .int .i64 c.v.f, .int .i64 c.t.kind, .int .i64 c.t.op, .float .f64 c.t.x, .string c.t.s, .bool c.t.b, .int .i64 c.t.f, .int .i64 c.t.ref.a.1, .int .i64 c.t.ref.a.2, .bool c.t.ref.cf, .bool c.t.ref.rf, .int .i64 c.t.to.a.1, .int .i64 c.t.to.a.2, .bool c.t.to.cf, .bool c.t.to.rf, .slice a n cap]
/-- A content's row, written short where a row is asked. -/
structure RowC where
  mk ::
  c : ContT
  v : Value
abbrev rQ := RowC.mk
instance (c : ContT) (v : Value) : CoeDep RowC (rQ c v) (Array Value) := ⟨#[.int .i64 c.kind, .int .i64 c.v.kind, .float .f64 c.v.x, .string c.v.s, .bool c.v.b, .int .i64 c.v.f, .int .i64 c.t.kind, .int .i64 c.t.op, .float .f64 c.t.x, .string c.t.s, .bool c.t.b, .int .i64 c.t.f, .int .i64 c.t.ref.a.1, .int .i64 c.t.ref.a.2, .bool c.t.ref.cf, .bool c.t.ref.rf, .int .i64 c.t.to.a.1, .int .i64 c.t.to.a.2, .bool c.t.to.cf, .bool c.t.to.rf, v]⟩
/-- A content's cells. -/
structure ContAt (w : World) (b o : Nat) (c : ContT) (a : Option Addr) (n cap : Nat) : Prop where
  c0 : w.cell? ⟨b, o, none⟩ = some (.int .i64 c.kind)
  c1 : w.cell? ⟨b, o + 1, none⟩ = some (.int .i64 c.v.kind)
  c2 : w.cell? ⟨b, o + 2, none⟩ = some (.float .f64 c.v.x)
  c3 : w.cell? ⟨b, o + 3, none⟩ = some (.string c.v.s)
  c4 : w.cell? ⟨b, o + 4, none⟩ = some (.bool c.v.b)
  c5 : w.cell? ⟨b, o + 5, none⟩ = some (.int .i64 c.v.f)
  c6 : w.cell? ⟨b, o + 6, none⟩ = some (.int .i64 c.t.kind)
  c7 : w.cell? ⟨b, o + 7, none⟩ = some (.int .i64 c.t.op)
  c8 : w.cell? ⟨b, o + 8, none⟩ = some (.float .f64 c.t.x)
  c9 : w.cell? ⟨b, o + 9, none⟩ = some (.string c.t.s)
  c10 : w.cell? ⟨b, o + 10, none⟩ = some (.bool c.t.b)
  c11 : w.cell? ⟨b, o + 11, none⟩ = some (.int .i64 c.t.f)
  c12 : w.cell? ⟨b, o + 12, none⟩ = some (.int .i64 c.t.ref.a.1)
  c13 : w.cell? ⟨b, o + 13, none⟩ = some (.int .i64 c.t.ref.a.2)
  c14 : w.cell? ⟨b, o + 14, none⟩ = some (.bool c.t.ref.cf)
  c15 : w.cell? ⟨b, o + 15, none⟩ = some (.bool c.t.ref.rf)
  c16 : w.cell? ⟨b, o + 16, none⟩ = some (.int .i64 c.t.to.a.1)
  c17 : w.cell? ⟨b, o + 17, none⟩ = some (.int .i64 c.t.to.a.2)
  c18 : w.cell? ⟨b, o + 18, none⟩ = some (.bool c.t.to.cf)
  c19 : w.cell? ⟨b, o + 19, none⟩ = some (.bool c.t.to.rf)
  c20 : w.cell? ⟨b, o + 20, none⟩ = some (.slice a n cap)
theorem ContAt.xt {w w' : World} {b o : Nat} {c : ContT} {a : Option Addr} {n cap : Nat} (h : ContAt w b o c a n cap) (hx : Xt w w') : ContAt w' b o c a n cap := by
  have hb : b < w.heap.size := World.block_lt_of_cell? w _ h.c0
  have e := fun o => (hx.cells).1 b o hb
  exact ⟨(e _).trans h.c0, (e _).trans h.c1, (e _).trans h.c2, (e _).trans h.c3, (e _).trans h.c4, (e _).trans h.c5, (e _).trans h.c6, (e _).trans h.c7, (e _).trans h.c8, (e _).trans h.c9, (e _).trans h.c10, (e _).trans h.c11, (e _).trans h.c12, (e _).trans h.c13, (e _).trans h.c14, (e _).trans h.c15, (e _).trans h.c16, (e _).trans h.c17, (e _).trans h.c18, (e _).trans h.c19, (e _).trans h.c20⟩
theorem boxC (w : World) (c : ContT) (a : Option Addr) (n cap : Nat) (T : TypeId) : ∃ w0, w.alloc (.cells #[.int .i64 c.kind, .int .i64 c.v.kind, .float .f64 c.v.x, .string c.v.s, .bool c.v.b, .int .i64 c.v.f, .int .i64 c.t.kind, .int .i64 c.t.op, .float .f64 c.t.x, .string c.t.s, .bool c.t.b, .int .i64 c.t.f, .int .i64 c.t.ref.a.1, .int .i64 c.t.ref.a.2, .bool c.t.ref.cf, .bool c.t.ref.rf, .int .i64 c.t.to.a.1, .int .i64 c.t.to.a.2, .bool c.t.to.cf, .bool c.t.to.rf, .slice a n cap] T) = w0 ∧ Gr w w0 ∧ w0.heap.size = w.heap.size + 1 ∧ ContAt w0 w.heap.size 0 c a n cap := by
  refine ⟨_, rfl, (Gr.refl _).alloc _, by simp, ⟨?_, ?_, ?_, ?_, ?_, ?_, ?_, ?_, ?_, ?_, ?_, ?_, ?_, ?_, ?_, ?_, ?_, ?_, ?_, ?_, ?_⟩⟩ <;> (rw [World.cell?_alloc_new]; rfl)

/-! ### rows of twenty-one cells (made by mkgcopy.py) -/
theorem cells21 {w : World} {b : Nat} {v0 v1 v2 v3 v4 v5 v6 v7 v8 v9 v10 v11 v12 v13 v14 v15 v16 v17 v18 v19 v20 : Value} {T : TypeId} (h : w.heap[b]? = some (.cells #[v0, v1, v2, v3, v4, v5, v6, v7, v8, v9, v10, v11, v12, v13, v14, v15, v16, v17, v18, v19, v20] T (0, 0))) : w.cell? ⟨b, 0, none⟩ = some v0 ∧ w.cell? ⟨b, 1, none⟩ = some v1 ∧ w.cell? ⟨b, 2, none⟩ = some v2 ∧ w.cell? ⟨b, 3, none⟩ = some v3 ∧ w.cell? ⟨b, 4, none⟩ = some v4 ∧ w.cell? ⟨b, 5, none⟩ = some v5 ∧ w.cell? ⟨b, 6, none⟩ = some v6 ∧ w.cell? ⟨b, 7, none⟩ = some v7 ∧ w.cell? ⟨b, 8, none⟩ = some v8 ∧ w.cell? ⟨b, 9, none⟩ = some v9 ∧ w.cell? ⟨b, 10, none⟩ = some v10 ∧ w.cell? ⟨b, 11, none⟩ = some v11 ∧ w.cell? ⟨b, 12, none⟩ = some v12 ∧ w.cell? ⟨b, 13, none⟩ = some v13 ∧ w.cell? ⟨b, 14, none⟩ = some v14 ∧ w.cell? ⟨b, 15, none⟩ = some v15 ∧ w.cell? ⟨b, 16, none⟩ = some v16 ∧ w.cell? ⟨b, 17, none⟩ = some v17 ∧ w.cell? ⟨b, 18, none⟩ = some v18 ∧ w.cell? ⟨b, 19, none⟩ = some v19 ∧ w.cell? ⟨b, 20, none⟩ = some v20 := by
  have hk : ∀ o v, #[v0, v1, v2, v3, v4, v5, v6, v7, v8, v9, v10, v11, v12, v13, v14, v15, v16, v17, v18, v19, v20][o]? = some v → w.cell? ⟨b, o, none⟩ = some v := fun o v ho => by simpa [World.cell?, h] using ho
  exact ⟨hk 0 _ rfl, hk 1 _ rfl, hk 2 _ rfl, hk 3 _ rfl, hk 4 _ rfl, hk 5 _ rfl, hk 6 _ rfl, hk 7 _ rfl, hk 8 _ rfl, hk 9 _ rfl, hk 10 _ rfl, hk 11 _ rfl, hk 12 _ rfl, hk 13 _ rfl, hk 14 _ rfl, hk 15 _ rfl, hk 16 _ rfl, hk 17 _ rfl, hk 18 _ rfl, hk 19 _ rfl, hk 20 _ rfl⟩
theorem frozen21 {w : World} {b : Nat} {cs : Array Value} {T : TypeId} (h : w.heap[b]? = some (.cells cs T (0, 0))) : w.frozen? ⟨b, 0, none⟩ = false ∧ w.frozen? ⟨b, 1, none⟩ = false ∧ w.frozen? ⟨b, 2, none⟩ = false ∧ w.frozen? ⟨b, 3, none⟩ = false ∧ w.frozen? ⟨b, 4, none⟩ = false ∧ w.frozen? ⟨b, 5, none⟩ = false ∧ w.frozen? ⟨b, 6, none⟩ = false ∧ w.frozen? ⟨b, 7, none⟩ = false ∧ w.frozen? ⟨b, 8, none⟩ = false ∧ w.frozen? ⟨b, 9, none⟩ = false ∧ w.frozen? ⟨b, 10, none⟩ = false ∧ w.frozen? ⟨b, 11, none⟩ = false ∧ w.frozen? ⟨b, 12, none⟩ = false ∧ w.frozen? ⟨b, 13, none⟩ = false ∧ w.frozen? ⟨b, 14, none⟩ = false ∧ w.frozen? ⟨b, 15, none⟩ = false ∧ w.frozen? ⟨b, 16, none⟩ = false ∧ w.frozen? ⟨b, 17, none⟩ = false ∧ w.frozen? ⟨b, 18, none⟩ = false ∧ w.frozen? ⟨b, 19, none⟩ = false ∧ w.frozen? ⟨b, 20, none⟩ = false := by
  have hk : ∀ o, w.frozen? ⟨b, o, none⟩ = false := fun o => by simp [World.frozen?, h]
  exact ⟨hk 0, hk 1, hk 2, hk 3, hk 4, hk 5, hk 6, hk 7, hk 8, hk 9, hk 10, hk 11, hk 12, hk 13, hk 14, hk 15, hk 16, hk 17, hk 18, hk 19, hk 20⟩
theorem setRow_grown (w : World) (g : Nat) (cs : Array Value) : w.grownBy (w.setRow g cs) (some g) := ⟨rfl, rfl, rfl, by simp, fun k _ hk => setRow_other w g k _ (fun e => hk (by rw [e]))⟩
theorem there_row {w : World} {b : Nat} {cs : Array Value} {T : TypeId} (h : w.heap[b]? = some (.cells cs T (0, 0))) (o n : Nat) (hn : o + n ≤ cs.size) : w.there b o n := fun j hj => by
  have : o + j < cs.size := by omega
  exact ⟨by simp [World.cell?, h, this], by simp [World.frozen?, h]⟩
theorem fill15at6 {w : World} {b : Nat} {v0 v1 v2 v3 v4 v5 v6 v7 v8 v9 v10 v11 v12 v13 v14 v15 v16 v17 v18 v19 v20 u0 u1 u2 u3 u4 u5 u6 u7 u8 u9 u10 u11 u12 u13 u14 : Value} {T : TypeId} (h : w.heap[b]? = some (.cells #[v0, v1, v2, v3, v4, v5, v6, v7, v8, v9, v10, v11, v12, v13, v14, v15, v16, v17, v18, v19, v20] T (0, 0))) : (w.setCells b 6 [u0, u1, u2, u3, u4, u5, u6, u7, u8, u9, u10, u11, u12, u13, u14]).heap[b]? = some (.cells #[v0, v1, v2, v3, v4, v5, u0, u1, u2, u3, u4, u5, u6, u7, u8, u9, u10, u11, u12, u13, u14] T (0, 0)) := by
  have := (setCell_row (setCell_row (setCell_row (setCell_row (setCell_row (setCell_row (setCell_row (setCell_row (setCell_row (setCell_row (setCell_row (setCell_row (setCell_row (setCell_row (setCell_row h 6 u0) 7 u1) 8 u2) 9 u3) 10 u4) 11 u5) 12 u6) 13 u7) 14 u8) 15 u9) 16 u10) 17 u11) 18 u12) 19 u13) 20 u14)
  simp only [List.setIfInBounds_toArray, List.set_cons_zero, List.set_cons_succ] at this
  exact this
/-! ### what a content's copy is -/
def copyC (c : ContT) : ContT := ⟨c.kind, { c.v with x := oneX c.v.x }, copyT c.t⟩
theorem copyT_kind (t : NodeT) : (copyT t).kind = t.kind := by cases t; rfl
theorem copyT_op (t : NodeT) : (copyT t).op = t.op := by cases t; rfl
theorem copyT_x (t : NodeT) : (copyT t).x = oneX t.x := by cases t; rfl
theorem copyT_s (t : NodeT) : (copyT t).s = t.s := by cases t; rfl
theorem copyT_b (t : NodeT) : (copyT t).b = t.b := by cases t; rfl
theorem copyT_f (t : NodeT) : (copyT t).f = t.f := by cases t; rfl
theorem copyT_ref (t : NodeT) : (copyT t).ref = t.ref := by cases t; rfl
theorem copyT_to (t : NodeT) : (copyT t).to = t.to := by cases t; rfl
theorem copyT_args (t : NodeT) : (copyT t).args = copyL t.args := by cases t; rfl
theorem copyT_len (t : NodeT) : (copyT t).args.length = t.args.length := by rw [copyT_args, copyL_map]; simp
/-- A content's copy, as a value; a: where its list lies. -/
abbrev copyCV (c : ContT) (a : Option Addr) : Value := contV (copyC c) a c.t.args.length c.t.args.length
theorem copyCV_eq (c : ContT) (a : Option Addr) : copyCV c a = .agg #[.int .i64 c.kind, .int .i64 c.v.kind, .float .f64 (oneX c.v.x), .string c.v.s, .bool c.v.b, .int .i64 c.v.f, .int .i64 c.t.kind, .int .i64 c.t.op, .float .f64 (oneX c.t.x), .string c.t.s, .bool c.t.b, .int .i64 c.t.f, .int .i64 c.t.ref.a.1, .int .i64 c.t.ref.a.2, .bool c.t.ref.cf, .bool c.t.ref.rf, .int .i64 c.t.to.a.1, .int .i64 c.t.to.a.2, .bool c.t.to.cf, .bool c.t.to.rf, .slice a c.t.args.length c.t.args.length] := by
  simp only [copyCV, contV, copyC, copyT_kind, copyT_op, copyT_x, copyT_s, copyT_b, copyT_f, copyT_ref, copyT_to]
end
section
open Go.RowKit Go.Sort Go.MapKept

/-! ### lists of what cells have, in order -/
section
variable {α : Type}
def lkM (a : Ad) : List (Ad × α) → Option α
  | [] => none
  | x :: r => if x.1 = a then some x.2 else lkM a r
def setM (a : Ad) (l : α) : List (Ad × α) → List (Ad × α)
  | [] => [(a, l)]
  | x :: r => if x.1 = a then (a, l) :: r else if adLt a x.1 = true then (a, l) :: x :: r else x :: setM a l r
def delM (a : Ad) (M : List (Ad × α)) : List (Ad × α) := M.filter (fun x => !decide (x.1 = a))
def SortedM (M : List (Ad × α)) : Prop := M.Pairwise (fun x y => adLt x.1 y.1 = true)
theorem lkM_none {a : Ad} : ∀ {M : List (Ad × α)}, lkM a M = none ↔ ∀ x ∈ M, x.1 ≠ a
  | [] => by simp [lkM]
  | x :: r => by
    unfold lkM
    by_cases hx : x.1 = a
    · simp [hx]
    · simp only [hx, if_false, List.mem_cons, forall_eq_or_imp]
      rw [lkM_none (M := r)]
      exact ⟨fun h => ⟨hx, h⟩, fun h => h.2⟩
theorem lkM_mem {a : Ad} {l : α} : ∀ {M : List (Ad × α)}, lkM a M = some l → (a, l) ∈ M
  | [], h => by simp [lkM] at h
  | x :: r, h => by
    unfold lkM at h
    by_cases hx : x.1 = a
    · simp only [hx, if_true, Option.some.injEq] at h
      subst h; subst hx; simp
    · simp only [hx, if_false] at h
      exact List.mem_cons_of_mem _ (lkM_mem h)
theorem lkM_set (a b : Ad) (l : α) : ∀ (M : List (Ad × α)), lkM b (setM a l M) = if a = b then some l else lkM b M
  | [] => by simp [setM, lkM]
  | x :: r => by
    unfold setM
    by_cases hx : x.1 = a
    · simp only [hx, if_true]
      unfold lkM
      by_cases hab : a = b
      · simp [hab]
      · have : ¬ x.1 = b := fun e => hab (hx.symm.trans e)
        simp [hab, this]
    · simp only [hx, if_false]
      by_cases hl : adLt a x.1 = true
      · simp only [hl, if_true]
        conv => lhs; unfold lkM
      · simp only [hl, Bool.false_eq_true, if_false]
        unfold lkM
        by_cases hb : x.1 = b
        · have : ¬ a = b := fun e => hx (hb.trans e.symm)
          simp [hb, this]
        · simp only [hb, if_false]
          exact lkM_set a b l r
theorem adLt_irrefl (a : Ad) : adLt a a = false := swo_ad.irrefl a
theorem adLt_tri (a b : Ad) : a = b ∨ adLt a b = true ∨ adLt b a = true := by
  simp only [adLt_iff, Prod.ext_iff]; omega
theorem mem_setM {a : Ad} {l : α} : ∀ {M : List (Ad × α)} {x : Ad × α}, x ∈ setM a l M → x = (a, l) ∨ x ∈ M
  | [], x, h => by simp [setM] at h; exact Or.inl h
  | y :: r, x, h => by
    unfold setM at h
    split at h
    · simp at h; rcases h with h | h
      · exact Or.inl h
      · exact Or.inr (by simp [h])
    · split at h
      · simp at h; rcases h with h | h | h
        · exact Or.inl h
        · exact Or.inr (by simp [h])
        · exact Or.inr (by simp [h])
      · simp at h; rcases h with h | h
        · exact Or.inr (by simp [h])
        · rcases mem_setM h with h | h
          · exact Or.inl h
          · exact Or.inr (by simp [h])
theorem sorted_setM (a : Ad) (l : α) : ∀ {M : List (Ad × α)}, SortedM M → SortedM (setM a l M)
  | [], _ => by simp [setM, SortedM]
  | x :: r, h => by
    obtain ⟨h1, h2⟩ := List.pairwise_cons.1 h
    unfold setM
    by_cases hx : x.1 = a
    · simp only [hx, if_true]
      exact List.pairwise_cons.2 ⟨fun y hy => by have := h1 y hy; rw [hx] at this; exact this, h2⟩
    · simp only [hx, if_false]
      by_cases hl : adLt a x.1 = true
      · simp only [hl, if_true]
        refine List.pairwise_cons.2 ⟨fun y hy => ?_, h⟩
        rcases List.mem_cons.1 hy with rfl | hy
        · exact hl
        · exact swo_ad.trans _ _ _ hl (h1 y hy)
      · simp only [hl, Bool.false_eq_true, if_false]
        refine List.pairwise_cons.2 ⟨fun y hy => ?_, sorted_setM a l h2⟩
        rcases mem_setM hy with rfl | hy
        · rcases adLt_tri a x.1 with e | e | e
          · exact absurd e.symm hx
          · exact absurd e hl
          · exact e
        · exact h1 y hy
theorem sorted_delM (a : Ad) {M : List (Ad × α)} (h : SortedM M) : SortedM (delM a M) := h.filter _
theorem lkM_del (a b : Ad) : ∀ (M : List (Ad × α)), lkM b (delM a M) = if a = b then none else lkM b M
  | [] => by simp [delM, lkM]
  | x :: r => by
    have ih := lkM_del a b r
    unfold delM at ih ⊢
    rw [List.filter_cons]
    by_cases hx : x.1 = a
    · simp only [hx, decide_true, Bool.not_true, Bool.false_eq_true, if_false]
      rw [ih]
      by_cases hab : a = b
      · simp [hab]
      · have : ¬ x.1 = b := fun e => hab (hx.symm.trans e)
        simp [hab, lkM, this]
    · simp only [hx, decide_false, Bool.not_false, if_true]
      unfold lkM
      by_cases hb : x.1 = b
      · have : ¬ a = b := fun e => hx (hb.trans e.symm)
        simp [hb, this]
      · simp only [hb, if_false]
        exact ih
theorem nodup_M {M : List (Ad × α)} (h : SortedM M) : (M.map (·.1)).Nodup := by
  unfold List.Nodup
  rw [List.pairwise_map]
  exact h.imp fun hlt e => by rw [e, adLt_irrefl] at hlt; cases hlt
theorem lk_mem_iff {a : Ad} {E : List (Ad × Value)} : (lk a E).isSome = true ↔ a ∈ E.map (·.1) := by
  cases h : lk a E with
  | none =>
    have := lk_none.1 h
    simp only [Option.isSome_none, Bool.false_eq_true, false_iff, List.mem_map, not_exists, not_and]
    exact this
  | some v =>
    simp only [Option.isSome_some, true_iff]
    have : ¬ (lk a E = none) := by rw [h]; simp
    rw [lk_none] at this
    simp only [ne_eq, Classical.not_forall, Classical.not_not, exists_prop] at this
    obtain ⟨x, hx, he⟩ := this
    exact List.mem_map.2 ⟨x, hx, he⟩
theorem lkM_mem_iff {a : Ad} {M : List (Ad × α)} : (lkM a M).isSome = true ↔ a ∈ M.map (·.1) := by
  cases h : lkM a M with
  | none =>
    have := lkM_none.1 h
    simp only [Option.isSome_none, Bool.false_eq_true, false_iff, List.mem_map, not_exists, not_and]
    exact this
  | some v =>
    simp only [Option.isSome_some, true_iff]
    exact List.mem_map.2 ⟨_, lkM_mem h, rfl⟩
theorem len_setM {a : Ad} {l : α} : ∀ {M : List (Ad × α)}, SortedM M → (lkM a M).isSome = true → (setM a l M).length = M.length
  | [], _, h => by simp [lkM] at h
  | x :: r, hs, h => by
    obtain ⟨h1, h2⟩ := List.pairwise_cons.1 hs
    unfold setM
    by_cases hx : x.1 = a
    · simp [hx]
    · unfold lkM at h
      simp only [hx, if_false] at h ⊢
      by_cases hl : adLt a x.1 = true
      · exfalso
        obtain ⟨y, hy⟩ := Option.isSome_iff_exists.1 h
        have := h1 _ (lkM_mem hy)
        have h3 := swo_ad.trans _ _ _ hl this
        rw [adLt_irrefl] at h3; cases h3
      · simp only [hl, Bool.false_eq_true, if_false, List.length_cons]
        rw [len_setM h2 h]
theorem len_setM_le {a : Ad} {l : α} : ∀ {M : List (Ad × α)}, (setM a l M).length ≤ M.length + 1
  | [] => by simp [setM]
  | x :: r => by
    unfold setM
    split
    · simp
    · split
      · simp
      · simp only [List.length_cons]; have := len_setM_le (a := a) (l := l) (M := r); omega
end
theorem lk_up (a b : Ad) (v : Value) (E : List (Ad × Value)) : lk b (upE a v E) = if a = b then some v else lk b E := by
  unfold upE
  cases hs : (lk a E).isSome with
  | true =>
    simp only [if_true]
    induction E with
    | nil => simp [lk] at hs
    | cons x r ih =>
      simp only [List.map_cons]
      unfold lk at hs ⊢
      by_cases hx : x.1 = a
      · simp only [hx, if_true]
        by_cases hab : a = b
        · simp [hab]
        · have hxb : ¬ x.1 = b := fun e => hab (hx.symm.trans e)
          simp only [hab, if_false]
          clear ih hs
          induction r with
          | nil => simp [lk]
          | cons y r ih2 =>
            simp only [List.map_cons]
            unfold lk
            by_cases hy : y.1 = a
            · have hyb : ¬ y.1 = b := fun e => hab (hy.symm.trans e)
              simp only [hy, if_true, hab, if_false]
              exact ih2
            · simp only [hy, if_false]
              by_cases hyb : y.1 = b
              · simp [hyb]
              · simp only [hyb, if_false]; exact ih2
      · simp only [hx, if_false] at hs ⊢
        by_cases hxb : x.1 = b
        · have : ¬ a = b := fun e => hx (hxb.trans e.symm)
          simp [hxb, this]
        · simp only [hxb, if_false]; exact ih hs
  | false =>
    simp only [Bool.false_eq_true, if_false]
    have hn : lk a E = none := by simpa using hs
    induction E with
    | nil => simp [lk]
    | cons x r ih =>
      unfold lk at hn
      by_cases hx : x.1 = a
      · simp [hx] at hn
      · simp only [hx, if_false] at hn
        simp only [List.cons_append]
        unfold lk
        by_cases hxb : x.1 = b
        · have : ¬ a = b := fun e => hx (hxb.trans e.symm)
          simp [hxb, this]
        · simp only [hxb, if_false]
          exact ih (by simp [hn]) hn
theorem lk_dl (a b : Ad) : ∀ (E : List (Ad × Value)), lk b (dlE a E) = if a = b then none else lk b E
  | [] => by simp [dlE, lk]
  | x :: r => by
    have ih := lk_dl a b r
    unfold dlE at ih ⊢
    rw [List.filter_cons]
    by_cases hx : x.1 = a
    · simp only [hx, decide_true, Bool.not_true, Bool.false_eq_true, if_false]
      rw [ih]
      by_cases hab : a = b
      · simp [hab]
      · have : ¬ x.1 = b := fun e => hab (hx.symm.trans e)
        simp [hab, lk, this]
    · simp only [hx, decide_false, Bool.not_false, if_true]
      unfold lk
      by_cases hb : x.1 = b
      · have : ¬ a = b := fun e => hx (hb.trans e.symm)
        simp [hb, this]
      · simp only [hb, if_false]
        exact ih
theorem MapIs.nocell {w : World} {b : Nat} {E : List (Ad × Value)} (h : MapIs w b E) (o : Nat) : w.cell? ⟨b, o, none⟩ = none := by
  obtain ⟨es, c, h1, _⟩ := h
  simp [World.cell?, h1]
theorem sortL_of {l ks : List Ad} (hl : l.Pairwise (fun x y => adLt x y = true)) (hp : ks.Perm l) : sortL adLt ks = l := by
  refine List.Perm.eq_of_pairwise (le := fun x y => (!adLt y x) = true) ?_ ?_ ?_ ((List.mergeSort_perm _ _).trans hp)
  · intro a b _ _ h1 h2
    exact tot_ad a b (by simpa using h2) (by simpa using h1)
  · refine List.pairwise_mergeSort (fun a b c h1 h2 => ?_) (fun a b => ?_) ks
    · simp only [Bool.not_eq_true', adLt_false] at *; omega
    · simp only [Bool.or_eq_true, Bool.not_eq_true', adLt_false]; omega
  · refine hl.imp fun {a b} h => ?_
    simp only [Bool.not_eq_true', adLt_false]
    rw [adLt_iff] at h; omega
/-! ### a grid in memory -/
/-- A content as a grid has it: its list lies clipped behind this address. -/
abbrev CE := ContT × Option Addr
abbrev GM := List (Ad × CE)
abbrev ceV (x : CE) : Value := contV x.1 x.2 x.1.t.args.length x.1.t.args.length
def ceIn (w : World) (x : CE) : Prop := smallT x.1.t ∧ ∃ n, ArgsIn w n (.slice x.2 x.1.t.args.length x.1.t.args.length) x.1.t.args
structure GridIs (w : World) (gb mb : Nat) (M : GM) : Prop where
  cell : w.cell? ⟨gb, 0, none⟩ = some (.map (some mb))
  map : ∃ E, MapIs w mb E ∧ ∀ a, lk a E = (lkM a M).map ceV
  sorted : SortedM M
  args : ∀ x ∈ M, ceIn w x.2
  many : M.length ≤ 4096
/-- No cell has turned. -/
def CellsIn (w w' : World) : Prop := ∀ b o u, w.cell? ⟨b, o, none⟩ = some u → w'.cell? ⟨b, o, none⟩ = some u
theorem CellsIn.refl (w : World) : CellsIn w w := fun _ _ _ h => h
theorem CellsIn.trans {a b c : World} (h : CellsIn a b) (k : CellsIn b c) : CellsIn a c := fun _ _ _ hu => k _ _ _ (h _ _ _ hu)
theorem Xt.cellsIn {w w' : World} (h : Xt w w') : CellsIn w w' := fun b o _u hu => ((h.cells).1 b o (World.block_lt_of_cell? w _ hu)).trans hu
theorem CellsIn.of_grown {w w' : World} {mb : Nat} {E : List (Ad × Value)} (hm : MapIs w mb E) (h : w.grownBy w' (some mb)) : CellsIn w w' := fun b o u hu => by
  have hne : b ≠ mb := fun e => by subst e; rw [hm.nocell] at hu; cases hu
  exact (World.cell?_of_block (w := w) (a := ⟨b, o, none⟩) (h.block b (World.block_lt_of_cell? w _ hu) (fun e => hne (by cases e; rfl)))).trans hu
theorem ArgsIn.kept {w w' : World} (hx : CellsIn w w') : ∀ {n : Nat} {av : Value} {l : List NodeT}, ArgsIn w n av l → ArgsIn w' n av l
  | 0, _, _, h => h
  | n + 1, _, _, h => by
    obtain ⟨a, cap, rfl, h1, h2, h3⟩ := h
    refine ⟨a, cap, rfl, h1, h2, fun hne => ?_⟩
    obtain ⟨b, off, rfl, hc⟩ := h3 hne
    refine ⟨b, off, rfl, fun k t ht => ?_⟩
    obtain ⟨av', hcell, hin⟩ := hc k t ht
    exact ⟨av', fun i u hu => hx _ _ _ (hcell i u hu), hin.kept hx⟩
theorem ceIn.kept {w w' : World} {x : CE} (h : ceIn w x) (hx : CellsIn w w') : ceIn w' x := ⟨h.1, let ⟨n, hn⟩ := h.2; ⟨n, hn.kept hx⟩⟩
theorem GridIs.lt {w : World} {gb mb : Nat} {M : GM} (h : GridIs w gb mb M) : gb < w.heap.size ∧ mb < w.heap.size := ⟨World.block_lt_of_cell? w _ h.cell, let ⟨_, hm, _⟩ := h.map; hm.lt⟩
theorem GridIs.ne {w : World} {gb mb : Nat} {M : GM} (h : GridIs w gb mb M) : gb ≠ mb := by
  intro e
  obtain ⟨E, hm, _⟩ := h.map
  have := h.cell
  rw [e, hm.nocell] at this; cases this
theorem GridIs.kept {w w' : World} {gb mb : Nat} {M : GM} (h : GridIs w gb mb M) (hx : CellsIn w w') (hm : w'.heap[mb]? = w.heap[mb]?) : GridIs w' gb mb M :=
  ⟨hx _ _ _ h.cell, let ⟨E, q1, q2⟩ := h.map; ⟨E, q1.of_heap hm, q2⟩, h.sorted, fun x hx' => (h.args x hx').kept hx, h.many⟩
theorem GridIs.xt {w w' : World} {gb mb : Nat} {M : GM} (h : GridIs w gb mb M) (hx : Xt w w') : GridIs w' gb mb M := h.kept hx.cellsIn (hx.block mb h.lt.2)
theorem GridIs.len {w : World} {gb mb : Nat} {M : GM} {E : List (Ad × Value)} (h : GridIs w gb mb M) (hm : MapIs w mb E) (he : ∀ a, lk a E = (lkM a M).map ceV) : E.length = M.length := by
  have hp : (E.map (·.1)).Perm (M.map (·.1)) := by
    refine (List.perm_ext_iff_of_nodup hm.nodup (nodup_M h.sorted)).2 fun a => ?_
    rw [← lk_mem_iff, ← lkM_mem_iff, he a]; simp
  have := hp.length_eq
  simpa using this
theorem GridIs.keys {w : World} {gb mb : Nat} {M : GM} {E : List (Ad × Value)} (h : GridIs w gb mb M) (hm : MapIs w mb E) (he : ∀ a, lk a E = (lkM a M).map ceV) : (E.map (·.1)).Perm (M.map (·.1)) := by
  refine (List.perm_ext_iff_of_nodup hm.nodup (nodup_M h.sorted)).2 fun a => ?_
  rw [← lk_mem_iff, ← lkM_mem_iff, he a]; simp
theorem GridIs.put {w w' : World} {gb mb : Nat} {M : GM} (h : GridIs w gb mb M) (hx : CellsIn w w') {E' : List (Ad × Value)} {E : List (Ad × Value)} (he : ∀ a, lk a E = (lkM a M).map ceV) {a : Ad} {x : CE} (hE : E' = upE a (ceV x) E) (hm : MapIs w' mb E') (hxi : ceIn w' x) (hl : (setM a x M).length ≤ 4096) : GridIs w' gb mb (setM a x M) := by
  refine ⟨hx _ _ _ h.cell, ⟨E', hm, fun b => ?_⟩, sorted_setM a x h.sorted, fun y hy => ?_, hl⟩
  · rw [hE, lk_up, lkM_set, he b]
    split <;> simp
  · rcases mem_setM hy with rfl | hy
    · exact hxi
    · exact (h.args y hy).kept hx
theorem GridIs.del {w w' : World} {gb mb : Nat} {M : GM} (h : GridIs w gb mb M) (hx : CellsIn w w') {E' : List (Ad × Value)} {E : List (Ad × Value)} (he : ∀ a, lk a E = (lkM a M).map ceV) {a : Ad} (hE : E' = dlE a E) (hm : MapIs w' mb E') : GridIs w' gb mb (delM a M) := by
  refine ⟨hx _ _ _ h.cell, ⟨E', hm, fun b => ?_⟩, sorted_delM a h.sorted, fun y hy => (h.args y (List.mem_filter.1 hy).1).kept hx, Nat.le_trans (List.length_filter_le ..) h.many⟩
  rw [hE, lk_dl, lkM_del, he b]
  split <;> simp
/-- A content's box: laid empty, then filled. -/
theorem boxR (w : World) (x : CE) : ∃ wZ wR, w.alloc (.cells #[.int .i64 0, .int .i64 0, .float .f64 0, .string ⟨#[]⟩, .bool false, .int .i64 0, .int .i64 0, .int .i64 0, .float .f64 0, .string ⟨#[]⟩, .bool false, .int .i64 0, .int .i64 0, .int .i64 0, .bool false, .bool false, .int .i64 0, .int .i64 0, .bool false, .bool false, .slice none 0 0] 46) = wZ ∧ wZ.setRow w.heap.size #[.int .i64 x.1.kind, .int .i64 x.1.v.kind, .float .f64 x.1.v.x, .string x.1.v.s, .bool x.1.v.b, .int .i64 x.1.v.f, .int .i64 x.1.t.kind, .int .i64 x.1.t.op, .float .f64 x.1.t.x, .string x.1.t.s, .bool x.1.t.b, .int .i64 x.1.t.f, .int .i64 x.1.t.ref.a.1, .int .i64 x.1.t.ref.a.2, .bool x.1.t.ref.cf, .bool x.1.t.ref.rf, .int .i64 x.1.t.to.a.1, .int .i64 x.1.t.to.a.2, .bool x.1.t.to.cf, .bool x.1.t.to.rf, .slice x.2 x.1.t.args.length x.1.t.args.length] = wR ∧ wZ.heap[w.heap.size]? = some (.cells #[.int .i64 0, .int .i64 0, .float .f64 0, .string ⟨#[]⟩, .bool false, .int .i64 0, .int .i64 0, .int .i64 0, .float .f64 0, .string ⟨#[]⟩, .bool false, .int .i64 0, .int .i64 0, .int .i64 0, .bool false, .bool false, .int .i64 0, .int .i64 0, .bool false, .bool false, .slice none 0 0] 46 (0, 0)) ∧ wR.heap[w.heap.size]? = some (.cells #[.int .i64 x.1.kind, .int .i64 x.1.v.kind, .float .f64 x.1.v.x, .string x.1.v.s, .bool x.1.v.b, .int .i64 x.1.v.f, .int .i64 x.1.t.kind, .int .i64 x.1.t.op, .float .f64 x.1.t.x, .string x.1.t.s, .bool x.1.t.b, .int .i64 x.1.t.f, .int .i64 x.1.t.ref.a.1, .int .i64 x.1.t.ref.a.2, .bool x.1.t.ref.cf, .bool x.1.t.ref.rf, .int .i64 x.1.t.to.a.1, .int .i64 x.1.t.to.a.2, .bool x.1.t.to.cf, .bool x.1.t.to.rf, .slice x.2 x.1.t.args.length x.1.t.args.length] 46 (0, 0)) ∧ Xt w wR ∧ wR.heap.size = w.heap.size + 1 ∧ Xt w wZ ∧ wZ.heap.size = w.heap.size + 1 := by
  have h1 := (MapKept.heap_alloc w (.cells #[.int .i64 0, .int .i64 0, .float .f64 0, .string ⟨#[]⟩, .bool false, .int .i64 0, .int .i64 0, .int .i64 0, .float .f64 0, .string ⟨#[]⟩, .bool false, .int .i64 0, .int .i64 0, .int .i64 0, .bool false, .bool false, .int .i64 0, .int .i64 0, .bool false, .bool false, .slice none 0 0] 46)).1
  refine ⟨_, _, rfl, rfl, h1, setRow_heap _ _ _ _ _ _ h1, ((Xt.refl w).alloc _).grownB (setRow_grown _ _ _) (fun m hm => by cases hm; exact Nat.le_refl _), by simp, (Xt.refl w).alloc _, by simp⟩
end
section
open Go.RowKit Go.Sort

def ContT.ok (c : ContT) : Prop := c.v.s.size < 4611686018427387904 ∧ c.t.ok ∧ c.v.x < 18446744073709551616
/-! ### heavy -/
def heavyB (c : ContT) : Bool := decide (1048576 < weightT c.t 1048576)
/-! ### grid.Valid -/
def gvalidB (c : ContT) : Bool :=
  if c.kind == 0 then noValB c.v && noNodeB c.t
  else if c.kind == 1 then noNodeB c.t && (c.v.kind != 0) && vvalidB c.v
  else if c.kind == 2 then noValB c.v && checkT c.t == 0
  else false
set_option maxRecDepth 100000 in
set_option maxHeartbeats 4000000 in
theorem gvalid_0 (n : Nat) (c : ContT) (a : Option Addr) (cap : Nat) (w : World) (hok : c.ok) (hT : Tabs w) (hin : ArgsIn w n (.slice a c.t.args.length cap) c.t.args) (h0 : (c.kind == 0) = true) :
    Calls Tryz.prog 36 #[contV c a c.t.args.length cap] w fun e w' => e = .returned (.bool (noValB c.v && noNodeB c.t)) ∧ Xt w w' := by
  obtain ⟨w0, hw0, hg0, hs0, hC⟩ := boxC w c a c.t.args.length cap 46
  have HG0 := Lib.hid hg0.xt
  have HC := Lib.hid hC
  have HOK := Lib.hid hok
  have HT := Lib.hid hT
  have HIN := Lib.hid hin
  obtain ⟨c0, c1, c2, c3, c4, c5, c6, c7, c8, c9, c10, c11, c12, c13, c14, c15, c16, c17, c18, c19, c20⟩ := hC
  simp only [Nat.zero_add] at c0 c1 c2 c3 c4 c5 c6 c7 c8 c9 c10 c11 c12 c13 c14 c15 c16 c17 c18 c19 c20
  clear hg0 hok hT hin
  have H1 := Lib.hid (noValue_any c.v w0)
  have H2 := Lib.hid (noNode_any c.t a cap)
  generalize noValB c.v = r1 at H1 ⊢
  generalize noNodeB c.t = r2 at H2 ⊢
  go_enter Tryz.func36, Tryz.ntmps36
  go_wp2_with fail
  refine (H1.out).mono ?_
  rintro e w1 ⟨rfl, hg⟩
  have HG1 := Lib.hid (HG0.out.trans hg.xt)
  have hC1 := HC.out.xt hg.xt
  have HC1 := Lib.hid hC1
  clear hg c0 c1 c2 c3 c4 c5 c6 c7 c8 c9 c10 c11 c12 c13 c14 c15 c16 c17 c18 c19 c20
  obtain ⟨c0, c1, c2, c3, c4, c5, c6, c7, c8, c9, c10, c11, c12, c13, c14, c15, c16, c17, c18, c19, c20⟩ := hC1
  simp only [Nat.zero_add] at c0 c1 c2 c3 c4 c5 c6 c7 c8 c9 c10 c11 c12 c13 c14 c15 c16 c17 c18 c19 c20
  clear hw0
  cases r1 with
  | false =>
    go_wp2_with fail
    go_ret
    exact ⟨rfl, HG1.out⟩
  | true =>
    go_wp2_with fail
    refine (H2.out _).mono ?_
    rintro e w2 ⟨rfl, hg⟩
    have HG2 := Lib.hid (HG1.out.trans hg.xt)
    have hC2 := HC1.out.xt hg.xt
    have HC2 := Lib.hid hC2
    clear hg c0 c1 c2 c3 c4 c5 c6 c7 c8 c9 c10 c11 c12 c13 c14 c15 c16 c17 c18 c19 c20
    obtain ⟨c0, c1, c2, c3, c4, c5, c6, c7, c8, c9, c10, c11, c12, c13, c14, c15, c16, c17, c18, c19, c20⟩ := hC2
    simp only [Nat.zero_add] at c0 c1 c2 c3 c4 c5 c6 c7 c8 c9 c10 c11 c12 c13 c14 c15 c16 c17 c18 c19 c20
    cases r2 with
    | false =>
      go_wp2_with fail
      go_ret
      exact ⟨rfl, HG2.out⟩
    | true =>
      go_wp2_with fail
      go_ret
      exact ⟨rfl, HG2.out⟩
set_option maxRecDepth 100000 in
set_option maxHeartbeats 4000000 in
theorem gvalid_1 (n : Nat) (c : ContT) (a : Option Addr) (cap : Nat) (w : World) (hok : c.ok) (hT : Tabs w) (hin : ArgsIn w n (.slice a c.t.args.length cap) c.t.args) (h0 : (c.kind == 0) = false) (h1 : (c.kind == 1) = true) :
    Calls Tryz.prog 36 #[contV c a c.t.args.length cap] w fun e w' => e = .returned (.bool (noNodeB c.t && (c.v.kind != 0) && vvalidB c.v)) ∧ Xt w w' := by
  obtain ⟨w0, hw0, hg0, hs0, hC⟩ := boxC w c a c.t.args.length cap 46
  have HG0 := Lib.hid hg0.xt
  have HC := Lib.hid hC
  have HOK := Lib.hid hok
  have HT := Lib.hid hT
  have HIN := Lib.hid hin
  obtain ⟨c0, c1, c2, c3, c4, c5, c6, c7, c8, c9, c10, c11, c12, c13, c14, c15, c16, c17, c18, c19, c20⟩ := hC
  simp only [Nat.zero_add] at c0 c1 c2 c3 c4 c5 c6 c7 c8 c9 c10 c11 c12 c13 c14 c15 c16 c17 c18 c19 c20
  clear hg0 hok hT hin
  have H1 := Lib.hid (noNode_any c.t a cap w0)
  generalize noNodeB c.t = r1 at H1 ⊢
  generalize hr2 : (c.v.kind != 0) = r2
  generalize hr3 : vvalidB c.v = r3
  have HR3 := Lib.hid hr3
  clear hr3
  go_enter Tryz.func36, Tryz.ntmps36
  go_wp2_with fail
  refine (H1.out).mono ?_
  rintro e w1 ⟨rfl, hg⟩
  have HG1 := Lib.hid (HG0.out.trans hg.xt)
  have hC1 := HC.out.xt hg.xt
  have HC1 := Lib.hid hC1
  clear hg c0 c1 c2 c3 c4 c5 c6 c7 c8 c9 c10 c11 c12 c13 c14 c15 c16 c17 c18 c19 c20
  obtain ⟨c0, c1, c2, c3, c4, c5, c6, c7, c8, c9, c10, c11, c12, c13, c14, c15, c16, c17, c18, c19, c20⟩ := hC1
  simp only [Nat.zero_add] at c0 c1 c2 c3 c4 c5 c6 c7 c8 c9 c10 c11 c12 c13 c14 c15 c16 c17 c18 c19 c20
  clear hw0
  cases r1 with
  | false =>
    go_wp2_with fail
    go_ret
    exact ⟨rfl, HG1.out⟩
  | true =>
    cases r2 with
    | false =>
      go_wp2_with fail
      go_ret
      exact ⟨rfl, HG1.out⟩
    | true =>
      have H3 := Lib.hid (vvalid_any c.v w1 (by have := HOK.out.1; omega) (HT.out.xt HG1.out))
      rw [HR3.out] at H3
      go_wp2_with fail
      refine (H3.out).mono ?_
      rintro e w2 ⟨rfl, hg⟩
      have HG2 := Lib.hid (HG1.out.trans hg)
      have hC2 := HC1.out.xt hg
      have HC2 := Lib.hid hC2
      clear hg c0 c1 c2 c3 c4 c5 c6 c7 c8 c9 c10 c11 c12 c13 c14 c15 c16 c17 c18 c19 c20
      obtain ⟨c0, c1, c2, c3, c4, c5, c6, c7, c8, c9, c10, c11, c12, c13, c14, c15, c16, c17, c18, c19, c20⟩ := hC2
      simp only [Nat.zero_add] at c0 c1 c2 c3 c4 c5 c6 c7 c8 c9 c10 c11 c12 c13 c14 c15 c16 c17 c18 c19 c20
      cases r3 with
      | false =>
        go_wp2_with fail
        go_ret
        exact ⟨rfl, HG2.out⟩
      | true =>
        go_wp2_with fail
        go_ret
        exact ⟨rfl, HG2.out⟩
set_option maxRecDepth 100000 in
set_option maxHeartbeats 4000000 in
theorem gvalid_2 (n : Nat) (c : ContT) (a : Option Addr) (cap : Nat) (w : World) (hok : c.ok) (hT : Tabs w) (hin : ArgsIn w n (.slice a c.t.args.length cap) c.t.args) (h0 : (c.kind == 0) = false) (h1 : (c.kind == 1) = false) (h2 : (c.kind == 2) = true) :
    Calls Tryz.prog 36 #[contV c a c.t.args.length cap] w fun e w' => e = .returned (.bool (noValB c.v && checkT c.t == 0)) ∧ Xt w w' := by
  obtain ⟨w0, hw0, hg0, hs0, hC⟩ := boxC w c a c.t.args.length cap 46
  have HG0 := Lib.hid hg0.xt
  have HC := Lib.hid hC
  have HOK := Lib.hid hok
  have HT := Lib.hid hT
  have HIN := Lib.hid hin
  obtain ⟨c0, c1, c2, c3, c4, c5, c6, c7, c8, c9, c10, c11, c12, c13, c14, c15, c16, c17, c18, c19, c20⟩ := hC
  simp only [Nat.zero_add] at c0 c1 c2 c3 c4 c5 c6 c7 c8 c9 c10 c11 c12 c13 c14 c15 c16 c17 c18 c19 c20
  clear hg0 hok hT hin
  have H1 := Lib.hid (noValue_any c.v w0)
  generalize noValB c.v = r1 at H1 ⊢
  generalize hr2 : checkT c.t = r2
  generalize hz : (r2 == 0) = rz
  have HR2 := Lib.hid hr2
  clear hr2
  go_enter Tryz.func36, Tryz.ntmps36
  go_wp2_with fail
  refine (H1.out).mono ?_
  rintro e w1 ⟨rfl, hg⟩
  have HG1 := Lib.hid (HG0.out.trans hg.xt)
  have hC1 := HC.out.xt hg.xt
  have HC1 := Lib.hid hC1
  clear hg c0 c1 c2 c3 c4 c5 c6 c7 c8 c9 c10 c11 c12 c13 c14 c15 c16 c17 c18 c19 c20
  obtain ⟨c0, c1, c2, c3, c4, c5, c6, c7, c8, c9, c10, c11, c12, c13, c14, c15, c16, c17, c18, c19, c20⟩ := hC1
  simp only [Nat.zero_add] at c0 c1 c2 c3 c4 c5 c6 c7 c8 c9 c10 c11 c12 c13 c14 c15 c16 c17 c18 c19 c20
  clear hw0
  cases r1 with
  | false =>
    go_wp2_with fail
    go_ret
    exact ⟨rfl, HG1.out⟩
  | true =>
    have H2 := Lib.hid (Check_any n c.t a cap w1 HOK.out.2.1 (HT.out.xt HG1.out) (HIN.out.xt HG1.out))
    rw [HR2.out] at H2
    go_wp2_with fail
    refine (H2.out).mono ?_
    rintro e w2 ⟨rfl, hg⟩
    have HG2 := Lib.hid (HG1.out.trans hg)
    have hC2 := HC1.out.xt hg
    have HC2 := Lib.hid hC2
    clear hg c0 c1 c2 c3 c4 c5 c6 c7 c8 c9 c10 c11 c12 c13 c14 c15 c16 c17 c18 c19 c20
    obtain ⟨c0, c1, c2, c3, c4, c5, c6, c7, c8, c9, c10, c11, c12, c13, c14, c15, c16, c17, c18, c19, c20⟩ := hC2
    simp only [Nat.zero_add] at c0 c1 c2 c3 c4 c5 c6 c7 c8 c9 c10 c11 c12 c13 c14 c15 c16 c17 c18 c19 c20
    cases rz with
    | false =>
      go_wp2_with fail
      go_ret
      exact ⟨rfl, HG2.out⟩
    | true =>
      go_wp2_with fail
      go_ret
      exact ⟨rfl, HG2.out⟩
set_option maxRecDepth 100000 in
set_option maxHeartbeats 4000000 in
theorem gvalid_none (n : Nat) (c : ContT) (a : Option Addr) (cap : Nat) (w : World) (hok : c.ok) (hT : Tabs w) (hin : ArgsIn w n (.slice a c.t.args.length cap) c.t.args) (h0 : (c.kind == 0) = false) (h1 : (c.kind == 1) = false) (h2 : (c.kind == 2) = false) :
    Calls Tryz.prog 36 #[contV c a c.t.args.length cap] w fun e w' => e = .returned (.bool (false)) ∧ Xt w w' := by
  obtain ⟨w0, hw0, hg0, hs0, hC⟩ := boxC w c a c.t.args.length cap 46
  have HG0 := Lib.hid hg0.xt
  have HC := Lib.hid hC
  have HOK := Lib.hid hok
  have HT := Lib.hid hT
  have HIN := Lib.hid hin
  obtain ⟨c0, c1, c2, c3, c4, c5, c6, c7, c8, c9, c10, c11, c12, c13, c14, c15, c16, c17, c18, c19, c20⟩ := hC
  simp only [Nat.zero_add] at c0 c1 c2 c3 c4 c5 c6 c7 c8 c9 c10 c11 c12 c13 c14 c15 c16 c17 c18 c19 c20
  clear hg0 hok hT hin
  go_enter Tryz.func36, Tryz.ntmps36
  go_wp2_with fail
  go_ret
  exact ⟨rfl, HG0.out⟩
theorem gvalid_any (n : Nat) (c : ContT) (a : Option Addr) (cap : Nat) (w : World) (hok : c.ok) (hT : Tabs w) (hin : ArgsIn w n (.slice a c.t.args.length cap) c.t.args) :
    Calls Tryz.prog 36 #[contV c a c.t.args.length cap] w fun e w' => e = .returned (.bool (gvalidB c)) ∧ Xt w w' := by
  unfold gvalidB
  by_cases h0 : (c.kind == 0) = true
  · rw [if_pos h0]; exact gvalid_0 n c a cap w hok hT hin h0
  rw [if_neg h0]
  have h0 := Bool.eq_false_iff.2 h0
  by_cases h1 : (c.kind == 1) = true
  · rw [if_pos h1]; exact gvalid_1 n c a cap w hok hT hin h0 h1
  rw [if_neg h1]
  have h1 := Bool.eq_false_iff.2 h1
  by_cases h2 : (c.kind == 2) = true
  · rw [if_pos h2]; exact gvalid_2 n c a cap w hok hT hin h0 h1 h2
  rw [if_neg h2]
  exact gvalid_none n c a cap w hok hT hin h0 h1 (Bool.eq_false_iff.2 h2)

theorem small_of_heavy {c : ContT} (h : heavyB c = false) : smallT c.t := by
  unfold heavyB at h
  have := of_decide_eq_false h
  exact weightT_small c.t 1048576 (by omega) (by omega) (by omega)
end
end Go.Proofs.YtideclfpbpjebaaGreatDoor
