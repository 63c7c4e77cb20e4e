import Derived.Test.YtdoeejhdenifpaaGreatDoorB10
set_option maxRecDepth 100000
set_option maxHeartbeats 16000000
namespace Go.Proofs.YtdoeejhdenifpaaGreatDoor
section
open Go.RowKit Go.Sort
theorem zVT (n : Nat) (ih : ∀ m, m < n -> jLY m) (t : NodeT) (a : Option Addr) (cap : Nat) (ins : Bool) (w : World) (hok : t.ok) (hT : Tabs w) (hin : ArgsIn w n (.slice a t.args.length cap) t.args) (hk : (t.kind == 5) = true \/ (t.kind == 6) = true) :
    Calls Tryz.prog 135 #[jSk t a t.args.length cap, .bool ins] w fun e w' => e = .returned (.int .i64 (yG3 t ins)) /\ Xt w w' := by
 have HIN := h_ hin;obtain ⟨_, _, he, q1, q2⟩ := hin.shape;cases he;have IH := h_ ih;have HOK := h_ hok;have HT := h_ hT;obtain ⟨w0, hw0, hg0, hs0, hN⟩ := boxN w t a t.args.length cap 49;have HG0 := h_ hg0;have HN := h_ hN;have HMADE := h_ (z8M t a cap w0 hok (hT.xt hg0.xt));obtain ⟨c0, c1, c2, c3, c4, c5, c6, c7, c8, c9, c10, c11, c12, c13, c14⟩ := hN;simp only [Nat.zero_add] at c0 c1 c2 c3 c4 c5 c6 c7 c8 c9 c10 c11 c12 c13 c14;have H5 := h_ (zzc t.ref.a.1 t.ref.a.2);have H6 := h_ (jfv t.ref.a.1 t.ref.a.2 t.to.a.1 t.to.a.2);have H9 := h_ (z6f t.s);generalize hans : yG3 t ins = ans;have HA := h_ hans
 rw [jR2] at HA;generalize zGb t = mb at HMADE HA;generalize hva : (y8L t.ref.a.1 t.ref.a.2 && y8L t.to.a.1 t.to.a.2 && decide (t.ref.a.1 <= t.to.a.1) && decide (t.ref.a.2 <= t.to.a.2)) = va at H6 HA;generalize hvb : y8L t.ref.a.1 t.ref.a.2 = vb at H5 HA;generalize jrj t.s.toList = kn at H9 HA;obtain ⟨kn1, kn2, kn3⟩ := kn;simp only at H9 HA;generalize hk5 : (t.kind == 5) = b5 at HA hk;generalize hk6 : (t.kind == 6) = b6 at HA hk;generalize hk9 : (t.kind == 9) = b9 at HA;clear hans hva hvb hok hT hg0 hin ih;go_enter Tryz.func135, Tryz.ntmps135;go_wp2_with fail;refine (HMADE.out).mono ?_;rintro e w1 ⟨rfl, hx1⟩;have HN1 := h_ (HN.out.xt hx1)
 have HX1 := h_ (HG0.out.xt.trans hx1);have hsz1 : w.heap.size < w1.heap.size := (by have := hx1.sz; omega);clear hx1 hw0 c0 c1 c2 c3 c4 c5 c6 c7 c8 c9 c10 c11 c12 c13 c14;obtain ⟨c0, c1, c2, c3, c4, c5, c6, c7, c8, c9, c10, c11, c12, c13, c14⟩ := HN1.out;simp only [Nat.zero_add] at c0 c1 c2 c3 c4 c5 c6 c7 c8 c9 c10 c11 c12 c13 c14;cases mb with
 | false =>
  go_wp2_with fail;go_ret;exact ⟨congrArg (fun z => Ending.returned (.int .i64 z)) HA.out, HX1.out⟩
 | true =>
  simp only [reduceIte] at HA;cases b5
  case' true =>
   try simp only [reduceIte] at HA
   go_wp2_with fail;refine (H5.out _).mono ?_;rintro e w2 ⟨rfl, hg2⟩;have HX2 := h_ (HX1.out.trans hg2.xt);have hN2 := HN1.out.xt hg2.xt;have HN2 := h_ hN2;have hsz2 : w.heap.size < w2.heap.size := (by have := hg2.xt.sz; omega);clear c0 c1 c2 c3 c4 c5 c6 c7 c8 c9 c10 c11 c12 c13 c14;clear hg2;obtain ⟨c0, c1, c2, c3, c4, c5, c6, c7, c8, c9, c10, c11, c12, c13, c14⟩ := hN2;simp only [Nat.zero_add] at c0 c1 c2 c3 c4 c5 c6 c7 c8 c9 c10 c11 c12 c13 c14;cases vb
   case false =>
    try simp only [reduceIte, Bool.false_eq_true] at HA
    go_wp2_with fail;go_ret;exact ⟨congrArg (fun z => Ending.returned (.int .i64 z)) HA.out, HX2.out⟩
   try simp only [reduceIte] at HA
   obtain ⟨bb, hbb⟩ : ∃ bb, bb = b9 := ⟨_, rfl⟩;rw [<- hbb] at HA
  case' false =>
   cases b6
   case false => exact absurd hk (by simp)
   case' true =>
    try simp only [reduceIte, Bool.false_eq_true] at HA
    go_wp2_with fail;refine (H6.out _).mono ?_;rintro e w2 ⟨rfl, hg2⟩;have HX2 := h_ (HX1.out.trans hg2.xt);have hN2 := HN1.out.xt hg2.xt;have HN2 := h_ hN2;have hsz2 : w.heap.size < w2.heap.size := (by have := hg2.xt.sz; omega);clear c0 c1 c2 c3 c4 c5 c6 c7 c8 c9 c10 c11 c12 c13 c14;clear hg2;obtain ⟨c0, c1, c2, c3, c4, c5, c6, c7, c8, c9, c10, c11, c12, c13, c14⟩ := hN2;simp only [Nat.zero_add] at c0 c1 c2 c3 c4 c5 c6 c7 c8 c9 c10 c11 c12 c13 c14;cases va
    case false =>
     try simp only [reduceIte, Bool.false_eq_true] at HA
     go_wp2_with fail;go_ret;exact ⟨congrArg (fun z => Ending.returned (.int .i64 z)) HA.out, HX2.out⟩
    try simp only [reduceIte] at HA
    cases ins
    case false =>
     try simp only [reduceIte, Bool.false_eq_true] at HA
     go_wp2_with fail;go_ret;exact ⟨congrArg (fun z => Ending.returned (.int .i64 z)) HA.out, HX2.out⟩
    try simp only [reduceIte] at HA
    obtain ⟨bb, hbb⟩ : ∃ bb, bb = b9 := ⟨_, rfl⟩;rw [<- hbb] at HA
  all_goals
   have HBB := h_ hbb;clear hbb hk;go_wp2_with fail;have HF : Hid (ziB (t.args.drop 0) bb = ans) := (by have h := HA.out; rw [List.drop_zero]; exact h);clear c0 c1 c2 c3 c4 c5 c6 c7 c8 c9 c10 c11 c12 c13 c14
   go_loopw [62] (fun s62 wr => ∃ i : Nat, i <= t.args.length /\ s62 = .int .i64 i /\ Hid (ziB (t.args.drop i) bb = ans) /\ Hid (Xt w2 wr)) (fun s62 _ => t.args.length - (intOf s62).toNat)
   case atStart => exact ⟨0, Nat.zero_le _, rfl, HF, Xt.refl _⟩
   case round =>
    obtain ⟨i, hi, rfl, HWi, HG⟩ := hrel;have hNr := HN2.out.xt HG.out;have c0 := hNr.c0;have c14 := hNr.c14;simp only [Nat.zero_add] at c0 c14;by_cases hlt : i < t.args.length
    . have hii : (i : Int) < (t.args.length : Int) := (by omega);obtain ⟨u, hx⟩ : ∃ u, t.args[i]? = some u := ⟨t.args[i], by simp [hlt]⟩;have hdr := ykK hx;obtain ⟨n', bk, off, a', c', hn, rfl, hA, hI⟩ := HIN.out.at hx;have hxw : Xt w wr := HX2.out.trans HG.out;have hou := yQB (NodeT.ok_args HOK.out) hx;obtain ⟨d0, d1, d2, d3, d4, d5, d6, d7, d8, d9, d10, d11, d12, d13, d14⟩ := hA.xt hxw;obtain ⟨wq, hwq, hgq, hsq, hB⟩ := boxN wr u a' u.args.length c' 49;obtain ⟨e0, e1, e2, e3, e4, e5, e6, e7, e8, e9, e10, e11, e12, e13, e14⟩ := hB;simp only [Nat.zero_add] at e0 e1 e2 e3 e4 e5 e6 e7 e8 e9 e10 e11 e12 e13 e14
      have c0q : wq.cell? ⟨w.heap.size, 0, none⟩ = some (.int .i64 t.kind) := ((hgq.xt.cells).1 _ _ (b_ _ _ c0)).trans c0;have hcall := IH.out n' (by omega) u a' c' bb wq hou (HT.out.xt (hxw.trans hgq.xt)) ((hI.xt hxw).xt hgq.xt);have hf := HWi.out;rw [hdr] at hf;simp only [ziB] at hf;have HF := h_ hf;have HGQ := h_ hgq;generalize yG3 u bb = fu at HF hcall;rw [HBB.out] at hcall;have HCALL := h_ hcall;clear hx hdr hA hI hn hcall hxw hgq hf hou hNr;by_cases hz : fu = 0
      . subst hz;have HF2 : Hid (ziB (t.args.drop (i + 1)) bb = ans) := (by have h := HF.out; rw [if_pos rfl] at h; exact h);go_wp2_with fail;refine (HCALL.out).mono ?_;rintro e w4 ⟨rfl, hg4⟩;have HG4 := h_ hg4;clear hg4 d0 d1 d2 d3 d4 d5 d6 d7 d8 d9 d10 d11 d12 d13 d14 e0 e1 e2 e3 e4 e5 e6 e7 e8 e9 e10 e11 e12 e13 e14;go_wp2_with fail;go_roundw
        case rel => exact ⟨i + 1, by omega, by go_num, HF2, (HG.out.trans HGQ.out.xt).trans HG4.out⟩
        case measure => simp [intOf]; omega
      . have HF2 : Hid (fu = ans) := (by have h := HF.out; rw [if_neg hz] at h; exact h);have hzb : (fu == 0) = false := (by simpa using hz);go_wp2_with fail;refine (HCALL.out).mono ?_;rintro e w4 ⟨rfl, hg4⟩;have HG4 := h_ hg4;clear hg4 d0 d1 d2 d3 d4 d5 d6 d7 d8 d9 d10 d11 d12 d13 d14 e0 e1 e2 e3 e4 e5 e6 e7 e8 e9 e10 e11 e12 e13 e14;go_wp2_with fail;go_ret;exact ⟨congrArg (fun z => Ending.returned (.int .i64 z)) HF2.out, HX2.out.trans ((HG.out.trans HGQ.out.xt).trans HG4.out)⟩
    . have HE : Hid (0 = ans) := by
       have h := HWi.out;rw [List.drop_eq_nil_of_le (by omega)] at h;simp only [ziB] at h;exact h
      go_wp2_with fail;go_ret;exact ⟨congrArg (fun z => Ending.returned (.int .i64 z)) HE.out, HX2.out.trans HG.out⟩
theorem jjW (n : Nat) (ih : ∀ m, m < n -> jLY m) (t : NodeT) (a : Option Addr) (cap : Nat) (ins : Bool) (w : World) (hok : t.ok) (hT : Tabs w) (hin : ArgsIn w n (.slice a t.args.length cap) t.args) (hk : (t.kind == 5) = false /\ (t.kind == 6) = false) :
    Calls Tryz.prog 135 #[jSk t a t.args.length cap, .bool ins] w fun e w' => e = .returned (.int .i64 (yG3 t ins)) /\ Xt w w' := by
 have HIN := h_ hin;obtain ⟨_, _, he, q1, q2⟩ := hin.shape;cases he;have IH := h_ ih;have HOK := h_ hok;have HT := h_ hT;obtain ⟨w0, hw0, hg0, hs0, hN⟩ := boxN w t a t.args.length cap 49;have HG0 := h_ hg0;have HN := h_ hN;have HMADE := h_ (z8M t a cap w0 hok (hT.xt hg0.xt));obtain ⟨c0, c1, c2, c3, c4, c5, c6, c7, c8, c9, c10, c11, c12, c13, c14⟩ := hN;simp only [Nat.zero_add] at c0 c1 c2 c3 c4 c5 c6 c7 c8 c9 c10 c11 c12 c13 c14;have H5 := h_ (zzc t.ref.a.1 t.ref.a.2);have H6 := h_ (jfv t.ref.a.1 t.ref.a.2 t.to.a.1 t.to.a.2);have H9 := h_ (z6f t.s);generalize hans : yG3 t ins = ans;have HA := h_ hans
 rw [jR2] at HA;generalize zGb t = mb at HMADE HA;generalize hva : (y8L t.ref.a.1 t.ref.a.2 && y8L t.to.a.1 t.to.a.2 && decide (t.ref.a.1 <= t.to.a.1) && decide (t.ref.a.2 <= t.to.a.2)) = va at H6 HA;generalize hvb : y8L t.ref.a.1 t.ref.a.2 = vb at H5 HA;generalize jrj t.s.toList = kn at H9 HA;obtain ⟨kn1, kn2, kn3⟩ := kn;simp only at H9 HA;generalize hk5 : (t.kind == 5) = b5 at HA hk;generalize hk6 : (t.kind == 6) = b6 at HA hk;generalize hk9 : (t.kind == 9) = b9 at HA;clear hans hva hvb hok hT hg0 hin ih;go_enter Tryz.func135, Tryz.ntmps135;go_wp2_with fail;refine (HMADE.out).mono ?_;rintro e w1 ⟨rfl, hx1⟩;have HN1 := h_ (HN.out.xt hx1)
 have HX1 := h_ (HG0.out.xt.trans hx1);have hsz1 : w.heap.size < w1.heap.size := (by have := hx1.sz; omega);clear hx1 hw0 c0 c1 c2 c3 c4 c5 c6 c7 c8 c9 c10 c11 c12 c13 c14;obtain ⟨c0, c1, c2, c3, c4, c5, c6, c7, c8, c9, c10, c11, c12, c13, c14⟩ := HN1.out;simp only [Nat.zero_add] at c0 c1 c2 c3 c4 c5 c6 c7 c8 c9 c10 c11 c12 c13 c14;cases mb with
 | false =>
  go_wp2_with fail;go_ret;exact ⟨congrArg (fun z => Ending.returned (.int .i64 z)) HA.out, HX1.out⟩
 | true =>
  simp only [reduceIte] at HA;cases b5
  case true => exact absurd hk.1 (by simp)
  cases b6
  case true => exact absurd hk.2 (by simp)
  cases b9
  case' true =>
   try simp only [reduceIte, Bool.false_eq_true] at HA
   go_wp2_with fail;refine (H9.out _).mono ?_;rintro e w2 ⟨rfl, hg2⟩;have HX2 := h_ (HX1.out.trans hg2.xt);have hN2 := HN1.out.xt hg2.xt;have HN2 := h_ hN2;have hsz2 : w.heap.size < w2.heap.size := (by have := hg2.xt.sz; omega);clear c0 c1 c2 c3 c4 c5 c6 c7 c8 c9 c10 c11 c12 c13 c14;clear hg2;obtain ⟨c0, c1, c2, c3, c4, c5, c6, c7, c8, c9, c10, c11, c12, c13, c14⟩ := hN2;simp only [Nat.zero_add] at c0 c1 c2 c3 c4 c5 c6 c7 c8 c9 c10 c11 c12 c13 c14;cases kn3
   case false =>
    try simp only [reduceIte, Bool.false_eq_true] at HA
    go_wp2_with fail;go_ret;exact ⟨congrArg (fun z => Ending.returned (.int .i64 z)) HA.out, HX2.out⟩
   try simp only [reduceIte] at HA
   by_cases hl1 : (t.args.length : Int) < kn1
   . rw [if_pos hl1] at HA;go_wp2_with fail;go_ret;exact ⟨congrArg (fun z => Ending.returned (.int .i64 z)) HA.out, HX2.out⟩
   rw [if_neg hl1] at HA;by_cases hl2 : kn2 < (t.args.length : Int)
   . rw [if_pos hl2] at HA;go_wp2_with fail;go_ret;exact ⟨congrArg (fun z => Ending.returned (.int .i64 z)) HA.out, HX2.out⟩
   rw [if_neg hl2] at HA;obtain ⟨bb, hbb⟩ : ∃ bb, bb = true := ⟨_, rfl⟩;rw [<- hbb] at HA
  case' false =>
   try simp only [reduceIte, Bool.false_eq_true] at HA
   rename World => w2
   have HX2 := HX1;have HN2 := HN1;have hsz2 := hsz1;obtain ⟨bb, hbb⟩ : ∃ bb, bb = false := ⟨_, rfl⟩;rw [<- hbb] at HA
  all_goals
   have HBB := h_ hbb;clear hbb hk;go_wp2_with fail;have HF : Hid (ziB (t.args.drop 0) bb = ans) := (by have h := HA.out; rw [List.drop_zero]; exact h);clear c0 c1 c2 c3 c4 c5 c6 c7 c8 c9 c10 c11 c12 c13 c14
   go_loopw [62] (fun s62 wr => ∃ i : Nat, i <= t.args.length /\ s62 = .int .i64 i /\ Hid (ziB (t.args.drop i) bb = ans) /\ Hid (Xt w2 wr)) (fun s62 _ => t.args.length - (intOf s62).toNat)
   case atStart => exact ⟨0, Nat.zero_le _, rfl, HF, Xt.refl _⟩
   case round =>
    obtain ⟨i, hi, rfl, HWi, HG⟩ := hrel;have hNr := HN2.out.xt HG.out;have c0 := hNr.c0;have c14 := hNr.c14;simp only [Nat.zero_add] at c0 c14;by_cases hlt : i < t.args.length
    . have hii : (i : Int) < (t.args.length : Int) := (by omega);obtain ⟨u, hx⟩ : ∃ u, t.args[i]? = some u := ⟨t.args[i], by simp [hlt]⟩;have hdr := ykK hx;obtain ⟨n', bk, off, a', c', hn, rfl, hA, hI⟩ := HIN.out.at hx;have hxw : Xt w wr := HX2.out.trans HG.out;have hou := yQB (NodeT.ok_args HOK.out) hx;obtain ⟨d0, d1, d2, d3, d4, d5, d6, d7, d8, d9, d10, d11, d12, d13, d14⟩ := hA.xt hxw;obtain ⟨wq, hwq, hgq, hsq, hB⟩ := boxN wr u a' u.args.length c' 49;obtain ⟨e0, e1, e2, e3, e4, e5, e6, e7, e8, e9, e10, e11, e12, e13, e14⟩ := hB;simp only [Nat.zero_add] at e0 e1 e2 e3 e4 e5 e6 e7 e8 e9 e10 e11 e12 e13 e14
      have c0q : wq.cell? ⟨w.heap.size, 0, none⟩ = some (.int .i64 t.kind) := ((hgq.xt.cells).1 _ _ (b_ _ _ c0)).trans c0;have hcall := IH.out n' (by omega) u a' c' bb wq hou (HT.out.xt (hxw.trans hgq.xt)) ((hI.xt hxw).xt hgq.xt);have hf := HWi.out;rw [hdr] at hf;simp only [ziB] at hf;have HF := h_ hf;have HGQ := h_ hgq;generalize yG3 u bb = fu at HF hcall;rw [HBB.out] at hcall;have HCALL := h_ hcall;clear hx hdr hA hI hn hcall hxw hgq hf hou hNr;by_cases hz : fu = 0
      . subst hz;have HF2 : Hid (ziB (t.args.drop (i + 1)) bb = ans) := (by have h := HF.out; rw [if_pos rfl] at h; exact h);go_wp2_with fail;refine (HCALL.out).mono ?_;rintro e w4 ⟨rfl, hg4⟩;have HG4 := h_ hg4;clear hg4 d0 d1 d2 d3 d4 d5 d6 d7 d8 d9 d10 d11 d12 d13 d14 e0 e1 e2 e3 e4 e5 e6 e7 e8 e9 e10 e11 e12 e13 e14;go_wp2_with fail;go_roundw
        case rel => exact ⟨i + 1, by omega, by go_num, HF2, (HG.out.trans HGQ.out.xt).trans HG4.out⟩
        case measure => simp [intOf]; omega
      . have HF2 : Hid (fu = ans) := (by have h := HF.out; rw [if_neg hz] at h; exact h);have hzb : (fu == 0) = false := (by simpa using hz);go_wp2_with fail;refine (HCALL.out).mono ?_;rintro e w4 ⟨rfl, hg4⟩;have HG4 := h_ hg4;clear hg4 d0 d1 d2 d3 d4 d5 d6 d7 d8 d9 d10 d11 d12 d13 d14 e0 e1 e2 e3 e4 e5 e6 e7 e8 e9 e10 e11 e12 e13 e14;go_wp2_with fail;go_ret;exact ⟨congrArg (fun z => Ending.returned (.int .i64 z)) HF2.out, HX2.out.trans ((HG.out.trans HGQ.out.xt).trans HG4.out)⟩
    . have HE : Hid (0 = ans) := by
       have h := HWi.out;rw [List.drop_eq_nil_of_le (by omega)] at h;simp only [ziB] at h;exact h
      go_wp2_with fail;go_ret;exact ⟨congrArg (fun z => Ending.returned (.int .i64 z)) HE.out, HX2.out.trans HG.out⟩
theorem yml : ∀ n, jLY n := by
 intro n
 induction n using Nat.strongRecOn with
 | ind n ih =>
  intro t a cap ins w hok hT hin;by_cases h : (t.kind == 5) = true \/ (t.kind == 6) = true
  . exact zVT n ih t a cap ins w hok hT hin h
  . exact jjW n ih t a cap ins w hok hT hin ⟨Bool.eq_false_iff.2 fun e => h (Or.inl e), Bool.eq_false_iff.2 fun e => h (Or.inr e)⟩
def ywH (t : NodeT) : Int := if 256 < (zAv t).1 then 34 else if 32 < (zAv t).2 then 33 else yG3 t false
theorem znR (n : Nat) (t : NodeT) (a : Option Addr) (cap : Nat) (w : World) (hok : t.ok) (hT : Tabs w) (hin : ArgsIn w n (.slice a t.args.length cap) t.args) :
    Calls Tryz.prog 102 #[jSk t a t.args.length cap] w fun e w' => e = .returned (.int .i64 (ywH t)) /\ Xt w w' := by
 obtain ⟨w0, hw0, hg0, hs0, hN⟩ := boxN w t a t.args.length cap 49;have HG0 := h_ hg0;have HN := h_ hN;have hm := h_ (yQh n t a cap w0 (hin.xt hg0.xt));have HIN := h_ hin;have HOK := h_ hok;have HT := h_ hT;obtain ⟨c0, c1, c2, c3, c4, c5, c6, c7, c8, c9, c10, c11, c12, c13, c14⟩ := hN;simp only [Nat.zero_add] at c0 c1 c2 c3 c4 c5 c6 c7 c8 c9 c10 c11 c12 c13 c14;generalize hans : ywH t = ans;have HA := h_ hans;unfold ywH at HA;generalize zAv t = mt at hm HA;obtain ⟨m1, m2⟩ := mt;simp only at hm HA;clear hans hok hT hg0 hin;go_enter Tryz.func102, Tryz.ntmps102;go_wp2_with fail;refine (hm.out).mono ?_;rintro e w1 ⟨rfl, hg1⟩
 have HG1 := h_ hg1;have hN1 := HN.out.xt hg1.xt;have hf := h_ (yml n t a cap false w1 HOK.out (HT.out.xt (HG0.out.xt.trans hg1.xt)) (HIN.out.xt (HG0.out.xt.trans hg1.xt)));clear hg1 hw0 c0 c1 c2 c3 c4 c5 c6 c7 c8 c9 c10 c11 c12 c13 c14;obtain ⟨c0, c1, c2, c3, c4, c5, c6, c7, c8, c9, c10, c11, c12, c13, c14⟩ := hN1;simp only [Nat.zero_add] at c0 c1 c2 c3 c4 c5 c6 c7 c8 c9 c10 c11 c12 c13 c14;generalize yG3 t false = ft at hf HA;by_cases h1 : 256 < m1
 . rw [if_pos h1] at HA;go_wp2_with fail;go_ret;exact ⟨congrArg (fun z => Ending.returned (.int .i64 z)) HA.out, HG0.out.xt.trans HG1.out.xt⟩
 . rw [if_neg h1] at HA;by_cases h2 : 32 < m2
   . rw [if_pos h2] at HA;go_wp2_with fail;go_ret;exact ⟨congrArg (fun z => Ending.returned (.int .i64 z)) HA.out, HG0.out.xt.trans HG1.out.xt⟩
   . rw [if_neg h2] at HA;go_wp2_with fail;refine (hf.out).mono ?_;rintro e w2 ⟨rfl, hx2⟩;have HX2 := h_ hx2;clear hx2;go_wp2_with fail;go_ret;exact ⟨congrArg (fun z => Ending.returned (.int .i64 z)) HA.out, (HG0.out.xt.trans HG1.out.xt).trans HX2.out⟩
def yKr (x : Nat) (s : ByteArray) (b : Bool) (f : Int) : Bool := decide ((x : Int) = 0) && decide (s.toList = []) && !b && decide (f = 0)
theorem yBc : (ByteArray.mk #[]).toList = [] := by first | (simp; done) | (unfold ByteArray.toList ByteArray.toList.loop; simp; done) | (unfold ByteArray.toList; rw [ByteArray.toList.loop]; rfl) | decide
abbrev valW (k : Int) (x : Nat) (s : ByteArray) (b : Bool) (f : Int) : Value := .agg #[.int .i64 k, .float .f64 x, s, b, f]
theorem jSm (x : Nat) (s : ByteArray) (b : Bool) (f : Int) (w : World) :
    Calls Tryz.prog 101 #[valW 0 x s b f] w fun e w' => e = .returned (.bool (yKr x s b f)) /\ Xt w w' := by
 obtain ⟨w0, hw0, hg0, hs0, c0, c1, c2, c3, c4⟩ := boxV w ⟨0, x, s, b, f⟩ 44;simp only at hw0 c0 c1 c2 c3 c4;have HG0 := h_ hg0;clear hg0;go_enter Tryz.func101, Tryz.ntmps101;go_wp2_with fail
 all_goals (go_ret; refine ⟨?_, (HG0.out.alloc _).xt⟩; first | (simp [yKr, *]; done) | (simp [yKr, yBc, *]; omega) | (simp [yKr, yBc, *]; intros; exfalso; omega) | (by_cases hx : x = 0 <;> simp_all [yKr, yBc, y11]; done))
theorem zyu (x : Nat) (s : ByteArray) (b : Bool) (f : Int) (w : World) :
    Calls Tryz.prog 101 #[valW 1 x s b f] w fun e w' => e = .returned (.bool (yKr 0 s b f)) /\ Xt w w' := by
 obtain ⟨w0, hw0, hg0, hs0, c0, c1, c2, c3, c4⟩ := boxV w ⟨1, x, s, b, f⟩ 44;simp only at hw0 c0 c1 c2 c3 c4;have HG0 := h_ hg0;clear hg0;go_enter Tryz.func101, Tryz.ntmps101;go_wp2_with fail
 all_goals (go_ret; refine ⟨?_, (HG0.out.alloc _).xt⟩; first | (simp [yKr, *]; done) | (simp [yKr, yBc, *]; omega) | (simp [yKr, yBc, *]; intros; exfalso; omega) | (by_cases hx : x = 0 <;> simp_all [yKr, yBc, y11]; done))
theorem zoU (x : Nat) (s : ByteArray) (b : Bool) (f : Int) (w : World) (hs : s.size <= 9223372036854775807) (hT : Tabs w) :
    Calls Tryz.prog 101 #[valW 2 x s b f] w fun e w' => e = .returned (.bool ((Lib.validD s.data.toList && decide ((s.size : Int) <= 1024) && yKr x ⟨#[]⟩ b f))) /\ Xt w w' := by
 obtain ⟨w0, hw0, hg0, hs0, c0, c1, c2, c3, c4⟩ := boxV w ⟨2, x, s, b, f⟩ 44;simp only at hw0 c0 c1 c2 c3 c4;have HG0 := h_ hg0;obtain ⟨w1, hw1, hg1, hs1, d0, d1, d2, d3, d4⟩ := boxV w0 ⟨2, x, ⟨#[]⟩, b, f⟩ 44;rw [hs0] at hs1 d0 d1 d2 d3 d4;simp only at hw1 d0 d1 d2 d3 d4;have kk := fun o => (hg1.xt.cells).1 w.heap.size o (by omega);have k0 := (kk 0).trans c0;have k1 := (kk 1).trans c1;have k2 := (kk 2).trans c2;have k3 := (kk 3).trans c3;have k4 := (kk 4).trans c4;have HG := h_ (hg0.trans hg1);have H1 := h_ (yPC s w1 hs (hT.xt HG.out.xt));generalize Lib.validD s.data.toList = vd at H1 ⊢;clear hT hs kk hg1 hg0;go_enter Tryz.func101, Tryz.ntmps101;go_wp2_with fail
 refine (H1.out).mono ?_;rintro e w3 ⟨rfl, hb3⟩;have hx3 : Xt w1 w3 := hb3;have kc := fun o => (hx3.cells).1 w.heap.size o (by omega);have kd := fun o => (hx3.cells).1 (w.heap.size + 1) o (by omega);have m0 := (kc 0).trans k0;have m1 := (kc 1).trans k1;have m2 := (kc 2).trans k2;have m3 := (kc 3).trans k3;have m4 := (kc 4).trans k4;have n0 := (kd 0).trans d0;have n1 := (kd 1).trans d1;have n2 := (kd 2).trans d2;have n3 := (kd 3).trans d3;have n4 := (kd 4).trans d4;have HX := h_ (Xt.trans HG.out.xt hx3);clear hb3 hx3 kc kd c0 c1 c2 c3 c4 k0 k1 k2 k3 k4 d0 d1 d2 d3 d4 hw0 hw1;cases vd
 all_goals
  go_wp2_with fail
  all_goals (go_ret; refine ⟨?_, HX.out⟩; first | (simp [yKr, *]; done) | (simp [yKr, *]; omega) | (simp [yKr, yBc, *]; intros; exfalso; omega) | (by_cases hx : x = 0 <;> simp_all [yKr, yBc, y11]; done))
theorem zRq (x : Nat) (s : ByteArray) (b : Bool) (f : Int) (w : World) :
    Calls Tryz.prog 101 #[valW 3 x s b f] w fun e w' => e = .returned (.bool (yKr x s false f)) /\ Xt w w' := by
 obtain ⟨w0, hw0, hg0, hs0, c0, c1, c2, c3, c4⟩ := boxV w ⟨3, x, s, b, f⟩ 44;simp only at hw0 c0 c1 c2 c3 c4;have HG0 := h_ hg0;clear hg0;go_enter Tryz.func101, Tryz.ntmps101;go_wp2_with fail
 all_goals (go_ret; refine ⟨?_, (HG0.out.alloc _).xt⟩; first | (simp [yKr, *]; done) | (simp [yKr, yBc, *]; omega) | (simp [yKr, yBc, *]; intros; exfalso; omega) | (by_cases hx : x = 0 <;> simp_all [yKr, yBc, y11]; done))
theorem ykC (x : Nat) (s : ByteArray) (b : Bool) (f : Int) (w : World) :
    Calls Tryz.prog 101 #[valW 4 x s b f] w fun e w' => e = .returned (.bool ((decide (1 <= f) && decide (f <= 5) && yKr x s b 0))) /\ Xt w w' := by
 obtain ⟨w0, hw0, hg0, hs0, c0, c1, c2, c3, c4⟩ := boxV w ⟨4, x, s, b, f⟩ 44;simp only at hw0 c0 c1 c2 c3 c4;have HG0 := h_ hg0;clear hg0;go_enter Tryz.func101, Tryz.ntmps101;go_wp2_with fail
 all_goals (go_ret; refine ⟨?_, (HG0.out.alloc _).xt⟩; first | (simp [yKr, *]; done) | (simp [yKr, *]; omega) | (simp [yKr, yBc, *]; intros; exfalso; omega) | (by_cases hx : x = 0 <;> simp_all [yKr, yBc, y11]; done))
theorem zMv (k : Int) (x : Nat) (s : ByteArray) (b : Bool) (f : Int) (w : World) (h : ¬ (0 <= k /\ k <= 4)) :
    Calls Tryz.prog 101 #[valW k x s b f] w fun e w' => e = .returned (.bool false) /\ Xt w w' := by
 obtain ⟨w0, hw0, hg0, hs0, c0, c1, c2, c3, c4⟩ := boxV w ⟨k, x, s, b, f⟩ 44;simp only at hw0 c0 c1 c2 c3 c4;have HG0 := h_ hg0;clear hg0;have e0 : (k == 0) = false := (by simp; omega);have e1 : (k == 1) = false := (by simp; omega);have e2 : (k == 2) = false := (by simp; omega);have e3 : (k == 3) = false := (by simp; omega);have e4 : (k == 4) = false := (by simp; omega);clear h;go_enter Tryz.func101, Tryz.ntmps101;go_wp2_with fail;go_ret;exact ⟨rfl, (HG0.out.alloc _).xt⟩
def jWy (v : ValT) : Bool :=
 if v.kind = 0 then yKr v.x v.s v.b v.f else
 if v.kind = 1 then yKr 0 v.s v.b v.f else
 if v.kind = 2 then (Lib.validD v.s.data.toList && decide ((v.s.size : Int) <= 1024) && yKr v.x ⟨#[]⟩ v.b v.f) else
 if v.kind = 3 then yKr v.x v.s false v.f else
 if v.kind = 4 then (decide (1 <= v.f) && decide (v.f <= 5) && yKr v.x v.s v.b 0) else
 false
theorem jIe (v : ValT) (w : World) (hs : v.s.size <= 9223372036854775807) (hT : Tabs w) :
    Calls Tryz.prog 101 #[valV v] w fun e w' => e = .returned (.bool (jWy v)) /\ Xt w w' := by
 obtain ⟨k, x, s, b, f⟩ := v;simp only at hs
 show Calls Tryz.prog 101 #[valW k x s b f] w _
 unfold jWy;simp only;by_cases h0 : k = 0
 . subst h0;simp only [reduceIte, Int.reduceEq];exact jSm x s b f w
 by_cases h1 : k = 1
 . subst h1;simp only [reduceIte, Int.reduceEq];exact zyu x s b f w
 by_cases h2 : k = 2
 . subst h2;simp only [reduceIte, Int.reduceEq];exact zoU x s b f w hs hT
 by_cases h3 : k = 3
 . subst h3;simp only [reduceIte, Int.reduceEq];exact zRq x s b f w
 by_cases h4 : k = 4
 . subst h4;simp only [reduceIte, Int.reduceEq];exact ykC x s b f w
 simp only [h0, h1, h2, h3, h4, if_false];exact zMv k x s b f w (by omega)
structure ContT where
 kind : Int
 v : ValT
 t : NodeT
abbrev jEC (c : ContT) (a : Option Addr) (n cap : Nat) : Value := .agg #[c.kind, c.v.kind, .float .f64 c.v.x, .string c.v.s, c.v.b, c.v.f, c.t.kind, c.t.op, .float .f64 c.t.x, .string c.t.s, c.t.b, c.t.f, c.t.ref.a.1, c.t.ref.a.2, .bool c.t.ref.cf, .bool c.t.ref.rf, c.t.to.a.1, c.t.to.a.2, .bool c.t.to.cf, .bool c.t.to.rf, .slice a n cap]
structure RowC where
 mk ::
 c : ContT
 v : Value
abbrev rQ := RowC.mk
instance (c : ContT) (v : Value) : CoeDep RowC (rQ c v) (Array Value) := ⟨#[.int .i64 c.kind, .int .i64 c.v.kind, .float .f64 c.v.x, .string c.v.s, .bool c.v.b, .int .i64 c.v.f, .int .i64 c.t.kind, .int .i64 c.t.op, .float .f64 c.t.x, .string c.t.s, .bool c.t.b, .int .i64 c.t.f, .int .i64 c.t.ref.a.1, .int .i64 c.t.ref.a.2, .bool c.t.ref.cf, .bool c.t.ref.rf, .int .i64 c.t.to.a.1, .int .i64 c.t.to.a.2, .bool c.t.to.cf, .bool c.t.to.rf, v]⟩
structure ContAt (w : World) (b o : Nat) (c : ContT) (a : Option Addr) (n cap : Nat) : Prop where
 c0 : w.cell? ⟨b, o, none⟩ = some (.int .i64 c.kind)
 c1 : w.cell? ⟨b, o + 1, none⟩ = some (.int .i64 c.v.kind)
 c2 : w.cell? ⟨b, o + 2, none⟩ = some (.float .f64 c.v.x)
 c3 : w.cell? ⟨b, o + 3, none⟩ = some (.string c.v.s)
 c4 : w.cell? ⟨b, o + 4, none⟩ = some (.bool c.v.b)
 c5 : w.cell? ⟨b, o + 5, none⟩ = some (.int .i64 c.v.f)
 c6 : w.cell? ⟨b, o + 6, none⟩ = some (.int .i64 c.t.kind)
 c7 : w.cell? ⟨b, o + 7, none⟩ = some (.int .i64 c.t.op)
 c8 : w.cell? ⟨b, o + 8, none⟩ = some (.float .f64 c.t.x)
 c9 : w.cell? ⟨b, o + 9, none⟩ = some (.string c.t.s)
 c10 : w.cell? ⟨b, o + 10, none⟩ = some (.bool c.t.b)
 c11 : w.cell? ⟨b, o + 11, none⟩ = some (.int .i64 c.t.f)
 c12 : w.cell? ⟨b, o + 12, none⟩ = some (.int .i64 c.t.ref.a.1)
 c13 : w.cell? ⟨b, o + 13, none⟩ = some (.int .i64 c.t.ref.a.2)
 c14 : w.cell? ⟨b, o + 14, none⟩ = some (.bool c.t.ref.cf)
 c15 : w.cell? ⟨b, o + 15, none⟩ = some (.bool c.t.ref.rf)
 c16 : w.cell? ⟨b, o + 16, none⟩ = some (.int .i64 c.t.to.a.1)
 c17 : w.cell? ⟨b, o + 17, none⟩ = some (.int .i64 c.t.to.a.2)
 c18 : w.cell? ⟨b, o + 18, none⟩ = some (.bool c.t.to.cf)
 c19 : w.cell? ⟨b, o + 19, none⟩ = some (.bool c.t.to.rf)
 c20 : w.cell? ⟨b, o + 20, none⟩ = some (.slice a n cap)
theorem ContAt.xt {w w' : World} {b o : Nat} {c : ContT} {a : Option Addr} {n cap : Nat} (h : ContAt w b o c a n cap) (hx : Xt w w') : ContAt w' b o c a n cap := by
 have hb : b < w.heap.size := b_ w _ h.c0;have e := fun o => (hx.cells).1 b o hb;exact ⟨(e _).trans h.c0, (e _).trans h.c1, (e _).trans h.c2, (e _).trans h.c3, (e _).trans h.c4, (e _).trans h.c5, (e _).trans h.c6, (e _).trans h.c7, (e _).trans h.c8, (e _).trans h.c9, (e _).trans h.c10, (e _).trans h.c11, (e _).trans h.c12, (e _).trans h.c13, (e _).trans h.c14, (e _).trans h.c15, (e _).trans h.c16, (e _).trans h.c17, (e _).trans h.c18, (e _).trans h.c19, (e _).trans h.c20⟩
theorem boxC (w : World) (c : ContT) (a : Option Addr) (n cap : Nat) (T : TypeId) : ∃ w0, w.alloc (.cells (rQ c (.slice a n cap)) T) = w0 /\ Gr w w0 /\ w0.heap.size = w.heap.size + 1 /\ ContAt w0 w.heap.size 0 c a n cap := by
 refine ⟨_, rfl, (Gr.refl _).alloc _, by simp, ⟨?_, ?_, ?_, ?_, ?_, ?_, ?_, ?_, ?_, ?_, ?_, ?_, ?_, ?_, ?_, ?_, ?_, ?_, ?_, ?_, ?_⟩⟩ <;> (rw [World.cell?_alloc_new]; rfl)
end
end Go.Proofs.YtdoeejhdenifpaaGreatDoor
