import Derived.Test.YtdoeejhdenifpaaGreatDoorB17
set_option maxRecDepth 100000
set_option maxHeartbeats 16000000
namespace Go.Proofs.YtdoeejhdenifpaaGreatDoor
section
open Go.RowKit Go.Sort
def ysQ (mb b5 b6 b9 vb va k3 lo hi ins : Bool) : Int :=
 if mb then (if (b5 && !vb) || (b6 && !va) then 20 else if b9 && !k3 then 21 else if b9 && (lo || hi) then 22 else if b6 && !ins then 31 else 0) else 1
def yqN (t : NodeT) (ins : Bool) : Int := ysQ (zGb t) (t.kind == 5) (t.kind == 6) (t.kind == 9) (y8L t.ref.a.1 t.ref.a.2) (ygU t.ref.a.1 t.ref.a.2 t.to.a.1 t.to.a.2) (jrj t.s.toList).2.2 (decide ((t.args.length : Int) < (jrj t.s.toList).1)) (decide ((jrj t.s.toList).2.1 < (t.args.length : Int))) ins
theorem ySy (t : NodeT) (ins : Bool) : yG3 t ins = if yqN t ins = 0 then ziB t.args (t.kind == 9) else yqN t ins := by
 rw [jR2];unfold yqN ysQ ygU;generalize hv : (y8L t.ref.a.1 t.ref.a.2 && y8L t.to.a.1 t.to.a.2 && decide (t.ref.a.1 <= t.to.a.1) && decide (t.ref.a.2 <= t.to.a.2)) = va;cases zGb t
 . simp
 . by_cases h5 : t.kind = 5
   . simp only [h5]; cases y8L t.ref.a.1 t.ref.a.2 <;> simp
   . by_cases h6 : t.kind = 6
     . simp only [h6]; cases va <;> cases ins <;> simp
     . by_cases h9 : t.kind = 9
       . simp only [h9];cases (jrj t.s.toList).2.2
         . simp
         . by_cases h1 : (t.args.length : Int) < (jrj t.s.toList).1
           . simp [h1]
           . by_cases h2 : (jrj t.s.toList).2.1 < (t.args.length : Int)
             . simp [h1, h2]
             . simp [h1, h2]
       . have e5 : (t.kind == 5) = false := (by simpa using h5);have e6 : (t.kind == 6) = false := (by simpa using h6);have e9 : (t.kind == 9) = false := (by simpa using h9);simp [e5, e6, e9]
theorem juA (t : NodeT) (a : Option Addr) (cap : Nat) (ins : Bool) (w : World) (hok : t.ok) :
    Calls Tryz.prog 162 #[jSk t a t.args.length cap, .bool ins] w fun e w' => e = .returned (.int .i64 (yqN t ins)) /\ Gr w w' := by
 obtain ⟨w0, hw0, hg0, hs0, hN⟩ := boxN w t a t.args.length cap 49;have HN := h_ hN;obtain ⟨c0, c1, c2, c3, c4, c5, c6, c7, c8, c9, c10, c11, c12, c13, c14⟩ := hN;simp only [Nat.zero_add] at c0 c1 c2 c3 c4 c5 c6 c7 c8 c9 c10 c11 c12 c13 c14;have HG0 := h_ hg0;have HM := h_ (z75 t a cap · hok);have HK := h_ (zCR t.s);have HV := h_ (jlf t.ref.a.1 t.ref.a.2);have HA := h_ (jb2 t.ref.a.1 t.ref.a.2 t.to.a.1 t.to.a.2);unfold yqN;generalize zGb t = mb at HM ⊢;generalize jrj t.s.toList = kn at HK ⊢;obtain ⟨k1, k2, k3⟩ := kn;simp only at HK ⊢;generalize y8L t.ref.a.1 t.ref.a.2 = vb at HV ⊢
 generalize ygU t.ref.a.1 t.ref.a.2 t.to.a.1 t.to.a.2 = va at HA ⊢;obtain ⟨b5, e5⟩ := e_ (t.kind == 5);obtain ⟨b6, e6⟩ := e_ (t.kind == 6);obtain ⟨b9, e9⟩ := e_ (t.kind == 9);obtain ⟨lo, elo⟩ := e_ (decide ((t.args.length : Int) < k1));obtain ⟨hi, ehi⟩ := e_ (decide (k2 < (t.args.length : Int)));rw [e5, e6, e9, elo, ehi];clear hg0 hok;go_enter Tryz.func162, Tryz.ntmps162;go_wp2_with fail;refine (HM.out _).mono ?_;rintro e w1 ⟨rfl, hg1⟩;have HG1 := h_ (HG0.out.trans hg1);have hN1 := HN.out.xt hg1.xt;have HN1 := h_ hN1;clear hg1 hw0 c0 c1 c2 c3 c4 c5 c6 c7 c8 c9 c10 c11 c12 c13 c14
 obtain ⟨c0, c1, c2, c3, c4, c5, c6, c7, c8, c9, c10, c11, c12, c13, c14⟩ := hN1;simp only [Nat.zero_add] at c0 c1 c2 c3 c4 c5 c6 c7 c8 c9 c10 c11 c12 c13 c14;go_wp2_with (first | (go_at_call 177; refine (HK.out _).mono ?_; rintro e w' ⟨rfl, rfl⟩))
 refine (HV.out _).mono ?_;rintro e w2 ⟨rfl, rfl⟩;have hN2 := HN1.out.xt ((Xt.refl w1).alloc (.cells #[t.ref.a.1, t.ref.a.2] 24));have HG2 : Hid (Gr w (w1.alloc (.cells #[t.ref.a.1, t.ref.a.2] 24))) := HG1.out.alloc _;generalize w1.alloc (.cells #[t.ref.a.1, t.ref.a.2] 24) = w2 at hN2 HG2 ⊢;have HN2 := h_ hN2;clear c0 c1 c2 c3 c4 c5 c6 c7 c8 c9 c10 c11 c12 c13 c14;obtain ⟨c0, c1, c2, c3, c4, c5, c6, c7, c8, c9, c10, c11, c12, c13, c14⟩ := hN2;simp only [Nat.zero_add] at c0 c1 c2 c3 c4 c5 c6 c7 c8 c9 c10 c11 c12 c13 c14;go_wp2_with fail;refine (HA.out _).mono ?_;rintro e w3 ⟨rfl, hg3⟩;have hN3 := HN2.out.xt hg3.xt
 have HG3 := h_ (HG2.out.trans hg3);clear hg3 c0 c1 c2 c3 c4 c5 c6 c7 c8 c9 c10 c11 c12 c13 c14;obtain ⟨c0, c1, c2, c3, c4, c5, c6, c7, c8, c9, c10, c11, c12, c13, c14⟩ := hN3;simp only [Nat.zero_add] at c0 c1 c2 c3 c4 c5 c6 c7 c8 c9 c10 c11 c12 c13 c14;cases mb
 . go_wp2_with fail;go_ret;exact ⟨rfl, HG3.out⟩
 cases b5 <;> cases b6 <;> cases b9
 all_goals
  go_wp2_with fail
  all_goals (go_ret; refine ⟨?_, HG3.out⟩; first | (simp [ysQ, *]; done) | (subst elo ehi; simp [ysQ, *]; done) | (subst elo ehi; simp [ysQ, *]; omega))
theorem zQV : ∀ (n : Nat) (t : NodeT) (a : Option Addr) (cap : Nat) (ins : Bool) (w : World), t.ok -> ArgsIn w n (.slice a t.args.length cap) t.args ->
    Calls Tryz.prog 139 #[jSk t a t.args.length cap, .bool ins] w fun e w' => e = .returned (.int .i64 (yG3 t ins)) /\ Gr w w' := by
 intro n
 induction n using Nat.strongRecOn with
 | ind n ih =>
  intro t a cap ins w hok hin;have HIN := h_ hin;obtain ⟨_, _, he, q1, q2⟩ := hin.shape;cases he;have IH := h_ ih;have HOK := h_ hok;obtain ⟨w0, hw0, hg0, hs0, hN⟩ := boxN w t a t.args.length cap 49;have HG0 := h_ hg0;have HN := h_ hN;obtain ⟨c0, c1, c2, c3, c4, c5, c6, c7, c8, c9, c10, c11, c12, c13, c14⟩ := hN;simp only [Nat.zero_add] at c0 c1 c2 c3 c4 c5 c6 c7 c8 c9 c10 c11 c12 c13 c14;have HO := h_ (juA t a cap ins · hok);generalize hans : yG3 t ins = ans;have HA := h_ hans;rw [ySy] at HA;generalize yqN t ins = oe at HO HA;obtain ⟨b9, e9⟩ := e_ (t.kind == 9);rw [e9] at HA;clear hin hg0 ih hok hans
  go_enter Tryz.func139, Tryz.ntmps139;go_wp2_with fail;refine (HO.out _).mono ?_;rintro e w1 ⟨rfl, hg1⟩;have HG1 := h_ (HG0.out.trans hg1);have hN1 := HN.out.xt hg1.xt;have HN1 := h_ hN1;clear hg1 hw0 c0 c1 c2 c3 c4 c5 c6 c7 c8 c9 c10 c11 c12 c13 c14 hN1;have hsz1 : w.heap.size < w1.heap.size := b_ _ _ HN1.out.c0;go_wp2_with fail;have HF : Hid (if oe = 0 then ziB (t.args.drop 0) b9 = ans else oe = ans) := by
   have h := HA.out;rw [List.drop_zero];by_cases hz : oe = 0
   . rw [if_pos hz] at h; rw [if_pos hz]; exact h
   . rw [if_neg hz] at h; rw [if_neg hz]; exact h
  go_loopw [5, 6] (fun s5 s6 wr => ∃ (i : Nat) (e : Int), i <= t.args.length /\ s6 = .int .i64 i /\ s5 = .int .i64 e /\ Hid (if e = 0 then ziB (t.args.drop i) b9 = ans else e = ans) /\ Hid (Gr w1 wr)) (fun _ s6 _ => t.args.length - (intOf s6).toNat)
  case atStart => exact ⟨0, oe, Nat.zero_le _, rfl, rfl, HF, Gr.refl _⟩
  case round =>
   obtain ⟨i, e, hi, rfl, rfl, HE, HG⟩ := hrel;have hNr := HN1.out.xt HG.out.xt;have c0 := hNr.c0;have c14 := hNr.c14;simp only [Nat.zero_add] at c0 c14;by_cases hlt : i < t.args.length
   . have hii : (i : Int) < (t.args.length : Int) := (by omega);by_cases hz : e = 0
     . subst hz;obtain ⟨u, hx⟩ : ∃ u, t.args[i]? = some u := ⟨t.args[i], by simp [hlt]⟩;have hdr := ykK hx;obtain ⟨n', bk, off, a', c', hn, rfl, hA, hI⟩ := HIN.out.at hx;have hxw : Xt w wr := (HG1.out.trans HG.out).xt;have hou := yQB (NodeT.ok_args HOK.out) hx;obtain ⟨d0, d1, d2, d3, d4, d5, d6, d7, d8, d9, d10, d11, d12, d13, d14⟩ := hA.xt hxw;have hf := HE.out;rw [if_pos rfl, hdr] at hf;simp only [ziB] at hf;have HCALL := h_ (IH.out n' (by omega) u a' c' b9 wr.drew hou ((hI.xt hxw).xt (Xt.refl wr).drew));have HF2 := h_ hf
       have HP : ∀ fu : Int, Hid ((if fu = 0 then ziB (t.args.drop (i + 1)) b9 else fu) = ans) -> Hid (if fu = 0 then ziB (t.args.drop (i + 1)) b9 = ans else fu = ans) := by
        intro fu h;have h := h.out;by_cases hz : fu = 0
        . rw [if_pos hz] at h; unfold Hid; rw [if_pos hz]; exact h
        . rw [if_neg hz] at h; unfold Hid; rw [if_neg hz]; exact h
       generalize yG3 u b9 = fu at HF2 HCALL;have HF3 := HP fu HF2;clear hx hdr hA hI hn hxw hf hou hNr HP;go_wp2_with fail;refine wp_region_still_tail 8 (by kernel_rfl) (by kernel_rfl) ?_;change wpStill _ _ (World.drew _) _ _ _;simp only [List.take_succ_cons, List.take_zero, List.drop_succ_cons, List.drop_zero]
       still_step
       still_step
       still_step
       still_step
       still_step
       still_step
       still_step
       still_step
       refine wpStill_nil ?_;change wpList _ _ _ _ _ (World.drew _);refine wpList_step (fun K hK => ?_);go_simp;refine (HCALL.out).mono ?_;rintro e w4 ⟨rfl, hg4⟩;refine hK _ _ ?_;have HG4 : Hid (Gr w1 w4) := (HG.out.drew).trans hg4;clear hK K hg4 d0 d1 d2 d3 d4 d5 d6 d7 d8 d9 d10 d11 d12 d13 d14 c0 c14;go_wp2_with fail;go_roundw
       case rel => exact ⟨i + 1, fu, by omega, by go_num, rfl, HF3, HG4⟩
       case measure => simp [intOf]; omega
     . have hzb : (e == 0) = false := (by simpa using hz);have HE2 : Hid (e = ans) := (by have h := HE.out; rw [if_neg hz] at h; exact h);go_wp2_with fail;go_ret;exact ⟨congrArg (fun z => Ending.returned (.int .i64 z)) HE2.out, HG1.out.trans HG.out⟩
   . have HE2 : Hid (e = ans) := by
      have h := HE.out;rw [List.drop_eq_nil_of_le (by omega)] at h;simp only [ziB] at h;by_cases hz : e = 0
      . rw [if_pos hz] at h; rw [hz]; exact h
      . rw [if_neg hz] at h; exact h
     go_wp2_with fail;go_ret;exact ⟨congrArg (fun z => Ending.returned (.int .i64 z)) HE2.out, HG1.out.trans HG.out⟩
end
end Go.Proofs.YtdoeejhdenifpaaGreatDoor
