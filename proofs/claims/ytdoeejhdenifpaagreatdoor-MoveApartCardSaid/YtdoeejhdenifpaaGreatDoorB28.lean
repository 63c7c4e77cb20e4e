import Derived.Test.YtdoeejhdenifpaaGreatDoorB18
import Derived.Test.YtdoeejhdenifpaaGreatDoorB13
import Derived.Deep.Cut
set_option maxRecDepth 100000
set_option maxHeartbeats 16000000
namespace Go.Proofs.YtdoeejhdenifpaaGreatDoor
section
open Go.RowKit Go.Sort
theorem yCt (n : Nat) (t : NodeT) (a : Option Addr) (cap : Nat) (w : World) (hok : t.ok) (hin : ArgsIn w n (.slice a t.args.length cap) t.args) :
    Calls Tryz.prog 106 #[jSk t a t.args.length cap] w fun e w' => e = .returned (.int .i64 (ywH t)) /\ Gr w w' := by
 obtain ⟨w0, hw0, hg0, hs0, hN⟩ := boxN w t a t.args.length cap 49;have HG0 := h_ hg0;have HN := h_ hN;have HIN := h_ hin;have HC := h_ (ze0 n t a cap w0 (hin.xt hg0.xt));have HD := h_ (fun w1 (h : Gr w0 w1) => ydv n t a cap w1 (hin.xt (hg0.trans h).xt));have HF := h_ (fun w1 (h : Gr w0 w1) => zQV n t a cap false w1 hok (hin.xt (hg0.trans h).xt));obtain ⟨c0, c1, c2, c3, c4, c5, c6, c7, c8, c9, c10, c11, c12, c13, c14⟩ := hN;simp only [Nat.zero_add] at c0 c1 c2 c3 c4 c5 c6 c7 c8 c9 c10 c11 c12 c13 c14;generalize hans : ywH t = ans;have HA := h_ hans;unfold ywH at HA;generalize (zAv t).1 = m1 at HC HA
 generalize (zAv t).2 = m2 at HD HA;generalize yG3 t false = ft at HF HA;clear hans hok hg0 hin;go_enter Tryz.func106, Tryz.ntmps106;go_wp2_with fail;refine (HC.out).mono ?_;rintro e w1 ⟨rfl, hg1⟩;have HG1 := h_ hg1;have hN1 := HN.out.xt hg1.xt;have HD1 := h_ (HD.out w1 hg1);clear hg1 hw0 c0 c1 c2 c3 c4 c5 c6 c7 c8 c9 c10 c11 c12 c13 c14;obtain ⟨c0, c1, c2, c3, c4, c5, c6, c7, c8, c9, c10, c11, c12, c13, c14⟩ := hN1;simp only [Nat.zero_add] at c0 c1 c2 c3 c4 c5 c6 c7 c8 c9 c10 c11 c12 c13 c14;by_cases h1 : 256 < m1
 . rw [if_pos h1] at HA;go_wp2_with fail;go_ret;exact ⟨congrArg (fun z => Ending.returned (.int .i64 z)) HA.out, HG0.out.trans HG1.out⟩
 rw [if_neg h1] at HA;go_wp2_with fail;refine (HD1.out).mono ?_;rintro e w2 ⟨rfl, hg2⟩;have HG2 := h_ (HG1.out.trans hg2);have hN2 := HN.out.xt HG2.out.xt;have HF2 := h_ (HF.out w2 HG2.out);clear hg2 c0 c1 c2 c3 c4 c5 c6 c7 c8 c9 c10 c11 c12 c13 c14;obtain ⟨c0, c1, c2, c3, c4, c5, c6, c7, c8, c9, c10, c11, c12, c13, c14⟩ := hN2;simp only [Nat.zero_add] at c0 c1 c2 c3 c4 c5 c6 c7 c8 c9 c10 c11 c12 c13 c14;by_cases h2 : 32 < m2
 . rw [if_pos h2] at HA;go_wp2_with fail;go_ret;exact ⟨congrArg (fun z => Ending.returned (.int .i64 z)) HA.out, HG0.out.trans HG2.out⟩
 rw [if_neg h2] at HA;go_wp2_with fail;refine (HF2.out).mono ?_;rintro e w3 ⟨rfl, hg3⟩;have HG3 := h_ (HG2.out.trans hg3);clear hg3;go_wp2_with fail;go_ret;exact ⟨congrArg (fun z => Ending.returned (.int .i64 z)) HA.out, HG0.out.trans HG3.out⟩
def jJS (a b : NodeT) : Bool := (a.kind == b.kind) && (a.op == b.op) && decide (oneX a.x = oneX b.x) && (a.s.toList == b.s.toList) && (a.b == b.b) && (a.f == b.f) && refB a.ref b.ref && refB a.to b.to
theorem ynm (a b : NodeT) : jir a b = (jJS a b && ((a.args.length : Int) == (b.args.length : Int)) && ycT a.args b.args) := by
 rw [yUB];have h1 : zmd a b = jJS a b := by
  unfold zmd jJS;rw [Bool.eq_iff_iff];simp only [Bool.and_eq_true, beq_iff_eq, decide_eq_true_eq, Int.natCast_inj]
 rw [h1];by_cases h : a.args.length = b.args.length
 . have : ((a.args.length : Int) == (b.args.length : Int)) = true := (by rw [h]; simp);rw [this, Bool.and_true]
 . have : ((a.args.length : Int) == (b.args.length : Int)) = false := (by simp; omega);rw [this, ysc h, Bool.and_false, Bool.and_false]
theorem jyr {a b : NodeT} {l l' : List NodeT} (h : (jJS a b && ((a.args.length : Int) == (b.args.length : Int))) = false) : (jJS a b && ((a.args.length : Int) == (b.args.length : Int)) && ycT l l') = false := by rw [h]; rfl
theorem jAa {a b : NodeT} {l l' : List NodeT} (h : (jJS a b && ((a.args.length : Int) == (b.args.length : Int))) = true) : (jJS a b && ((a.args.length : Int) == (b.args.length : Int)) && ycT l l') = ycT l l' := by rw [h]; rfl
def ys2 (n : Nat) : Prop := ∀ (a b : NodeT) (aa ba : Option Addr) (ac bc : Nat) (w : World), ArgsIn w n (.slice aa a.args.length ac) a.args -> ArgsIn w n (.slice ba b.args.length bc) b.args ->
 Calls Tryz.prog 98 #[jSk a aa a.args.length ac, jSk b ba b.args.length bc] w fun e w' => e = .returned (.bool (jir a b)) /\ Gr w w'
theorem ygk : ∀ n, ys2 n := by
 intro n
 induction n using Nat.strongRecOn with
 | ind n ih =>
  intro a b aa ba ac bc w ha hb;obtain ⟨w0, hw0, hg0, hs0, hN⟩ := boxN w a aa a.args.length ac 49;obtain ⟨w1, hw1, hg1, hs1, hM⟩ := boxN w0 b ba b.args.length bc 49;rw [hs0] at hM hs1;have hN := hN.xt hg1.xt;obtain ⟨k0, k1, k2, k3, k4, k5, k6, k7, k8, k9, k10, k11, k12, k13, k14⟩ := hN;simp only [Nat.zero_add] at k0 k1 k2 k3 k4 k5 k6 k7 k8 k9 k10 k11 k12 k13 k14;obtain ⟨m0, m1, m2, m3, m4, m5, m6, m7, m8, m9, m10, m11, m12, m13, m14⟩ := hM;simp only [Nat.zero_add] at m0 m1 m2 m3 m4 m5 m6 m7 m8 m9 m10 m11 m12 m13 m14;have HG := h_ (hg0.trans hg1);have HS := h_ (ynm a b);have HA := h_ ha;have HB := h_ hb;have IH := h_ ih;obtain ⟨_, _, e1, ql1, ql2⟩ := ha.shape
  cases e1;obtain ⟨_, _, e2, qm1, qm2⟩ := hb.shape;cases e2;generalize jir a b = ans at HS ⊢;clear ih ha hb hg0 hg1;have HX := h_ (jeO a.x b.x);generalize hxb : decide (oneX a.x = oneX b.x) = xb at HX;have HXB := h_ hxb;clear hxb;cases h0 : (a.kind == b.kind)
  . have hn0 : (a.kind != b.kind) = true := (by unfold bne; rw [h0]; rfl);go_enter Tryz.func98, Tryz.ntmps98;go_upto_region 2 with (refine (HX.out _).mono ?_; rintro e w' ⟨rfl, rfl⟩)
    try simp only [List.append_eq, List.cons_append, List.nil_append]
    clear hw0 hw1;go_wp2_with fail;go_ret;refine ⟨?_, HG.out⟩;rw [HS.out];refine congrArg (fun z => Ending.returned (.bool z)) (Eq.symm ?_);exact jyr (by simp [jJS, HXB.out, h0])
  have hn0 : (a.kind != b.kind) = false := (by unfold bne; rw [h0]; rfl);have E0 := h_ h0;cases h1 : (a.op == b.op)
  . have hn1 : (a.op != b.op) = true := (by unfold bne; rw [h1]; rfl);go_enter Tryz.func98, Tryz.ntmps98;go_upto_region 2 with (refine (HX.out _).mono ?_; rintro e w' ⟨rfl, rfl⟩)
    try simp only [List.append_eq, List.cons_append, List.nil_append]
    clear hw0 hw1;go_wp2_with fail;go_ret;refine ⟨?_, HG.out⟩;rw [HS.out];refine congrArg (fun z => Ending.returned (.bool z)) (Eq.symm ?_);exact jyr (by simp [jJS, HXB.out, h1, E0.out])
  have hn1 : (a.op != b.op) = false := (by unfold bne; rw [h1]; rfl);have E1 := h_ h1;cases xb
  . have h2 : (false : Bool) = false := rfl;go_enter Tryz.func98, Tryz.ntmps98;go_upto_region 2 with (refine (HX.out _).mono ?_; rintro e w' ⟨rfl, rfl⟩)
    try simp only [List.append_eq, List.cons_append, List.nil_append]
    clear hw0 hw1;go_wp2_with fail;go_ret;refine ⟨?_, HG.out⟩;rw [HS.out];refine congrArg (fun z => Ending.returned (.bool z)) (Eq.symm ?_);exact jyr (by simp [jJS, HXB.out, E0.out, E1.out])
  have h2 : (true : Bool) = true := rfl;have E2 := h_ h2;cases h3 : (a.s.toList == b.s.toList)
  . have hn3 : (a.s.toList != b.s.toList) = true := (by unfold bne; rw [h3]; rfl);go_enter Tryz.func98, Tryz.ntmps98;go_upto_region 2 with (refine (HX.out _).mono ?_; rintro e w' ⟨rfl, rfl⟩)
    try simp only [List.append_eq, List.cons_append, List.nil_append]
    clear hw0 hw1;go_wp2_with fail;go_ret;refine ⟨?_, HG.out⟩;rw [HS.out];refine congrArg (fun z => Ending.returned (.bool z)) (Eq.symm ?_);exact jyr (by simp [jJS, HXB.out, h3, E0.out, E1.out])
  have hn3 : (a.s.toList != b.s.toList) = false := (by unfold bne; rw [h3]; rfl);have E3 := h_ h3;cases h4 : (a.b == b.b)
  . have hn4 : (a.b != b.b) = true := (by unfold bne; rw [h4]; rfl);go_enter Tryz.func98, Tryz.ntmps98;go_upto_region 2 with (refine (HX.out _).mono ?_; rintro e w' ⟨rfl, rfl⟩)
    try simp only [List.append_eq, List.cons_append, List.nil_append]
    clear hw0 hw1;go_wp2_with fail;go_ret;refine ⟨?_, HG.out⟩;rw [HS.out];refine congrArg (fun z => Ending.returned (.bool z)) (Eq.symm ?_);exact jyr (by simp [jJS, HXB.out, h4, E0.out, E1.out, E3.out])
  have hn4 : (a.b != b.b) = false := (by unfold bne; rw [h4]; rfl);have E4 := h_ h4;cases h5 : (a.f == b.f)
  . have hn5 : (a.f != b.f) = true := (by unfold bne; rw [h5]; rfl);go_enter Tryz.func98, Tryz.ntmps98;go_upto_region 2 with (refine (HX.out _).mono ?_; rintro e w' ⟨rfl, rfl⟩)
    try simp only [List.append_eq, List.cons_append, List.nil_append]
    clear hw0 hw1;go_wp2_with fail;go_ret;refine ⟨?_, HG.out⟩;rw [HS.out];refine congrArg (fun z => Ending.returned (.bool z)) (Eq.symm ?_);exact jyr (by simp [jJS, HXB.out, h5, E0.out, E1.out, E3.out, E4.out])
  have hn5 : (a.f != b.f) = false := (by unfold bne; rw [h5]; rfl);have E5 := h_ h5;cases h6 : refB a.ref b.ref
  . have hn6 : (!refB a.ref b.ref) = true := (by rw [h6]; rfl);go_enter Tryz.func98, Tryz.ntmps98;go_upto_region 2 with (refine (HX.out _).mono ?_; rintro e w' ⟨rfl, rfl⟩)
    try simp only [List.append_eq, List.cons_append, List.nil_append]
    clear hw0 hw1;go_wp2_with fail;go_ret;refine ⟨?_, HG.out⟩;rw [HS.out];refine congrArg (fun z => Ending.returned (.bool z)) (Eq.symm ?_);exact jyr (by simp [jJS, HXB.out, h6, E0.out, E1.out, E3.out, E4.out, E5.out])
  have E6 := h_ h6;cases h7 : refB a.to b.to
  . have hn7 : (!refB a.to b.to) = true := (by rw [h7]; rfl);go_enter Tryz.func98, Tryz.ntmps98;go_upto_region 2 with (refine (HX.out _).mono ?_; rintro e w' ⟨rfl, rfl⟩)
    try simp only [List.append_eq, List.cons_append, List.nil_append]
    clear hw0 hw1;go_wp2_with fail;go_ret;refine ⟨?_, HG.out⟩;rw [HS.out];refine congrArg (fun z => Ending.returned (.bool z)) (Eq.symm ?_);exact jyr (by simp [jJS, HXB.out, h7, E0.out, E1.out, E3.out, E4.out, E5.out, E6.out])
  have E7 := h_ h7;cases h8 : ((a.args.length : Int) == (b.args.length : Int))
  . have hn8 : ((a.args.length : Int) != (b.args.length : Int)) = true := (by unfold bne; rw [h8]; rfl);go_enter Tryz.func98, Tryz.ntmps98;go_upto_region 2 with (refine (HX.out _).mono ?_; rintro e w' ⟨rfl, rfl⟩)
    try simp only [List.append_eq, List.cons_append, List.nil_append]
    clear hw0 hw1;go_wp2_with fail;go_ret;refine ⟨?_, HG.out⟩;rw [HS.out];refine congrArg (fun z => Ending.returned (.bool z)) (Eq.symm ?_);exact jyr (by simp [jJS, HXB.out, h8, E0.out, E1.out, E3.out, E4.out, E5.out, E6.out, E7.out])
  have hn8 : ((a.args.length : Int) != (b.args.length : Int)) = false := (by unfold bne; rw [h8]; rfl);have E8 := h_ h8;have hll : a.args.length = b.args.length := (by have := yEE h8; exact this);have HL := h_ hll;clear hll;have HS2 : Hid (ans = ycT a.args b.args) := by
   unfold Hid;rw [HS.out];exact jAa (by simp [jJS, HXB.out, h8, E0.out, E1.out, E3.out, E4.out, E5.out, E6.out, E7.out])
  go_enter Tryz.func98, Tryz.ntmps98;go_upto_region 2 with (refine (HX.out _).mono ?_; rintro e w' ⟨rfl, rfl⟩)
  try simp only [List.append_eq, List.cons_append, List.nil_append]
  clear hw0 hw1;go_wp2_with fail;obtain ⟨wn, hwn⟩ := e_ w1;have HGN : Hid (Gr w wn) := (by rw [<- hwn]; exact HG.out);have k14n : wn.cell? ⟨w.heap.size, 14, none⟩ = some (.slice aa a.args.length ac) := (by rw [<- hwn]; exact k14);have m14n : wn.cell? ⟨w.heap.size + 1, 14, none⟩ = some (.slice ba b.args.length bc) := (by rw [<- hwn]; exact m14);have hszn : wn.heap.size = w.heap.size + 1 + 1 := (by rw [<- hwn]; exact hs1);rw [hwn];clear hwn hs0 hs1 k14 m14;clear k0 k1 k2 k3 k4 k5 k6 k7 k8 k9 k10 k11 k12 k13 m0 m1 m2 m3 m4 m5 m6 m7 m8 m9 m10 m11 m12 m13;clear h0 h1 h2 h3 h4 h5 h6 h7 h8 HG HS
  go_loopw [6] (fun s wr => ∃ i : Nat, i <= a.args.length /\ s = .int .i64 i /\ Hid (Gr wn wr) /\ Hid (ans = ycT (a.args.drop i) (b.args.drop i))) (fun s _ => a.args.length - (intOf s).toNat)
  case atStart => exact ⟨0, Nat.zero_le _, rfl, Gr.refl _, HS2⟩
  case round =>
   obtain ⟨i, hi, rfl, HGr, HSi⟩ := hrel;have c14 := ((HGr.out.xt.cells).1 w.heap.size 14 (by omega)).trans k14n;have b14 := ((HGr.out.xt.cells).1 (w.heap.size + 1) 14 (by omega)).trans m14n;by_cases hlt : i < a.args.length
   . obtain ⟨x, hx⟩ : ∃ x, a.args[i]? = some x := ⟨a.args[i], by simp [hlt]⟩;obtain ⟨y, hy⟩ : ∃ y, b.args[i]? = some y := ⟨b.args[i]'(by have := HL.out; omega), by simp⟩;obtain ⟨n', bx, ox, xa, xc, hn', rfl, hNx, hAx⟩ := HA.out.at hx;obtain ⟨n2, by', oy, ya, yc, hn2, rfl, hNy, hAy⟩ := HB.out.at hy;obtain rfl : n' = n2 := by omega
     have hxw : Xt w wr := (HGN.out.trans HGr.out).xt;have hNx := hNx.xt hxw;have hNy := hNy.xt hxw;obtain ⟨d0, d1, d2, d3, d4, d5, d6, d7, d8, d9, d10, d11, d12, d13, d14⟩ := hNx;obtain ⟨f0, f1, f2, f3, f4, f5, f6, f7, f8, f9, f10, f11, f12, f13, f14⟩ := hNy;have hki : (i : Int) < (a.args.length : Int) := (by omega);have hkj : (i : Int) < (b.args.length : Int) := (by have := HL.out; omega);have HC := h_ (IH.out n' (by omega) x y xa ya xc yc wr.drew ((hAx.xt hxw).xt (Xt.refl wr).drew) ((hAy.xt hxw).xt (Xt.refl wr).drew));have HE : Hid (ycT (a.args.drop i) (b.args.drop i) = (jir x y && ycT (a.args.drop (i + 1)) (b.args.drop (i + 1)))) := by
      unfold Hid;rw [ykK hx, ykK hy, jk9]
     generalize jir x y = rb at HC HE;clear hAx hAy hx hy hxw hn' hn2;go_wp2_with fail;refine wp_region_still_tail 10 (by kernel_rfl) (by kernel_rfl) ?_;change wpStill _ _ (World.drew _) _ _ _;simp only [List.take_succ_cons, List.take_zero, List.drop_succ_cons, List.drop_zero]
     still_step
     still_step
     still_step
     still_step
     still_step
     still_step
     still_step
     still_step
     still_step
     still_step
     refine wpStill_nil ?_;change wpList _ _ _ _ _ (World.drew _);refine wpList_step (fun K hK => ?_);go_simp;refine (HC.out).mono ?_;rintro e w4 ⟨rfl, hg4⟩;refine hK _ _ ?_;have HG4 : Hid (Gr wn w4) := (HGr.out.drew).trans hg4;clear hK K hg4 d0 d1 d2 d3 d4 d5 d6 d7 d8 d9 d10 d11 d12 d13 d14 f0 f1 f2 f3 f4 f5 f6 f7 f8 f9 f10 f11 f12 f13 f14 c14 b14;cases rb
     . go_wp2_with fail;go_ret;exact ⟨by rw [HSi.out, HE.out]; rfl, HGN.out.trans HG4.out⟩
     . go_wp2_with fail;go_roundw
       case rel => exact ⟨i + 1, by omega, by go_num, HG4, by unfold Hid; rw [HSi.out, HE.out]; rfl⟩
       case measure => simp [intOf]; omega
   . have he : i = a.args.length := (by omega);subst he;go_wp2_with fail;go_ret;have hb : b.args.length = a.args.length := HL.out.symm;exact ⟨by rw [HSi.out, List.drop_length, <- hb, List.drop_length, zUB]; rfl, HGN.out.trans HGr.out⟩
end
end Go.Proofs.YtdoeejhdenifpaaGreatDoor
