import Derived.Test.YtdoeejhdenifpaaGreatDoorB28
import Derived.Test.YtdoeejhdenifpaaGreatDoorB24
import Derived.Test.YtdoeejhdenifpaaGreatDoorB25
import Derived.Deep.MidRow
import Derived.Sort.CutIn
set_option maxRecDepth 100000
set_option maxHeartbeats 16000000
namespace Go.Proofs.YtdoeejhdenifpaaGreatDoor
section
open Go.RowKit Go.Sort
theorem zyb (v : ValT) (w : World) (hk : v.kind = 0) :
    Calls Tryz.prog 105 #[valV v] w fun e w' => e = .returned (.bool (jWy v)) /\ Gr w w' := by
 obtain ⟨w0, hw0, hg0, hs0, c0, c1, c2, c3, c4⟩ := boxV w v 44;have HG0 := h_ hg0;have e0 : (v.kind == 0) = true := (by rw [hk]; rfl);have he : jWy v = yKr v.x v.s v.b v.f := (by unfold jWy; simp only [hk, reduceIte, Int.reduceEq]);rw [he];clear hg0 he hk;go_enter Tryz.func105, Tryz.ntmps105;go_wp2_with fail
 all_goals (go_ret; refine ⟨?_, HG0.out⟩; first | (simp [yKr, *]; done) | (simp [yKr, *]; omega) | (simp [yKr, *]; intros; exfalso; omega) | (cases hb : v.b <;> simp_all [yKr]; done) | (by_cases hx : v.x = 0 <;> by_cases hf : v.f = 0 <;> simp_all [yKr]; done) | trace_state)
theorem y8N (v : ValT) (w : World) (hk : v.kind = 1) :
    Calls Tryz.prog 105 #[valV v] w fun e w' => e = .returned (.bool (jWy v)) /\ Gr w w' := by
 obtain ⟨w0, hw0, hg0, hs0, c0, c1, c2, c3, c4⟩ := boxV w v 44;have HG0 := h_ hg0;have e0 : (v.kind == 0) = false := (by rw [hk]; rfl);have e1 : (v.kind == 1) = true := (by rw [hk]; rfl);have he : jWy v = yKr 0 v.s v.b v.f := (by unfold jWy; simp only [hk, reduceIte, Int.reduceEq]);rw [he];clear hg0 he hk;go_enter Tryz.func105, Tryz.ntmps105;go_wp2_with fail
 all_goals (go_ret; refine ⟨?_, HG0.out⟩; first | (simp [yKr, *]; done) | (simp [yKr, *]; omega) | (simp [yKr, *]; intros; exfalso; omega) | (cases hb : v.b <;> simp_all [yKr]; done) | (by_cases hx : v.x = 0 <;> by_cases hf : v.f = 0 <;> simp_all [yKr]; done) | trace_state)
theorem zgN (v : ValT) (w : World) (hk : v.kind = 2) (hs : v.s.size < 4611686018427387904) :
    Calls Tryz.prog 105 #[valV v] w fun e w' => e = .returned (.bool (jWy v)) /\ Gr w w' := by
 obtain ⟨w0, hw0, hg0, hs0, c0, c1, c2, c3, c4⟩ := boxV w v 44;have HG0 := h_ hg0;have e0 : (v.kind == 0) = false := (by rw [hk]; rfl);have e1 : (v.kind == 1) = false := (by rw [hk]; rfl);have e2 : (v.kind == 2) = true := (by rw [hk]; rfl);have HU := h_ (z2A v.s hs);have he : jWy v = (Lib.validD v.s.data.toList && decide ((v.s.size : Int) <= 1024) && yKr v.x ⟨#[]⟩ v.b v.f) := (by unfold jWy; simp only [hk, reduceIte, Int.reduceEq]);rw [he];generalize Lib.validD v.s.data.toList = vd at HU ⊢;clear hg0 he hk;go_enter Tryz.func105, Tryz.ntmps105;go_wp2_with (go_at_call 136; refine (HU.out _).mono ?_; rintro e w' ⟨rfl, rfl⟩)
 all_goals (go_ret; refine ⟨?_, HG0.out⟩; first | (simp [yKr, *]; done) | (simp [yKr, yBc, *]; omega) | (simp [yKr, yBc, *]; intros; exfalso; omega) | (cases hb : v.b <;> simp_all [yKr, yBc]; done) | (by_cases hx : v.x = 0 <;> by_cases hf : v.f = 0 <;> simp_all [yKr, yBc]; done) | trace_state)
theorem zTh (v : ValT) (w : World) (hk : v.kind = 3) :
    Calls Tryz.prog 105 #[valV v] w fun e w' => e = .returned (.bool (jWy v)) /\ Gr w w' := by
 obtain ⟨w0, hw0, hg0, hs0, c0, c1, c2, c3, c4⟩ := boxV w v 44;have HG0 := h_ hg0;have e0 : (v.kind == 0) = false := (by rw [hk]; rfl);have e1 : (v.kind == 1) = false := (by rw [hk]; rfl);have e2 : (v.kind == 2) = false := (by rw [hk]; rfl);have e3 : (v.kind == 3) = true := (by rw [hk]; rfl);have he : jWy v = yKr v.x v.s false v.f := (by unfold jWy; simp only [hk, reduceIte, Int.reduceEq]);rw [he];clear hg0 he hk;go_enter Tryz.func105, Tryz.ntmps105;go_wp2_with fail
 all_goals (go_ret; refine ⟨?_, HG0.out⟩; first | (simp [yKr, *]; done) | (simp [yKr, *]; omega) | (simp [yKr, *]; intros; exfalso; omega) | (cases hb : v.b <;> simp_all [yKr]; done) | (by_cases hx : v.x = 0 <;> by_cases hf : v.f = 0 <;> simp_all [yKr]; done) | trace_state)
theorem zKr (v : ValT) (w : World) (hk : v.kind = 4) :
    Calls Tryz.prog 105 #[valV v] w fun e w' => e = .returned (.bool (jWy v)) /\ Gr w w' := by
 obtain ⟨w0, hw0, hg0, hs0, c0, c1, c2, c3, c4⟩ := boxV w v 44;have HG0 := h_ hg0;have e0 : (v.kind == 0) = false := (by rw [hk]; rfl);have e1 : (v.kind == 1) = false := (by rw [hk]; rfl);have e2 : (v.kind == 2) = false := (by rw [hk]; rfl);have e3 : (v.kind == 3) = false := (by rw [hk]; rfl);have e4 : (v.kind == 4) = true := (by rw [hk]; rfl);have he : jWy v = (decide (1 <= v.f) && decide (v.f <= 5) && yKr v.x v.s v.b 0) := (by unfold jWy; simp only [hk, reduceIte, Int.reduceEq]);rw [he];clear hg0 he hk;go_enter Tryz.func105, Tryz.ntmps105;go_wp2_with fail
 all_goals (go_ret; refine ⟨?_, HG0.out⟩; first | (simp [yKr, *]; done) | (simp [yKr, *]; omega) | (simp [yKr, yBc, *]; intros; exfalso; omega) | (cases hb : v.b <;> simp_all [yKr, yBc]; done) | (by_cases hx : v.x = 0 <;> by_cases hf : v.f = 0 <;> simp_all [yKr, yBc]; done) | trace_state)
theorem yLY (v : ValT) (w : World) (h : ¬ (0 <= v.kind /\ v.kind <= 4)) :
    Calls Tryz.prog 105 #[valV v] w fun e w' => e = .returned (.bool (jWy v)) /\ Gr w w' := by
 obtain ⟨w0, hw0, hg0, hs0, c0, c1, c2, c3, c4⟩ := boxV w v 44;have HG0 := h_ hg0;have e0 : (v.kind == 0) = false := (by simp; omega);have e1 : (v.kind == 1) = false := (by simp; omega);have e2 : (v.kind == 2) = false := (by simp; omega);have e3 : (v.kind == 3) = false := (by simp; omega);have e4 : (v.kind == 4) = false := (by simp; omega);have he : jWy v = false := (by unfold jWy; rw [if_neg (by omega), if_neg (by omega), if_neg (by omega), if_neg (by omega), if_neg (by omega)]);rw [he];clear hg0 he h;go_enter Tryz.func105, Tryz.ntmps105;go_wp2_with fail
 all_goals (go_ret; refine ⟨?_, HG0.out⟩; first | (simp [*]; done) | (simp [yKr, yBc, *]; omega) | (simp [yKr, yBc, *]; intros; exfalso; omega) | (cases hb : v.b <;> simp_all [yKr, yBc]; done) | (by_cases hx : v.x = 0 <;> by_cases hf : v.f = 0 <;> simp_all [yKr, yBc]; done) | trace_state)
theorem zp2 (v : ValT) (w : World) (hs : v.s.size < 4611686018427387904) :
    Calls Tryz.prog 105 #[valV v] w fun e w' => e = .returned (.bool (jWy v)) /\ Gr w w' := by
 by_cases h0 : v.kind = 0
 . exact zyb v w h0
 by_cases h1 : v.kind = 1
 . exact y8N v w h1
 by_cases h2 : v.kind = 2
 . exact zgN v w h2 hs
 by_cases h3 : v.kind = 3
 . exact zTh v w h3
 by_cases h4 : v.kind = 4
 . exact zKr v w h4
 exact yLY v w (by omega)
theorem yBf (n : Nat) (c : ContT) (a : Option Addr) (cap : Nat) (w : World) (hok : c.ok) (hin : ArgsIn w n (.slice a c.t.args.length cap) c.t.args) :
    Calls Tryz.prog 64 #[jEC c a c.t.args.length cap] w fun e w' => e = .returned (.bool (yQy c)) /\ Gr w w' := by
 obtain ⟨w0, hw0, hg0, hs0, hC⟩ := boxC w c a c.t.args.length cap 51;have HG0 := h_ hg0;have HC := h_ hC;have H1 := h_ (yIr c.v w0);have H2 := h_ (zVC c.t a cap);have H3 := h_ (fun w1 => zp2 c.v w1 hok.1);have H4 := h_ (fun w1 (h : Gr w0 w1) => yCt n c.t a cap w1 hok.2.1 (hin.xt (hg0.trans h).xt));obtain ⟨c0, c1, c2, c3, c4, c5, c6, c7, c8, c9, c10, c11, c12, c13, c14, c15, c16, c17, c18, c19, c20⟩ := hC;simp only [Nat.zero_add] at c0 c1 c2 c3 c4 c5 c6 c7 c8 c9 c10 c11 c12 c13 c14 c15 c16 c17 c18 c19 c20;unfold yQy;generalize yDi c.v = nv at H1 ⊢;generalize z88 c.t = nn at H2 ⊢;generalize jWy c.v = vv at H3 ⊢
 generalize ywH c.t = ck at H4 ⊢;obtain ⟨b0, e0⟩ := e_ (c.kind == 0);obtain ⟨b1, e1⟩ := e_ (c.kind == 1);obtain ⟨b2, e2⟩ := e_ (c.kind == 2);obtain ⟨bv, ev⟩ := e_ (c.v.kind != 0);obtain ⟨bc, ec⟩ := e_ (ck == 0);rw [e0, e1, e2, ev, ec];clear hg0 hok hin;go_enter Tryz.func64, Tryz.ntmps64;go_wp2_with fail;refine (H1.out).mono ?_;rintro e w1 ⟨rfl, hg1⟩;have HG1 := h_ hg1;have hC1 := HC.out.xt hg1.xt;clear hg1 hw0 c0 c1 c2 c3 c4 c5 c6 c7 c8 c9 c10 c11 c12 c13 c14 c15 c16 c17 c18 c19 c20;obtain ⟨c0, c1, c2, c3, c4, c5, c6, c7, c8, c9, c10, c11, c12, c13, c14, c15, c16, c17, c18, c19, c20⟩ := hC1
 simp only [Nat.zero_add] at c0 c1 c2 c3 c4 c5 c6 c7 c8 c9 c10 c11 c12 c13 c14 c15 c16 c17 c18 c19 c20;go_wp2_with fail;refine (H2.out _).mono ?_;rintro e w2 ⟨rfl, hg2⟩;have HG2 := h_ (HG1.out.trans hg2);have hC2 := HC.out.xt HG2.out.xt;have H42 := h_ (H4.out w2 HG2.out);clear hg2 c0 c1 c2 c3 c4 c5 c6 c7 c8 c9 c10 c11 c12 c13 c14 c15 c16 c17 c18 c19 c20;obtain ⟨c0, c1, c2, c3, c4, c5, c6, c7, c8, c9, c10, c11, c12, c13, c14, c15, c16, c17, c18, c19, c20⟩ := hC2;simp only [Nat.zero_add] at c0 c1 c2 c3 c4 c5 c6 c7 c8 c9 c10 c11 c12 c13 c14 c15 c16 c17 c18 c19 c20;cases b0;rotate_left
 . go_wp2_with fail
   all_goals (go_ret; exact ⟨by simp [*], HG0.out.trans HG2.out⟩)
 cases b1;rotate_left
 . go_wp2_with fail;refine (H3.out _).mono ?_;rintro e w3 ⟨rfl, hg3⟩;have HG3 := h_ (HG2.out.trans hg3);have hC3 := HC.out.xt HG3.out.xt;clear hg3 c0 c1 c2 c3 c4 c5 c6 c7 c8 c9 c10 c11 c12 c13 c14 c15 c16 c17 c18 c19 c20;obtain ⟨c0, c1, c2, c3, c4, c5, c6, c7, c8, c9, c10, c11, c12, c13, c14, c15, c16, c17, c18, c19, c20⟩ := hC3;simp only [Nat.zero_add] at c0 c1 c2 c3 c4 c5 c6 c7 c8 c9 c10 c11 c12 c13 c14 c15 c16 c17 c18 c19 c20;cases nn <;> cases vv <;> cases bv
   all_goals (go_wp2_with fail; all_goals (go_ret; exact ⟨by simp [*], HG0.out.trans HG3.out⟩))
 cases b2;rotate_left
 . go_wp2_with fail;refine (H42.out).mono ?_;rintro e w3 ⟨rfl, hg3⟩;have HG3 := h_ (HG2.out.trans hg3);clear hg3;cases nv <;> cases bc
   all_goals (go_wp2_with fail; all_goals (go_ret; exact ⟨by simp [*], HG0.out.trans HG3.out⟩))
 . go_wp2_with fail;go_ret;exact ⟨rfl, HG0.out.trans HG2.out⟩
theorem yo2 {a b : ValT} (h : (a.kind == b.kind) = false) : zpY a b = false := by
 cases hs : zpY a b
 . rfl
 . have := congrArg Prod.fst ((yaM _ _).1 hs);simp only [keyV] at this;rw [this] at h; simp at h
theorem sameV_1 {a b : ValT} (h : (a.kind == b.kind) = true) (h1 : (a.kind == 1) = true) (ha : a.x < 18446744073709551616) (hb : b.x < 18446744073709551616) : zpY a b = (((oneX a.x : Nat) : Int) == ((oneX b.x : Nat) : Int)) := by
 have e := eq_of_beq h;rw [Bool.eq_iff_iff, yaM];unfold keyV;rw [<- e];simp only [h1, if_true, Prod.mk.injEq, true_and, KeyV.n.injEq, beq_iff_eq];rw [z9U ha hb]; omega
theorem sameV_2 {a b : ValT} (h : (a.kind == b.kind) = true) (h1 : (a.kind == 1) = false) (h2 : (a.kind == 2) = true) : zpY a b = (a.s.toList == b.s.toList) := by
 have e := eq_of_beq h;rw [Bool.eq_iff_iff, yaM];unfold keyV;rw [<- e];simp only [h1, h2, if_true, Bool.false_eq_true, if_false, Prod.mk.injEq, true_and, KeyV.s.injEq, beq_iff_eq];rw [jKD];obtain ⟨_, _, ⟨⟨x⟩⟩, _, _⟩ := a;obtain ⟨_, _, ⟨⟨y⟩⟩, _, _⟩ := b;simp
theorem sameV_3 {a b : ValT} (h : (a.kind == b.kind) = true) (h1 : (a.kind == 1) = false) (h2 : (a.kind == 2) = false) (h3 : (a.kind == 3) = true) : zpY a b = (a.b == b.b) := by
 have e := eq_of_beq h;rw [Bool.eq_iff_iff, yaM];unfold keyV;rw [<- e];simp only [h1, h2, h3, if_true, Bool.false_eq_true, if_false, Prod.mk.injEq, true_and, KeyV.b.injEq, beq_iff_eq]
theorem sameV_4 {a b : ValT} (h : (a.kind == b.kind) = true) (h1 : (a.kind == 1) = false) (h2 : (a.kind == 2) = false) (h3 : (a.kind == 3) = false) (h4 : (a.kind == 4) = true) : zpY a b = (a.f == b.f) := by
 have e := eq_of_beq h;rw [Bool.eq_iff_iff, yaM];unfold keyV;rw [<- e];simp only [h1, h2, h3, h4, if_true, Bool.false_eq_true, if_false, Prod.mk.injEq, true_and, KeyV.f.injEq, beq_iff_eq]
theorem sameV_o {a b : ValT} (h : (a.kind == b.kind) = true) (h1 : (a.kind == 1) = false) (h2 : (a.kind == 2) = false) (h3 : (a.kind == 3) = false) (h4 : (a.kind == 4) = false) : zpY a b = true := by
 have e := eq_of_beq h;rw [yaM];unfold keyV;rw [<- e];simp only [h1, h2, h3, h4, Bool.false_eq_true, if_false]
theorem z4a (a b : ValT) (w : World) (ha : a.x < 18446744073709551616) (hb : b.x < 18446744073709551616) : Calls Tryz.prog 97 #[valV a, valV b] w fun e w' => e = .returned (.bool (zpY a b)) /\ Gr w w' := by
 obtain ⟨w0, hw0, hg0, hs0, c0, c1, c2, c3, c4⟩ := boxV w a 44;obtain ⟨w1, hw1, hg1, hs1, d0, d1, d2, d3, d4⟩ := boxV w0 b 44;rw [hs0] at d0 d1 d2 d3 d4;have cc := fun o => (hg1.xt.cells).1 w.heap.size o (by omega);have k0 := (cc 0).trans c0;have k1 := (cc 1).trans c1;have k2 := (cc 2).trans c2;have k3 := (cc 3).trans c3;have k4 := (cc 4).trans c4;clear c0 c1 c2 c3 c4 cc hs1;have HG := h_ (hg0.trans hg1);have HA := h_ (yq7 a.x);have HB := h_ (yq7 b.x);clear hg0 hg1;cases h : (a.kind == b.kind)
 . have hn : (a.kind != b.kind) = true := (by unfold bne; rw [h]; rfl);have HS := h_ (yo2 h);go_enter Tryz.func97, Tryz.ntmps97;go_wp2_with fail;go_ret;exact ⟨by rw [HS.out]; rfl, HG.out⟩
 have hn : (a.kind != b.kind) = false := (by unfold bne; rw [h]; rfl);cases h1 : (a.kind == 1);rotate_left
 . have HS := h_ (sameV_1 h h1 ha hb);go_enter Tryz.func97, Tryz.ntmps97;go_wp2_with fail
   go_quiet (first | ((go_at_call 131; exact Calls.quiet_of_same ((HA.out _).mono fun _ _ h => ⟨h.1, h.2.symm⟩))) | ((go_at_call 131; exact Calls.quiet_of_same ((HB.out _).mono fun _ _ h => ⟨h.1, h.2.symm⟩))))
   go_wp2_with fail;go_ret;exact ⟨by rw [HS.out]; rfl, by first | exact HG.out.drewN _ | exact (((Gr.refl _).alloc _).alloc _).drewN _⟩
 cases h2 : (a.kind == 2);rotate_left
 . have HS := h_ (sameV_2 h h1 h2);go_enter Tryz.func97, Tryz.ntmps97;go_wp2_with fail;go_ret;exact ⟨by rw [HS.out]; rfl, HG.out⟩
 cases h3 : (a.kind == 3);rotate_left
 . have HS := h_ (sameV_3 h h1 h2 h3);go_enter Tryz.func97, Tryz.ntmps97;go_wp2_with fail;go_ret;exact ⟨by rw [HS.out]; rfl, HG.out⟩
 cases h4 : (a.kind == 4);rotate_left
 . have HS := h_ (sameV_4 h h1 h2 h3 h4);go_enter Tryz.func97, Tryz.ntmps97;go_wp2_with fail;go_ret;exact ⟨by rw [HS.out]; rfl, HG.out⟩
 . have HS := h_ (sameV_o h h1 h2 h3 h4);go_enter Tryz.func97, Tryz.ntmps97;go_wp2_with fail;go_ret;exact ⟨by rw [HS.out]; rfl, HG.out⟩
theorem zqy (n : Nat) (a b : ContT) (aa ba : Option Addr) (ac bc : Nat) (w : World) (hoa : a.ok) (hob : b.ok) (ha : ArgsIn w n (.slice aa a.t.args.length ac) a.t.args) (hb : ArgsIn w n (.slice ba b.t.args.length bc) b.t.args) :
    Calls Tryz.prog 61 #[jEC a aa a.t.args.length ac, jEC b ba b.t.args.length bc] w fun e w' => e = .returned (.bool (z0G a b)) /\ Gr w w' := by
 obtain ⟨w0, hw0, hg0, hs0, hN⟩ := boxC w a aa a.t.args.length ac 51;obtain ⟨w1, hw1, hg1, hs1, hM⟩ := boxC w0 b ba b.t.args.length bc 51;rw [hs0] at hM;have hN := hN.xt hg1.xt;obtain ⟨k0, k1, k2, k3, k4, k5, k6, k7, k8, k9, k10, k11, k12, k13, k14, k15, k16, k17, k18, k19, k20⟩ := hN;simp only [Nat.zero_add] at k0 k1 k2 k3 k4 k5 k6 k7 k8 k9 k10 k11 k12 k13 k14 k15 k16 k17 k18 k19 k20;obtain ⟨m0, m1, m2, m3, m4, m5, m6, m7, m8, m9, m10, m11, m12, m13, m14, m15, m16, m17, m18, m19, m20⟩ := hM;simp only [Nat.zero_add] at m0 m1 m2 m3 m4 m5 m6 m7 m8 m9 m10 m11 m12 m13 m14 m15 m16 m17 m18 m19 m20;have HG := h_ (hg0.trans hg1);have HV := h_ (z4a a.v b.v w1 hoa.2.2 hob.2.2)
 have HT := h_ (ygk n a.t b.t aa ba ac bc w1 (ha.xt (hg0.trans hg1).xt) (hb.xt (hg0.trans hg1).xt));clear ha hb hg0 hg1 hoa hob;cases hk : (a.kind == b.kind)
 . have hn : (a.kind != b.kind) = true := (by unfold bne; rw [hk]; rfl);have HS := h_ (jU2 hk);clear k1 k2 k3 k4 k5 k6 k7 k8 k9 k10 k11 k12 k13 k14 k15 k16 k17 k18 k19 k20 m1 m2 m3 m4 m5 m6 m7 m8 m9 m10 m11 m12 m13 m14 m15 m16 m17 m18 m19 m20;go_enter Tryz.func61, Tryz.ntmps61;go_wp2_with fail;go_ret;exact ⟨by rw [HS.out]; rfl, HG.out⟩
 have hn : (a.kind != b.kind) = false := (by unfold bne; rw [hk]; rfl);cases h1 : (a.kind == 1);rotate_left
 . have HS := h_ (jLK hk h1);clear k6 k7 k8 k9 k10 k11 k12 k13 k14 k15 k16 k17 k18 k19 k20 m6 m7 m8 m9 m10 m11 m12 m13 m14 m15 m16 m17 m18 m19 m20;go_enter Tryz.func61, Tryz.ntmps61;go_wp2_with (refine (HV.out).mono ?_; rintro e w2 ⟨rfl, hg2⟩; have HG2 := h_ hg2; clear hg2)
   go_ret;exact ⟨by rw [HS.out]; rfl, HG.out.trans HG2.out⟩
 cases h2 : (a.kind == 2)
 . have HS := h_ (yn9 hk h1 h2);clear k1 k2 k3 k4 k5 k6 k7 k8 k9 k10 k11 k12 k13 k14 k15 k16 k17 k18 k19 k20 m1 m2 m3 m4 m5 m6 m7 m8 m9 m10 m11 m12 m13 m14 m15 m16 m17 m18 m19 m20;go_enter Tryz.func61, Tryz.ntmps61;go_wp2_with fail;go_ret;exact ⟨by rw [HS.out]; rfl, HG.out⟩
 . have HS := h_ (zrN hk h1 h2);clear k1 k2 k3 k4 k5 m1 m2 m3 m4 m5;go_enter Tryz.func61, Tryz.ntmps61;go_wp2_with (refine (HT.out).mono ?_; rintro e w2 ⟨rfl, hg2⟩; have HG2 := h_ hg2; clear hg2)
   go_ret;exact ⟨by rw [HS.out]; rfl, HG.out.trans HG2.out⟩
def kPlain : ContT := ⟨1, ⟨1, 4619567317775286272, ⟨#[]⟩, false, 0⟩, zeroC.t⟩
def kForm : ContT := ⟨2, zeroC.v, refT (1, 1)⟩
def jBf : PG := putP (putP [] (1, 1) kPlain) (2, 1) kForm
def kOut : PG := yan (z7H false ⟨1, 2, 4096⟩) (zi9 false ⟨1, 2, 4096⟩) jBf
theorem j1C : kPlain.ok := by simp [ContT.ok, kPlain, zeroC, NodeT.ok, okL, ByteArray.size]
theorem zwn : kForm.ok := by simp [ContT.ok, kForm, refT, zeroC, NodeT.ok, okL, ByteArray.size]
theorem k_code1 : jJz [] (1, 1) kPlain = 0 := by kernel_rfl
theorem k_code2 : jJz (putP [] (1, 1) kPlain) (2, 1) kForm = 0 := by kernel_rfl
theorem k_stop : zcM (z7H false ⟨1, 2, 4096⟩) 2 jBf = false := by kernel_rfl
theorem k_made : (jls (yaC false) 1 2).2 = true := by kernel_rfl
theorem k_len : kOut.length = 2 := by kernel_rfl
theorem k_at : ((lkM (2, 3) kOut).getD zeroC).kind = 2 /\ ((lkM (2, 3) kOut).getD zeroC).t.ref.a = (1, 3) := ⟨by kernel_rfl, by kernel_rfl⟩
theorem k_x : oneX ((lkM (1, 3) kOut).getD zeroC).v.x = 4619567317775286272 := by kernel_rfl
theorem er_getD (a : Ad) (M : GM) : ((lkM a M).getD (zeroC, none)).1 = (lkM a (er M)).getD zeroC := by rw [er_lk]; cases lkM a M <;> rfl
theorem z8e {w w' : World} {b : Nat} {u v x : Value} (h : c_ w b 0 u /\ c_ w b 12 v /\ c_ w b 13 x) (hx : Xt w w') : c_ w' b 0 u /\ c_ w' b 12 v /\ c_ w' b 13 x := ⟨hx.cellsIn _ _ _ h.1, hx.cellsIn _ _ _ h.2.1, hx.cellsIn _ _ _ h.2.2⟩
@[go_sem] theorem run_field_cv (y : ContT) (a : Option Addr) (n m : Nat) (w : World) : (Instr.field 51 (jEC y a n m) 1).run Tryz.prog w = .ok (.agg #[y.v.kind, .float .f64 y.v.x, .string y.v.s, y.v.b, y.v.f]) w := by
 have u := run_underlying Tryz.underlying51;have u2 := run_underlying Tryz.underlying44;simp [Instr.field, u, part, asAgg]
theorem float7 : FloatKind.f64.format.order 4619567317775286272 4619567317775286272 = some Ordering.eq := by decide +kernel
theorem jPi : yQE kPlain.t := by simp [kPlain, zeroC, yQE, joP]
theorem jpi : yQE kForm.t := by simp [kForm, refT, yQE, joP]
theorem zbi {w : World} : ArgsIn w 0 (.slice none 0 0) [] := ⟨rfl, none, 0, rfl, by omega⟩
theorem yQH {w w' : World} {a b : Obj} (h : w' = (w.alloc a).alloc b) : Xt w w' := by rw [h]; exact ((Xt.refl _).alloc _).alloc _
theorem j8D {w w' : World} {a : Obj} (h : w' = w.alloc a) : Xt w w' := by rw [h]; exact (Xt.refl _).alloc _
theorem ydU : GOk jBf := (GOk.nil.put _ j1C).put _ zwn
theorem k_rows (gb mb : Nat) (M : GM) (hM : er M = jBf) (w : World) (hG : GridIs w gb mb M) (hT : Tabs w) :
    Calls Tryz.prog 33 #[v_ gb, .int .i64 1, .int .i64 2] w fun e w' => ∃ go mo Mo, e = .returned (.tuple #[v_ go, .int .i64 0]) /\ GridIs w' go mo Mo /\ er Mo = kOut /\ Xt w w' :=
 (yaX 1 2 gb mb M w hG hT (hM ▸ ydU)).mono fun e w' h => by
  obtain ⟨hx, (⟨h1, _⟩ | ⟨_, (⟨h2, _⟩ | ⟨_, go, mo, Mo, rfl, h3, h4, _⟩)⟩)⟩ := h
  . rw [k_made] at h1; cases h1
  . rw [hM] at h2; exact absurd (k_stop.symm.trans h2) (by decide)
  . rw [hM] at h4; exact ⟨go, mo, Mo, rfl, h3, h4, hx⟩
theorem ys3 (w : World) (hT : Tabs w) : Calls Tryz.prog 9 #[] w fun e w' => e = .returned (.bool true) /\ Xt w w' := by
 have HT := h_ hT;have hq2 := fun w f lb => jGY (P := Tryz.prog) w 75 _ _ _ (.func f) #[] lb Tryz.underlying75;have hqn := fun w f lb => jGY (P := Tryz.prog) w 85 _ _ _ (.func f) #[] lb Tryz.underlying85;have hqa := fun w f lb => jGY (P := Tryz.prog) w 39 _ _ _ (.func f) #[] lb Tryz.underlying39;clear hT;go_enter Tryz.func9, Tryz.ntmps9;have hm1 : True := trivial;have hm2 : True := trivial;go_wp2_with (first
  | (go_at_call 35; refine (zPb _).mono ?_; rintro e w1 ⟨rfl, hG1, hg1⟩; have HX := h_ hg1.xt; have HG := h_ hG1; clear hg1 hG1)
  | (go_at_call 14; refine (jDf (_, _) _).mono ?_; rintro e w2 ⟨rfl, hg2⟩; have HX := h_ (HX.out.trans hg2.xt); have HG := h_ (HG.out.xt hg2.xt); clear hg2)
  | (go_at_call 36; refine (ref_any (_, _) _).mono ?_; rintro e w2 ⟨rfl, hg2⟩; have HX := h_ (HX.out.trans hg2); have HG := h_ (HG.out.xt hg2); clear hg2)
  | (go_at_call 25; have hm0 := hm1; clear hm1 hm0; refine (zbE 0 _ _ [] (1, 1) kPlain none 0 _ HG.out j1C (HT.out.xt HX.out) jPi zbi).mono ?_; rintro e w3 ⟨zp, rfl, hG3, hg3⟩; rw [show zWI ([] : GM) (1, 1) kPlain = 0 from (ycU _ _ _).trans k_code1]; have HX := h_ (HX.out.grownB hg3 (fun q hq => by cases hq; exact Nat.le_refl _)); have HG := h_ hG3; clear hG3 hg3)
  | (go_at_call 25; have hm0 := hm2; clear hm2 hm0; refine (zbE 0 _ _ (j4E [] (1, 1) kPlain zp) (2, 1) kForm none 0 _ HG.out zwn (HT.out.xt HX.out) jpi zbi).mono ?_; rintro e w4 ⟨zq, rfl, hG3, hg3⟩; rw [show zWI (j4E ([] : GM) (1, 1) kPlain zp) (2, 1) kForm = 0 from (ycU _ _ _).trans (by rw [yZx]; exact k_code2)]; have HX := h_ (HX.out.grownB hg3 (fun q hq => by cases hq; exact Nat.le_refl _)); have HG := h_ hG3; clear hG3 hg3)
  | (go_at_call 33; refine (k_rows _ _ _ (by rw [yZx, yZx]; rfl) _ HG.out (HT.out.xt HX.out)).mono ?_; rintro e w5 ⟨go, mo, Mo, rfl, hG5, hE5, hx5⟩; have HX := h_ (HX.out.trans hx5); have HG := h_ hG5; have HE := h_ hE5; have hlen : (Mo.length : Int) = 2 := (by rw [<- er_len, hE5, k_len]; rfl); clear hG5 hE5 hx5)
  | (go_at_call 19; refine (yIk _ _ _ _ HG.out).mono ?_; rintro e w6 ⟨rfl, rfl⟩; rw [hlen])
  | (go_at_call 37; refine ((callsIn_wide (n := 20)).1 (zkD 20 (by omega) _ _)).mono ?_; rintro e w6 ⟨rfl, hw6⟩; have hx6 := yQH hw6; have HX := h_ (HX.out.trans hx6); have HG := h_ (HG.out.xt hx6); clear hx6 hw6)
  | (go_at_call 38; refine (yFe 0 (refT (1, 1)) none 0 _ jpi zbi).mono ?_; rintro e w6 ⟨bn, an, nn, rfl, _, _, _, hx6⟩; have HX := h_ (HX.out.trans hx6); have HG := h_ (HG.out.xt hx6); clear hx6)
  | (go_at_call 39; refine (j0f ⟨_, _, _, _⟩ _).mono ?_; rintro e w6 ⟨rfl, hw6⟩; have hx6 := j8D hw6; have HX := h_ (HX.out.trans hx6); have HG := h_ (HG.out.xt hx6); clear hx6 hw6)
  | (go_at_call 15; refine (yLO _ _ _ (2, 3) _ HG.out).mono ?_; rintro e w7 ⟨n7, a7, rfl, hA7, hx7⟩; obtain ⟨z, hz1, hz2⟩ : ∃ z : CE, z.1 = jNS ((lkM (2, 3) Mo).getD (zeroC, none)).1 /\ z.2 = a7 := ⟨(_, _), rfl, rfl⟩; have hzv : ysf ((lkM (2, 3) Mo).getD (zeroC, none)).1 a7 = ceV z := (by rw [<- jX1]; obtain ⟨z1, z2⟩ := z; simp only at hz1 hz2; rw [hz1, hz2]); rw [hzv]; have HZ : Hid (z.1.kind = 2 /\ z.1.t.ref.a = (1, 3)) := (by unfold Hid; rw [hz1, er_getD, HE.out]; exact ⟨k_at.1, (congrArg RefT.a (zKL _)).trans k_at.2⟩); have HX := h_ (HX.out.trans hx7); have HG := h_ (HG.out.xt hx7); obtain ⟨wZ, wR, hwZ, hwR, hrZ, hrR, hxR, hsR, hxZ, hsZ⟩ := boxR w7 z; have HX := h_ (HX.out.trans hxR); have HG := h_ (HG.out.xt hxR); have HRZ := h_ hrZ; have HRR := h_ hrR; have HWR := h_ hwR; clear hrZ hwR hrR hxR hxZ hA7 hx7 hzv hz1 hz2)
  | (refine w_ (P := Tryz.prog) rfl 51 _ _ rfl w7.heap.size #[.int .i64 z.1.kind, .int .i64 z.1.v.kind, .float .f64 z.1.v.x, .string z.1.v.s, .bool z.1.v.b, .int .i64 z.1.v.f, .int .i64 z.1.t.kind, .int .i64 z.1.t.op, .float .f64 z.1.t.x, .string z.1.t.s, .bool z.1.t.b, .int .i64 z.1.t.f, .int .i64 z.1.t.ref.a.1, .int .i64 z.1.t.ref.a.2, .bool z.1.t.ref.cf, .bool z.1.t.ref.rf, .int .i64 z.1.t.to.a.1, .int .i64 z.1.t.to.a.2, .bool z.1.t.to.cf, .bool z.1.t.to.rf, .slice z.2 z.1.t.args.length z.1.t.args.length] rfl rfl 51 _ HRZ.out (by kernel_rfl) rfl (by simp [Value.oneCell']) ?_; rw [HWR.out]))
 have HH0 : Hid (wR.drew.cell? ⟨w7.heap.size, 0, none⟩ = some (.int .i64 2) /\ wR.drew.cell? ⟨w7.heap.size, 12, none⟩ = some (.int .i64 1) /\ wR.drew.cell? ⟨w7.heap.size, 13, none⟩ = some (.int .i64 3)) := by
  have h : wR.drew.heap[w7.heap.size]? = _ := HRR.out;have h1 := HZ.out.1;have h2 := congrArg Prod.fst HZ.out.2;have h3 := congrArg Prod.snd HZ.out.2;simp only at h2 h3;refine ⟨?_, ?_, ?_⟩ <;> simp [World.cell?, h, h1, h2, h3]
 have HX := h_ (HX.out.trans (Xt.refl wR).drew);have HG := h_ (HG.out.xt (Xt.refl wR).drew);refine wp_region_held_drew (S := fun V => c_ V w7.heap.size 0 (.int .i64 2) /\ c_ V w7.heap.size 12 (.int .i64 1) /\ c_ V w7.heap.size 13 (.int .i64 3)) (by kernel_rfl) HH0.out (fun hHeld => ?_);refine tkS 0 ?_;refine tkS 1 ?_;refine tkS 2 ?_;refine tkS 3 ?_;refine tkS 4 ?_;refine tkS 5 ?_;refine tkS 6 ?_;refine tkS 7 ?_;refine rdH 8 (fun K hK => ?_);go_simp;refine (jDf (_, _) _).mono ?_;rintro e v1 ⟨rfl, hg⟩;have HHv1 := h_ (z8e HH0.out hg.xt);have HX := h_ (HX.out.trans hg.xt);have HG := h_ (HG.out.xt hg.xt)
 refine hK.out _ _ HHv1.out (fun hHeldv1 => ?_);clear hg;clear hK K;refine tkH 9 (.bool true) ?_ ?_
 . intro V hSw; (try dsimp only at hSw); obtain ⟨u0, u1, u2⟩ := hSw; go_simp; first | done | with_reducible rfl | (simp [eqAd2])
 try simp only [Act.put, nm]
 refine tkS 10 ?_;refine tkS 11 ?_;refine tkS 12 ?_;refine rdH 13 (fun K hK => ?_);go_simp;refine (jDf (_, _) _).mono ?_;rintro e v2 ⟨rfl, hg⟩;have HHv2 := h_ (z8e HHv1.out hg.xt);have HX := h_ (HX.out.trans hg.xt);have HG := h_ (HG.out.xt hg.xt);refine hK.out _ _ HHv2.out (fun hHeldv2 => ?_);clear hg;clear hK K;refine rdH 14 (fun K hK => ?_);go_simp;refine (yLO _ _ _ (1, 3) _ HG.out).mono ?_;rintro e v3 ⟨n8, a8, rfl, hA8, hx8⟩;obtain ⟨y, hy⟩ : ∃ y : ContT, jNS ((lkM (1, 3) Mo).getD (zeroC, none)).1 = y := ⟨_, rfl⟩;have hyx : y.v.x = 4619567317775286272 := (by rw [<- hy, er_getD, HE.out]; exact k_x);have HHv3 := h_ (z8e HHv2.out hx8)
 have HX := h_ (HX.out.trans hx8);simp only [ysf, hy];refine hK.out _ _ HHv3.out (fun hHeldv3 => ?_);clear hx8 hA8;clear hK K;try simp only [Act.put, nm]
 refine tkS 15 ?_;refine tkS 16 ?_;refine tkH 17 (.bool true) ?_ ?_
 . intro V hSw; (try dsimp only at hSw); obtain ⟨u0, u1, u2⟩ := hSw; go_simp; first | done | with_reducible rfl | exact float7
 try simp only [Act.put, nm]
 refine tkS 18 ?_;refine rdH 19 (fun K hK => ?_);go_simp;refine hK.out _ _ HHv3.out (fun hHeld9 => ?_);clear hK K;refine z_ (by kernel_rfl) ?_ _;go_wp2_with fail;go_ret;exact ⟨rfl, HX.out⟩
end
section
open Go.RowKit Go.Sort Go.Maps Go.Shelf Go.MapKept
attribute [local go_sem] Oper.semAt_some
theorem ArgsIn.upQ {w : World} {n m : Nat} {av : Value} {l : List NodeT} (hm : n <= m) (h : ArgsIn w n av l) : ArgsIn w m av l := by
 obtain ⟨k, rfl⟩ := Nat.exists_eq_add_of_le hm;clear hm
 induction k with
 | zero => exact h
 | succ k ih => exact ih.up
end
end Go.Proofs.YtdoeejhdenifpaaGreatDoor
