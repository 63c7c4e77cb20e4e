import Derived.Test.YtdoeejhdenifpaaGreatDoorB6
import Derived.Laws.Rows
import Derived.Deep.MidRow
set_option maxRecDepth 100000
set_option maxHeartbeats 16000000
namespace Go.Proofs.YtdoeejhdenifpaaGreatDoor
section
open Go.RowKit Go.Sort
@[go_sem] theorem zEq {P : Program} (w : World) (a : Addr) (m : Mode) (k : FloatKind) (b : Nat) : (store a (.float k b) m).run P w = stored P w a (.float k b) m := run_store P w a _ m rfl
mutual
def zAv : NodeT -> Int × Int
 | .mk _ _ _ _ _ _ _ _ args => (wrap64 ((jHU args 0 0).1 + 1), wrap64 ((jHU args 0 0).2 + 1))
def jHU : List NodeT -> Int -> Int -> Int × Int
 | [], n, d => (n, d)
 | t :: r, n, d => jHU r (wrap64 (n + (zAv t).1)) (max d (zAv t).2)
end
theorem z1h (t : NodeT) : zAv t = (wrap64 ((jHU t.args 0 0).1 + 1), wrap64 ((jHU t.args 0 0).2 + 1)) := by cases t; simp [zAv, NodeT.args]
theorem yQh : ∀ (n : Nat) (t : NodeT) (a : Option Addr) (cap : Nat) (w : World), ArgsIn w n (.slice a t.args.length cap) t.args ->
    Calls Tryz.prog 134 #[jSk t a t.args.length cap] w fun e w' => e = .returned (.tuple #[(zAv t).1, (zAv t).2]) /\ Gr w w' := by
 intro n
 induction n using Nat.strongRecOn with
 | ind n ih =>
  intro t a cap w hin;have HIN := h_ hin;obtain ⟨_, _, he, q1, q2⟩ := hin.shape;cases he;have IH := h_ ih;obtain ⟨w0, hw0, hg0, hs0, hN⟩ := boxN w t a t.args.length cap 49;have HG0 := h_ hg0;have HN := h_ hN;have c14 := hN.c14;rw [Nat.zero_add] at c14;generalize hmt : zAv t = mt;have HM := h_ hmt;have HW : Hid (jHU (t.args.drop 0) 0 0 = jHU t.args 0 0) := (by rw [List.drop_zero]; rfl);clear hin hN hg0 ih hmt;go_enter Tryz.func134, Tryz.ntmps134;go_wp2_with fail;clear hw0
  go_loopw [2, 3, 11] (fun s2 s3 s11 wr => ∃ (i : Nat) (x y : Int), i <= t.args.length /\ s11 = .int .i64 i /\ s2 = .int .i64 x /\ s3 = .int .i64 y /\ Hid (jHU (t.args.drop i) x y = jHU t.args 0 0) /\ Hid (Gr w0 wr)) (fun _ _ s11 _ => t.args.length - (intOf s11).toNat)
  case atStart => exact ⟨0, 0, 0, Nat.zero_le _, rfl, rfl, rfl, HW, Gr.refl _⟩
  case round =>
   obtain ⟨i, x, y, hi, rfl, rfl, rfl, HWi, HG⟩ := hrel;by_cases hlt : i < t.args.length
   . have hii : (i : Int) < (t.args.length : Int) := (by omega);obtain ⟨u, hx⟩ : ∃ u, t.args[i]? = some u := ⟨t.args[i], by simp [hlt]⟩;have hdr := ykK hx;obtain ⟨n', b, off, a', c', hn, rfl, hA, hI⟩ := HIN.out.at hx;have hxw : Xt w wr := HG0.out.xt.trans HG.out.xt;obtain ⟨d0, d1, d2, d3, d4, d5, d6, d7, d8, d9, d10, d11, d12, d13, d14⟩ := hA.xt hxw;obtain ⟨w1, hw1, hg1, hs1, hB⟩ := boxN wr u a' u.args.length c' 49;obtain ⟨e0, e1, e2, e3, e4, e5, e6, e7, e8, e9, e10, e11, e12, e13, e14⟩ := hB;simp only [Nat.zero_add] at e0 e1 e2 e3 e4 e5 e6 e7 e8 e9 e10 e11 e12 e13 e14;have hcall := IH.out n' (by omega) u a' c' w1 ((hI.xt hxw).xt hg1.xt)
     have HSTEP : Hid (jHU (t.args.drop (i + 1)) (wrap64 (x + (zAv u).1)) (max y (zAv u).2) = jHU t.args 0 0) := by
      have h := HWi.out;rw [hdr] at h;simp only [jHU] at h;exact h
     have HCALL := h_ hcall;have HG1 := h_ hg1;generalize zAv u = mu at HSTEP HCALL;obtain ⟨m1, m2⟩ := mu;simp only at HSTEP HCALL;clear hx hdr hA hI hn hcall hxw hg1;go_wp2_with fail;refine (HCALL.out).mono ?_;rintro e w2 ⟨rfl, hg2⟩;have HG2 := h_ hg2;clear hg2 d0 d1 d2 d3 d4 d5 d6 d7 d8 d9 d10 d11 d12 d13 d14 e0 e1 e2 e3 e4 e5 e6 e7 e8 e9 e10 e11 e12 e13 e14;go_wp2_with fail;go_roundw
     case rel => exact ⟨i + 1, _, _, by omega, by go_num, rfl, rfl, (by first | exact HSTEP | (rw [show (if y < m2 then m2 else y) = max y m2 from by omega]; exact HSTEP)), (HG.out.trans HG1.out).trans HG2.out⟩
     case measure => simp [intOf]; omega
   . have HE : Hid ((x, y) = jHU t.args 0 0) := by
      have h := HWi.out;rw [List.drop_eq_nil_of_le (by omega)] at h;simp only [jHU] at h;exact h
     go_wp2_with fail
     go_ret2
     refine ⟨?_, HG0.out.trans HG.out⟩;rw [<- HM.out, z1h, <- HE.out];rfl
theorem Tabs.xt {w w' : World} (h : Tabs w) (hx : Xt w w') : Tabs w' := by
 refine ⟨fun c hc => ?_, fun i hi => ⟨?_, ?_⟩⟩
 . exact ((hx.cells).1 _ _ (b_ w _ (h.1 c hc))).trans (h.1 c hc)
 . exact ((hx.cells).1 _ _ (b_ w _ (h.2 i hi).1)).trans (h.2 i hi).1
 . exact ((hx.cells).1 _ _ (b_ w _ (h.2 i hi).2)).trans (h.2 i hi).2
abbrev ygO (k op : Int) (x : Nat) (s : ByteArray) (b : Bool) (f : Int) (r q : RefT) (a : Option Addr) (n cap : Nat) : Value :=
 .agg (rM k op x s b f r.a.1 r.a.2 r.cf r.rf q.a.1 q.a.2 q.cf q.rf (.slice a n cap))
abbrev zR : RefT := ⟨(0, 0), false, false⟩
theorem jpM (x : Nat) (w : World) :
    Calls Tryz.prog 81 #[.float .f64 x] w fun e w' => e = .returned (.agg #[.int .i64 1, .float .f64 (oneX x), .string ⟨#[]⟩, .bool false, .int .i64 0]) /\ Gr w w' := by
 have H1 := h_ (yCW x);generalize oneX x = ox at H1 ⊢;go_enter Tryz.func81, Tryz.ntmps81;go_wp2_with (refine (H1.out _).mono ?_; rintro e w' ⟨rfl, rfl⟩)
 (try simp only [Exit.inBlock, Exit.then])
 refine p_ (t_ rfl _ _ w.heap.size _ _ _ _ rfl (heap_alloc_new _ _) Tryz.underlying44 rfl (by kernel_rfl)) rfl ?_;exact ⟨rfl, (Gr.refl _).alloc _⟩
theorem yO2 (a : Option Addr) (n cap : Nat) (w : World) (h : n <= cap) (_hc : cap <= 9223372036854775807) :
    Calls Tryz.prog 121 #[.slice a n cap] w fun e w' => e = .returned (.slice a n n) /\ w = w' := by
 have h0 : (0 : Int) <= (n : Int) := (by omega);have h1 : (n : Int) <= (cap : Int) := (by omega);have h2 : (n : Int) <= (n : Int) := (by omega);go_enter Tryz.func121, Tryz.ntmps121;go_wp2_with fail;go_ret;exact ⟨rfl, rfl⟩
theorem j94 (x c : Int) : wrap64 (wrap64 (x + 1) + c) = wrap64 (wrap64 (x + c) + 1) := by unfold wrap64; omega
theorem ze0 : ∀ (n : Nat) (t : NodeT) (a : Option Addr) (cap : Nat) (w : World), ArgsIn w n (.slice a t.args.length cap) t.args ->
    Calls Tryz.prog 137 #[jSk t a t.args.length cap] w fun e w' => e = .returned (.int .i64 (zAv t).1) /\ Gr w w' := by
 intro n
 induction n using Nat.strongRecOn with
 | ind n ih =>
  intro t a cap w hin;have HIN := h_ hin;obtain ⟨_, _, he, q1, q2⟩ := hin.shape;cases he;have IH := h_ ih;obtain ⟨w0, hw0, hg0, hs0, hN⟩ := boxN w t a t.args.length cap 49;have HG0 := h_ hg0;have HN := h_ hN;have c14 := hN.c14;rw [Nat.zero_add] at c14;generalize hmt : (zAv t).1 = mt;have HM := h_ hmt;have HW : Hid ((jHU (t.args.drop 0) 0 0).1 = (jHU t.args 0 0).1) := (by rw [List.drop_zero]; rfl);clear hin hN hg0 ih hmt;go_enter Tryz.func137, Tryz.ntmps137;go_wp2_with fail;clear hw0
  go_loopw [3, 4] (fun s3 s4 wr => ∃ (i : Nat) (z x y : Int), i <= t.args.length /\ s4 = .int .i64 i /\ s3 = .int .i64 z /\ Hid (z = wrap64 (x + 1)) /\ Hid ((jHU (t.args.drop i) x y).1 = (jHU t.args 0 0).1) /\ Hid (Gr w0 wr)) (fun _ s4 _ => t.args.length - (intOf s4).toNat)
  case atStart => exact ⟨0, 1, 0, 0, Nat.zero_le _, rfl, rfl, by unfold Hid wrap64; omega, HW, Gr.refl _⟩
  case round =>
   obtain ⟨i, z, x, y, hi, rfl, rfl, HZ, HWi, HG⟩ := hrel;have c14r := (HG.out.xt.cells).1 w.heap.size 14 (by omega);rw [c14] at c14r;by_cases hlt : i < t.args.length
   . have hii : (i : Int) < (t.args.length : Int) := (by omega);obtain ⟨u, hx⟩ : ∃ u, t.args[i]? = some u := ⟨t.args[i], by simp [hlt]⟩;have hdr := ykK hx;obtain ⟨n', b, off, a', c', hn, rfl, hA, hI⟩ := HIN.out.at hx;have hxw : Xt w wr := HG0.out.xt.trans HG.out.xt;obtain ⟨d0, d1, d2, d3, d4, d5, d6, d7, d8, d9, d10, d11, d12, d13, d14⟩ := hA.xt hxw;have hcall := IH.out n' (by omega) u a' c' wr (hI.xt hxw);have HSTEP : Hid ((jHU (t.args.drop (i + 1)) (wrap64 (x + (zAv u).1)) (max y (zAv u).2)).1 = (jHU t.args 0 0).1) := by
      have h := HWi.out;rw [hdr] at h;simp only [jHU] at h;exact h
     have HCALL := h_ hcall;generalize zAv u = mu at HSTEP HCALL;obtain ⟨m1, m2⟩ := mu;simp only at HSTEP HCALL;have HZ2 : Hid (wrap64 (z + m1) = wrap64 (wrap64 (x + m1) + 1)) := (by rw [HZ.out]; exact j94 x m1);clear hx hdr hA hI hn hcall hxw;go_wp2_with fail;refine (HCALL.out).mono ?_;rintro e w2 ⟨rfl, hg2⟩;have HG2 := h_ hg2;clear hg2 d0 d1 d2 d3 d4 d5 d6 d7 d8 d9 d10 d11 d12 d13 d14;go_wp2_with fail;go_roundw
     case rel => exact ⟨i + 1, _, _, _, by omega, by go_num, rfl, HZ2, HSTEP, HG.out.trans HG2.out⟩
     case measure => simp [intOf]; omega
   . have HE : Hid (x = (jHU t.args 0 0).1) := by
      have h := HWi.out;rw [List.drop_eq_nil_of_le (by omega)] at h;simp only [jHU] at h;exact h
     go_wp2_with fail;go_ret;refine ⟨?_, HG0.out.trans HG.out⟩;refine congrArg (fun q => Ending.returned (.int .i64 q)) ?_;rw [<- HM.out, z1h, <- HE.out];exact HZ.out
theorem ydv : ∀ (n : Nat) (t : NodeT) (a : Option Addr) (cap : Nat) (w : World), ArgsIn w n (.slice a t.args.length cap) t.args ->
    Calls Tryz.prog 138 #[jSk t a t.args.length cap] w fun e w' => e = .returned (.int .i64 (zAv t).2) /\ Gr w w' := by
 intro n
 induction n using Nat.strongRecOn with
 | ind n ih =>
  intro t a cap w hin;have HIN := h_ hin;obtain ⟨_, _, he, q1, q2⟩ := hin.shape;cases he;have IH := h_ ih;obtain ⟨w0, hw0, hg0, hs0, hN⟩ := boxN w t a t.args.length cap 49;have HG0 := h_ hg0;have HN := h_ hN;have c14 := hN.c14;rw [Nat.zero_add] at c14;generalize hmt : (zAv t).2 = mt;have HM := h_ hmt;have HW : Hid ((jHU (t.args.drop 0) 0 0).2 = (jHU t.args 0 0).2) := (by rw [List.drop_zero]; rfl);clear hin hN hg0 ih hmt;go_enter Tryz.func138, Tryz.ntmps138;go_wp2_with fail;clear hw0
  go_loopw [3, 4] (fun s3 s4 wr => ∃ (i : Nat) (x y : Int), i <= t.args.length /\ s4 = .int .i64 i /\ s3 = .int .i64 y /\ Hid ((jHU (t.args.drop i) x y).2 = (jHU t.args 0 0).2) /\ Hid (Gr w0 wr)) (fun _ s4 _ => t.args.length - (intOf s4).toNat)
  case atStart => exact ⟨0, 0, 0, Nat.zero_le _, rfl, rfl, HW, Gr.refl _⟩
  case round =>
   obtain ⟨i, x, y, hi, rfl, rfl, HWi, HG⟩ := hrel;have c14r := (HG.out.xt.cells).1 w.heap.size 14 (by omega);rw [c14] at c14r;by_cases hlt : i < t.args.length
   . have hii : (i : Int) < (t.args.length : Int) := (by omega);obtain ⟨u, hx⟩ : ∃ u, t.args[i]? = some u := ⟨t.args[i], by simp [hlt]⟩;have hdr := ykK hx;obtain ⟨n', b, off, a', c', hn, rfl, hA, hI⟩ := HIN.out.at hx;have hxw : Xt w wr := HG0.out.xt.trans HG.out.xt;obtain ⟨d0, d1, d2, d3, d4, d5, d6, d7, d8, d9, d10, d11, d12, d13, d14⟩ := hA.xt hxw;have hcall := IH.out n' (by omega) u a' c' wr (hI.xt hxw);have HSTEP : Hid ((jHU (t.args.drop (i + 1)) (wrap64 (x + (zAv u).1)) (max y (zAv u).2)).2 = (jHU t.args 0 0).2) := by
      have h := HWi.out;rw [hdr] at h;simp only [jHU] at h;exact h
     have HCALL := h_ hcall;generalize zAv u = mu at HSTEP HCALL;obtain ⟨m1, m2⟩ := mu;simp only at HSTEP HCALL;clear hx hdr hA hI hn hcall hxw;go_wp2_with fail;refine (HCALL.out).mono ?_;rintro e w2 ⟨rfl, hg2⟩;have HG2 := h_ hg2;clear hg2 d0 d1 d2 d3 d4 d5 d6 d7 d8 d9 d10 d11 d12 d13 d14;go_wp2_with fail;go_roundw
     case rel => exact ⟨i + 1, _, _, by omega, by go_num, rfl, (by first | exact HSTEP | (rw [show (if y < m2 then m2 else y) = max y m2 from by omega]; exact HSTEP)), HG.out.trans HG2.out⟩
     case measure => simp [intOf]; omega
   . have HE : Hid (y = (jHU t.args 0 0).2) := by
      have h := HWi.out;rw [List.drop_eq_nil_of_le (by omega)] at h;simp only [jHU] at h;exact h
     go_wp2_with fail;go_ret;refine ⟨?_, HG0.out.trans HG.out⟩;refine congrArg (fun q => Ending.returned (.int .i64 q)) ?_;rw [<- HM.out, z1h, <- HE.out]
theorem jKD (a b : ByteArray) : a.toList = b.toList ↔ a = b := by
 constructor
 . intro h;obtain ⟨⟨x⟩⟩ := a;obtain ⟨⟨y⟩⟩ := b;have hx : x = y := (by simpa using h);rw [hx]
 . rintro rfl; rfl
theorem refB_eq (r q : RefT) : refB r q = true ↔ r = q := by
 obtain ⟨⟨a, b⟩, c, d⟩ := r;obtain ⟨⟨a', b'⟩, c', d'⟩ := q;simp [refB, and_assoc]
noncomputable def jir (a b : NodeT) : Bool := @decide (copyT a = copyT b) (Classical.propDecidable _)
noncomputable def ycT (a b : List NodeT) : Bool := @decide (jEz a = jEz b) (Classical.propDecidable _)
theorem zbJ (a b : NodeT) : jir a b = true ↔ copyT a = copyT b := @decide_eq_true_iff _ (Classical.propDecidable _)
theorem ylA (a b : List NodeT) : ycT a b = true ↔ jEz a = jEz b := @decide_eq_true_iff _ (Classical.propDecidable _)
theorem yUB (a b : NodeT) : jir a b = (zmd a b && ycT a.args b.args) := by
 obtain ⟨k, o, x, s, bb, f, r, q, l⟩ := a;obtain ⟨k', o', x', s', bb', f', r', q', l'⟩ := b;rw [Bool.eq_iff_iff];simp only [zbJ, ylA, zmd, copyT, Bool.and_eq_true, refB_eq, NodeT.kind, NodeT.op, NodeT.x, NodeT.s, NodeT.b, NodeT.f, NodeT.ref, NodeT.to, NodeT.args, NodeT.mk.injEq];constructor
 . rintro ⟨h1, h2, h3, h4, h5, h6, h7, h8, h9⟩;exact ⟨⟨⟨⟨⟨⟨⟨⟨decide_eq_true h1, decide_eq_true h2⟩, decide_eq_true (by rw [h3])⟩, decide_eq_true ((jKD _ _).2 h4)⟩, decide_eq_true h5⟩, decide_eq_true h6⟩, h7⟩, h8⟩, h9⟩
 . rintro ⟨⟨⟨⟨⟨⟨⟨⟨h1, h2⟩, h3⟩, h4⟩, h5⟩, h6⟩, h7⟩, h8⟩, h9⟩;exact ⟨of_decide_eq_true h1, of_decide_eq_true h2, by have := of_decide_eq_true h3; omega, (jKD _ _).1 (of_decide_eq_true h4), of_decide_eq_true h5, of_decide_eq_true h6, h7, h8, h9⟩
theorem zUB : ycT [] [] = true := (ylA _ _).2 rfl
theorem jk9 (x y : NodeT) (a b : List NodeT) : ycT (x :: a) (y :: b) = (jir x y && ycT a b) := by
 rw [Bool.eq_iff_iff, Bool.and_eq_true]; simp only [ylA, zbJ, jEz, List.cons.injEq]
theorem ysc {a b : List NodeT} (h : a.length ≠ b.length) : ycT a b = false := by
 cases hs : ycT a b
 . rfl
 rw [ylA, j3y, j3y] at hs;have := congrArg List.length hs;simp at this;exact absurd this h
theorem yEE {m n : Nat} (h : ((m : Int) == (n : Int)) = true) : m = n := by
 have := eq_of_beq h; omega
theorem jEj (w : World) (r q : RefT) : (binOp .neq 46 (.agg #[r.a.1, r.a.2, .bool r.cf, .bool r.rf]) (.agg #[.int .i64 q.a.1, .int .i64 q.a.2, .bool q.cf, .bool q.rf])).run Tryz.prog w = .ok (.bool (!refB r q)) w := by
 go_simp;unfold refB
 (repeat' split) <;> simp [*]
attribute [go_sem high] jEj
end
end Go.Proofs.YtdoeejhdenifpaaGreatDoor
