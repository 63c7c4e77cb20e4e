import Derived.Test.YtdoeejhdenifpaaGreatDoorB27
import Derived.Deep.Cut
import Derived.Test.YtdoeejhdenifpaaGreatDoorB24
set_option maxRecDepth 100000
set_option maxHeartbeats 16000000
namespace Go.Proofs.YtdoeejhdenifpaaGreatDoor
section
open Go.RowKit Go.Sort
theorem j2K {w : World} {P Q : Nat} {cp cq : Array Value} {T U : TypeId} (hP : w.heap[P]? = some (.cells cp T (0, 0))) (hQ : w.heap[Q]? = some (.cells cq U (0, 0))) (hne : P ≠ Q) (o : Nat) (u v : Value) :
    ((w.setCell ⟨P, o, none⟩ u).setCell ⟨Q, o, none⟩ v).heap[P]? = some (.cells (cp.setIfInBounds o u) T (0, 0)) /\ ((w.setCell ⟨P, o, none⟩ u).setCell ⟨Q, o, none⟩ v).heap[Q]? = some (.cells (cq.setIfInBounds o v) U (0, 0)) :=
 ⟨(s_ _ _ _ _ (by simpa using hne)).trans (ysv hP o u), ysv ((s_ _ _ _ _ (by simpa using fun e => hne e.symm)).trans hQ) o v⟩
theorem zr1 {w : World} {b B : Nat} {v0 v1 v2 v3 : Value} {T : TypeId} (hne : b ≠ B) (h : w.heap[b]? = some (.cells #[v0, v1, v2, v3] T (0, 0))) (o : Nat) (u : Value) : (w.setCell ⟨B, o, none⟩ u).heap[b]? = some (.cells #[v0, v1, v2, v3] T (0, 0)) :=
 (s_ _ _ _ _ (by simpa using hne)).trans h
theorem hdr (V : World) : V.drew.heap = V.heap := rfl
def ShiftIs (cc rr : Int) (n : Nat) : Prop :=
 ∀ (S : Nat -> Prop) (t : NodeT) (a : Option Addr) (cap : Nat) (w : World), (∀ b, S b -> b < w.heap.size) -> SepIn S w n (.slice a t.args.length cap) t.args ->
 Calls Tryz.prog 145 #[jSk t a t.args.length cap, cc, rr] w fun e w' =>
  ∃ a2 c2, e = .returned (jSk (upT (shH cc rr) t) a2 (upT (shH cc rr) t).args.length c2) /\ SepIn S w' n (.slice a2 (upT (shH cc rr) t).args.length c2) (upT (shH cc rr) t).args /\ Wr S w w'
def Hi (B : Nat) : Nat -> Prop := fun b => B <= b
theorem yxJ {S : Nat -> Prop} {w wr W : World} {n B : Nat} {av : Value} {L : List NodeT} (hA : SepIn S wr n av L) (hw : Wr S w wr) (hB : w.heap.size = B) (hn : ∀ b, S b -> b < B) (k : Wr (Hi B) wr W) : SepIn S W n av L /\ Wr S w W :=
 ⟨hA.keep (fun b hb hlt => k.block b hlt (fun e => by have := hn b hb; have : B <= b := e; omega)), hw.side k (fun c hc => by have : B <= c := hc; omega)⟩
theorem zDm {w : World} {b : Nat} {u0 u1 u2 u3 u4 u5 u6 u7 u8 u9 u10 u11 u12 u13 u14 : Value} {T : TypeId} (h : w.heap[b]? = some (.cells #[u0, u1, u2, u3, u4, u5, u6, u7, u8, u9, u10, u11, u12, u13, u14] T (0, 0))) : (c_ w b 6 u6 /\ c_ w b 7 u7 /\ c_ w b 8 u8 /\ c_ w b 9 u9 /\ c_ w b 10 u10 /\ c_ w b 11 u11 /\ c_ w b 12 u12 /\ c_ w b 13 u13) /\
    (w.frozen? ⟨b, 6, none⟩ = false /\ w.frozen? ⟨b, 7, none⟩ = false /\ w.frozen? ⟨b, 8, none⟩ = false /\ w.frozen? ⟨b, 9, none⟩ = false /\ w.frozen? ⟨b, 10, none⟩ = false /\ w.frozen? ⟨b, 11, none⟩ = false /\ w.frozen? ⟨b, 12, none⟩ = false /\ w.frozen? ⟨b, 13, none⟩ = false) := by
 refine ⟨⟨?_, ?_, ?_, ?_, ?_, ?_, ?_, ?_⟩, ?_, ?_, ?_, ?_, ?_, ?_, ?_, ?_⟩ <;> simp [World.cell?, World.frozen?, h]
def SwOk (P Q B : Nat) (T : TypeId) (w6 w : World) (p q : List Value) : Prop :=
 r_ w P p.toArray T /\ r_ w Q q.toArray T /\ (∀ b, b ≠ P -> b ≠ Q -> w.heap[b]? = w6.heap[b]?) /\ Wr (Hi B) w6 w
theorem SwOk.step {P Q B : Nat} {T : TypeId} {w6 w : World} {p q : List Value} (h : SwOk P Q B T w6 w p q) (hPQ : P ≠ Q) (hP : B <= P) (hQ : B <= Q) (o : Nat) (u v : Value) :
    SwOk P Q B T w6 ((w.setCell ⟨P, o, none⟩ u).setCell ⟨Q, o, none⟩ v) (p.set o u) (q.set o v) := by
 obtain ⟨h1, h2⟩ := j2K h.1 h.2.1 hPQ o u v;refine ⟨by rw [h1, List.setIfInBounds_toArray], by rw [h2, List.setIfInBounds_toArray], fun b hb hb' => ?_, (h.2.2.2.trans (Wr.cell _ hP)).trans (Wr.cell _ hQ)⟩;exact (s_ _ _ _ _ (fun e => hb' e)).trans ((s_ _ _ _ _ (fun e => hb e)).trans (h.2.2.1 b hb hb'))
theorem yrJ (cc rr : Int) : ∀ n, ShiftIs cc rr n := by
 intro n
 induction n using Nat.strongRecOn with
 | ind n ih =>
  intro S t a cap w hS hA;have IH := h_ ih;have HS := h_ hS;obtain ⟨_, cap', he, hlc, hcm⟩ := hA.own.shape;cases he;obtain ⟨k, o, x, s, bb, f, ⟨⟨r1, r2⟩, rc, rf⟩, ⟨⟨q1, q2⟩, qc, qf⟩, l⟩ := t;simp only [NodeT.args] at hA hlc;obtain ⟨B, hB⟩ := e_ w.heap.size;obtain ⟨w0, hw0⟩ := e_ (w.alloc (.cells (rM k o x s bb f r1 r2 rc rf q1 q2 qc qf (.slice a l.length cap)) 49));have hs0 : w0.heap.size = B + 1 := by rw [<- hw0, <- hB]; simp
  obtain ⟨w1, hw1⟩ := e_ (w0.alloc (.cells zN 49));have hs1 : w1.heap.size = B + 2 := (by rw [<- hw1]; simp [hs0]);have hx1 : Xt w w1 := (by rw [<- hw1, <- hw0]; exact ((Xt.refl w).alloc _).alloc _);have HRB : Hid (r_ w1 B (rM k o x s bb f r1 r2 rc rf q1 q2 qc qf (.slice a l.length cap)) 49) := by
   unfold Hid; rw [<- hw1]; exact (Below.heap_alloc w0 _ _ (by omega)).trans (by rw [<- hw0, <- hB]; exact (a_ w _).1)
  have HRR : Hid (r_ w1 (B + 1) zN 49) := by
   unfold Hid; rw [<- hw1, <- hs0]; exact (a_ w0 _).1
  have c14 : w1.cell? ⟨B, 14, none⟩ = some (.slice a l.length cap) := (by have := HRB.out; simp [World.cell?, this]);have HA1 : Hid (SepIn S w1 n (.slice a l.length cap) l) := h_ (hA.keep (fun b hb hlt => hx1.block b hlt));have HW1 : Hid (Wr S w w1) := h_ (Wr.of_xt hx1);have hnB : Hid (¬ S B /\ ¬ S (B + 1)) := ⟨fun e => by have := hS _ e; omega, fun e => by have := hS _ e; omega⟩;have HBw : Hid (w.heap.size = B) := hB;clear hx1 hA hS ih
  change Calls Tryz.prog 145 #[.agg (rM k o x s bb f r1 r2 rc rf q1 q2 qc qf (.slice a l.length cap)), cc, rr] w _;go_enter Tryz.func145, Tryz.ntmps145;go_wp2_with fail;clear hw0 hw1
  go_loopw [15] (fun s15 wr => ∃ i : Nat, i <= l.length /\ s15 = .int .i64 i /\ Hid (Wr S w1 wr) /\ Hid (SepIn S wr n (.slice a l.length cap) ((l.take i).map (upT (shH cc rr)) ++ l.drop i))) (fun s15 _ => l.length - (intOf s15).toNat)
  case atStart => exact ⟨0, Nat.zero_le _, rfl, Wr.refl _ _, by simpa using HA1⟩
  case round =>
   clear HA1;obtain ⟨i, hi, rfl, HW, HA⟩ := hrel;have hszr := HW.out.size;have hrow := (HW.out.block B (by omega) hnB.out.1).trans HRB.out;have d14 : wr.cell? ⟨B, 14, none⟩ = some (.slice a l.length cap) := (by simp [World.cell?, hrow]);by_cases hlt : i < l.length
   . obtain ⟨u, hu⟩ : ∃ u, l[i]? = some u := ⟨l[i], by simp [hlt]⟩;obtain ⟨hst1, hst2⟩ := jL5 (upT (shH cc rr)) hu;obtain ⟨n', b, a', c', T, rfl, rfl, hb, hblt, hTS, hNu, hSu, hthere, hafter⟩ := HA.out.elem hst1;have hki : (i : Int) < (l.length : Int) := (by omega);have HC := h_ (IH.out n' (by omega) T u a' c' wr.drew (fun c hc => Nat.lt_of_lt_of_le (Nat.lt_of_lt_of_le (HS.out c (hTS c hc).1) (by omega)) hszr) (SepIn.keep (w := wr) (w' := wr.drew) (fun _ _ _ => rfl) hSu));have HHold : Hid (∀ W, Wr S wr W -> W.cell? ⟨B, 14, none⟩ = some (.slice (some ⟨b, 0, none⟩) l.length cap)) := h_ fun W hW =>
      (d_ (w := wr) (a := ⟨B, 14, none⟩) (hW.block B (by omega) hnB.out.1)).trans d14
     have HST2 := h_ hst2;have HAF := h_ hafter;have HTH := h_ hthere;clear hst1 hst2 hafter hthere hSu hu d14 hrow;obtain ⟨e0, e1, e2, e3, e4, e5, e6, e7, e8, e9, e10, e11, e12, e13, e14⟩ := hNu;go_wp2_with fail;refine wp_region_held_drew (S := fun W => W.cell? ⟨B, 14, none⟩ = some (.slice (some ⟨b, 0, none⟩) l.length cap)) (by kernel_rfl) (HHold.out _ (Wr.of_xt (Xt.refl wr).drew)) (fun hHeld => ?_);refine tkN 0 ?_;refine tkN 1 ?_;refine tkN 2 ?_;refine tkN 3 ?_;refine tkN 4 ?_;refine tkN 5 ?_;refine tkN 6 ?_;refine tkN 8 ?_;refine tkN 9 ?_;refine rdH 7 (fun K hK => ?_);go_simp;refine ko hK hHeld fun hHeld1 => ?_;clear hK K;refine rdH 10 (fun K hK => ?_);go_simp
     refine (HC.out).mono ?_;rintro e w6 ⟨a2, c2, rfl, hS6, hW6⟩;have hW6r : Wr T wr w6 := (Wr.of_xt (Xt.refl wr).drew).trans hW6;refine ko hK (HHold.out _ (hW6r.weak fun c hc => (hTS c hc).1)) fun hHeld2 => ?_;clear hK K;refine tkN 11 ?_;refine rdH 12 (fun K hK => ?_);rw [if_pos (by rfl)];obtain ⟨hS7, hW7⟩ := HAF.out w6 (upT (shH cc rr) u) (.slice a2 (upT (shH cc rr) u).args.length c2) hW6r hS6;refine wp_store_mid 49 _ _ rfl b (i * 15) (nodeC (upT (shH cc rr) u) (.slice a2 (upT (shH cc rr) u).args.length c2)).toArray rfl rfl (HTH.out _ hW6r) (by kernel_rfl) (n_ (jrw _ _ rfl)) ?_;refine hK.out _ _ (HHold.out _ hW7) (fun hHeld3 => ?_);clear hK K
     refine z_ (by kernel_rfl) ?_ _;go_wp2_with fail;go_roundw
     case rel => exact ⟨i + 1, by omega, by go_num, HW.out.trans hW7, by rw [<- HST2.out]; exact hS7⟩
     case measure => simp [intOf]; omega
   . have he : i = l.length := (by omega);subst he;have HA' : Hid (SepIn S wr n (.slice a l.length cap) (l.map (upT (shH cc rr)))) := (by unfold Hid; have := HA.out; simpa using this);have hrr := (HW.out.block (B + 1) (by omega) hnB.out.2).trans HRR.out;have HWw := h_ (HW1.out.trans HW.out);have HRBr := h_ hrow;have HRRr := h_ hrr;have d0 : wr.cell? ⟨B, 0, none⟩ = some (.int .i64 k) := (by simp [World.cell?, hrow]);clear HA hi hlt d14 hrow hrr;have hsw : B + 2 <= wr.heap.size := (by omega);by_cases h56 : k = 5 \/ k = 6
     . obtain ⟨hEA, hEB⟩ : (∀ W, Xt wr W -> W.heap[B]? = some (.cells (rM k o x s bb f r1 r2 rc rf q1 q2 qc qf (.slice a l.length cap)) 49 (0, 0))) /\ (∀ W, Xt wr W -> W.heap[B + 1]? = some (.cells zN 49 (0, 0))) := ⟨fun W hx => rowX hx HRBr.out, fun W hx => rowX hx HRRr.out⟩;have HEA := h_ hEA;have HEB := h_ hEB;clear hEA hEB
       have HC1 := h_ (fun V => ze1 ⟨(r1, r2), rc, rf⟩ cc rr V);obtain ⟨zz, hzz⟩ := e_ (shR cc rr ⟨(r1, r2), rc, rf⟩);obtain ⟨zo, hzo⟩ := e_ (shB cc rr ⟨(r1, r2), rc, rf⟩);rw [hzz, hzo] at HC1;obtain ⟨⟨z1, z2⟩, zc, zf⟩ := zz;have HZZ := h_ hzz;have HZO := h_ hzo;clear hzz hzo;have hm1 : True := trivial;have hk56 : (k == 5) = true \/ (k == 6) = true := by rcases h56 with e | e <;> simp [e]
       by_cases h5 : k = 5
       . have h5a : (k != 5) = false := (by simp [h5]);have h5c : (k == 5) = true := (by simp [h5]);have HK5 := h_ h5;clear h56 hk56 h5;have d0 : wr.cell? ⟨B, 0, none⟩ = some (.int .i64 k) := (by have := HEA.out _ (Xt.refl _); simp [World.cell?, this]);go_upto_region 9 with fail;obtain ⟨w2, hw2⟩ := e_ (wr.alloc (.cells zL 49));rw [hw2];have HX2 : Hid (Xt wr w2) := by unfold Hid; rw [<- hw2]; exact (Xt.refl _).alloc _
         have hEL : w2.heap[wr.heap.size]? = some (.cells (nodeC lostT (.slice none 0 0)).toArray 49 (0, 0)) := (by rw [<- hw2]; exact (a_ wr _).1);have HEL : Hid (∀ W, Xt w2 W -> W.heap[wr.heap.size]? = some (.cells (nodeC lostT (.slice none 0 0)).toArray 49 (0, 0))) := h_ fun W hx => rowX hx hEL;have d0 : w2.cell? ⟨B, 0, none⟩ = some (.int .i64 k) := (by have := HEA.out _ HX2.out; simp [World.cell?, this]);obtain ⟨⟨d6, d7, d8, d9, d10, d11, d12, d13⟩, g6, g7, g8, g9, g10, g11, g12, g13⟩ := zDm (HEA.out _ HX2.out);clear hw2 hEL;cases zo
         . go_wp2_with (first
            | (go_at_call 164; have hm0 := hm1; clear hm1 hm0; refine (HC1.out _).mono ?_; rintro e w3 ⟨rfl, hx3⟩; obtain ⟨w4, hw4⟩ := e_ (w3.alloc (.cells #[z1, z2, zc, zf] 46)); have HX34 : Hid (Xt w3 w4) := (by unfold Hid; rw [<- hw4]; exact (Xt.refl _).alloc _); have HX24 : Hid (Xt w2 w4) := hx3.trans HX34.out; have HX4 : Hid (Xt wr w4) := HX2.out.trans HX24.out; have HRP : Hid (r_ w4 w3.heap.size #[z1, z2, zc, zf] 46) := (by unfold Hid; rw [<- hw4]; exact (a_ w3 _).1); have hsz3 : w2.heap.size <= w3.heap.size := hx3.size; obtain ⟨p0, p1, p2, p3, u0, u1, u2, u3⟩ := zUi HRP.out; have d0 : w4.cell? ⟨B, 0, none⟩ = some (.int .i64 k) := (by have := HEA.out _ HX4.out; simp [World.cell?, this]); obtain ⟨⟨d6, d7, d8, d9, d10, d11, d12, d13⟩, g6, g7, g8, g9, g10, g11, g12, g13⟩ := zDm (HEA.out _ HX4.out); clear hx3)
            | (refine x_ (P := Tryz.prog) rfl 49 _ rfl wr.heap.size rfl 49 _ (0, 0) _ (HEL.out _ HX24.out) Tryz.underlying49 rfl (by kernel_rfl) ?_)
            | (refine w_ (P := Tryz.prog) rfl 49 _ _ rfl (B + 1) _ rfl rfl 49 _ (HEB.out _ HX4.out) (by kernel_rfl) (by kernel_rfl) (n_ (jrw lostT (.slice none 0 0) rfl)) ?_))
           (try simp only [Exit.inBlock, Exit.then])
           refine p_ (v := .agg (nodeC lostT (.slice none 0 0)).toArray) (t_ rfl _ _ (B + 1) 49 _ (0, 0) _ rfl (setRow_heap _ _ _ _ _ _ (HEB.out _ HX4.out)) Tryz.underlying49 rfl (by kernel_rfl)) rfl ?_;have hTT : upT (shH cc rr) (.mk k o x s bb f ⟨(r1, r2), rc, rf⟩ ⟨(q1, q2), qc, qf⟩ l) = lostT := by
            rw [upT, shH, if_pos HK5.out, HZO.out]; rfl
           rw [hTT];exact ⟨none, 0, rfl, SepIn.nil n, HWw.out.side ((Wr.of_xt HX4.out).trans (Wr.row _ (show B <= B + 1 by omega))) (S2 := Hi B) (fun c hc => by have := HBw.out; have : B <= c := hc; omega)⟩
         . go_upto_region 14 with (first
            | (go_at_call 164; have hm0 := hm1; clear hm1 hm0; refine (HC1.out _).mono ?_; rintro e w3 ⟨rfl, hx3⟩; obtain ⟨w4, hw4⟩ := e_ (w3.alloc (.cells #[z1, z2, zc, zf] 46)); have HX34 : Hid (Xt w3 w4) := (by unfold Hid; rw [<- hw4]; exact (Xt.refl _).alloc _); have HX24 : Hid (Xt w2 w4) := hx3.trans HX34.out; have HX4 : Hid (Xt wr w4) := HX2.out.trans HX24.out; have HRP : Hid (r_ w4 w3.heap.size #[z1, z2, zc, zf] 46) := (by unfold Hid; rw [<- hw4]; exact (a_ w3 _).1); have hsz3 : w2.heap.size <= w3.heap.size := hx3.size; obtain ⟨p0, p1, p2, p3, u0, u1, u2, u3⟩ := zUi HRP.out; have d0 : w4.cell? ⟨B, 0, none⟩ = some (.int .i64 k) := (by have := HEA.out _ HX4.out; simp [World.cell?, this]); obtain ⟨⟨d6, d7, d8, d9, d10, d11, d12, d13⟩, g6, g7, g8, g9, g10, g11, g12, g13⟩ := zDm (HEA.out _ HX4.out); clear hx3))
           obtain ⟨w5, hw5⟩ := e_ ((((w4.setCell ⟨B, 6, none⟩ (.int .i64 z1)).setCell ⟨B, 7, none⟩ (.int .i64 z2)).setCell ⟨B, 8, none⟩ (.bool zc)).setCell ⟨B, 9, none⟩ (.bool zf));have HB5 : Hid (r_ w5 B ((nodeC (.mk k o x s bb f ⟨(z1, z2), zc, zf⟩ ⟨(q1, q2), qc, qf⟩ l) (.slice a l.length cap)).toArray) 49) := by unfold Hid; rw [<- hw5]; exact (ysv (ysv (ysv (ysv (HEA.out _ HX4.out) 6 _) 7 _) 8 _) 9 _)
           have HR5 : Hid (r_ w5 (B + 1) zN 49) := by unfold Hid; rw [<- hw5]; exact ((s_ _ _ _ _ (by simp)).trans ((s_ _ _ _ _ (by simp)).trans ((s_ _ _ _ _ (by simp)).trans ((s_ _ _ _ _ (by simp)).trans (HEB.out _ HX4.out)))))
           have HW5 : Hid (Wr (Hi B) wr w5) := (by unfold Hid; rw [<- hw5]; exact (((((Wr.of_xt HX4.out).trans (Wr.cell _ (show B <= B by omega))).trans (Wr.cell _ (show B <= B by omega))).trans (Wr.cell _ (show B <= B by omega))).trans (Wr.cell _ (show B <= B by omega))));rw [hw5];clear hw5 d0 d6 d7 d8 d9 d10 d11 d12 d13 g6 g7 g8 g9 g10 g11 g12 g13 p0 p1 p2 p3 u0 u1 u2 u3;go_wp2_with (first
            | (refine x_ (P := Tryz.prog) rfl 49 _ rfl B rfl 49 _ (0, 0) _ HB5.out Tryz.underlying49 rfl (by kernel_rfl) ?_)
            | (refine w_ (P := Tryz.prog) rfl 49 _ _ rfl (B + 1) _ rfl rfl 49 _ HR5.out (by kernel_rfl) (by kernel_rfl) (n_ (jrw (.mk k o x s bb f ⟨(z1, z2), zc, zf⟩ ⟨(q1, q2), qc, qf⟩ l) (.slice a l.length cap) rfl)) ?_))
           (try simp only [Exit.inBlock, Exit.then])
           refine p_ (v := .agg (nodeC (.mk k o x s bb f ⟨(z1, z2), zc, zf⟩ ⟨(q1, q2), qc, qf⟩ l) (.slice a l.length cap)).toArray) (t_ rfl _ _ (B + 1) 49 _ (0, 0) _ rfl (setRow_heap _ _ _ _ _ _ HR5.out) Tryz.underlying49 rfl (by kernel_rfl)) rfl ?_;have hTT : upT (shH cc rr) (.mk k o x s bb f ⟨(r1, r2), rc, rf⟩ ⟨(q1, q2), qc, qf⟩ l) = .mk k o x s bb f ⟨(z1, z2), zc, zf⟩ ⟨(q1, q2), qc, qf⟩ (l.map (upT (shH cc rr))) := by
            rw [upT, zRi, shH, if_pos HK5.out, HZO.out, if_pos rfl, HZZ.out]
           rw [hTT];obtain ⟨f1, f2⟩ := yxJ (W := w5.setRow (B + 1) (nodeC (.mk k o x s bb f ⟨(z1, z2), zc, zf⟩ ⟨(q1, q2), qc, qf⟩ l) (.slice a l.length cap)).toArray) HA'.out HWw.out HBw.out (fun b hb => by have := HS.out b hb; have := HBw.out; omega) (HW5.out.trans (Wr.row _ (show B <= B + 1 by omega)));refine ⟨a, cap, ?_, ?_, f2⟩
           . simp [nodeC, NodeT.args, NodeT.kind, NodeT.op, NodeT.x, NodeT.s, NodeT.b, NodeT.f, NodeT.ref, NodeT.to]
           . simp only [NodeT.args, List.length_map]; exact f1
       . have h6 : k = 6 := by rcases h56 with e | e; exact absurd e h5; exact e
         have h5a : (k != 5) = true := (by simpa using h5);have h5c : (k == 5) = false := (by simpa using h5);have h6a : (k != 6) = false := (by simp [h6]);have HK5 := h_ h6;clear h56 hk56 h5 h6;have d0 : wr.cell? ⟨B, 0, none⟩ = some (.int .i64 k) := (by have := HEA.out _ (Xt.refl _); simp [World.cell?, this]);go_upto_region 9 with fail;obtain ⟨w2, hw2⟩ := e_ (wr.alloc (.cells zL 49));rw [hw2]
         have HX2 : Hid (Xt wr w2) := (by unfold Hid; rw [<- hw2]; exact (Xt.refl _).alloc _);have hEL : w2.heap[wr.heap.size]? = some (.cells (nodeC lostT (.slice none 0 0)).toArray 49 (0, 0)) := (by rw [<- hw2]; exact (a_ wr _).1);have HEL : Hid (∀ W, Xt w2 W -> W.heap[wr.heap.size]? = some (.cells (nodeC lostT (.slice none 0 0)).toArray 49 (0, 0))) := h_ fun W hx => rowX hx hEL;have d0 : w2.cell? ⟨B, 0, none⟩ = some (.int .i64 k) := (by have := HEA.out _ HX2.out; simp [World.cell?, this]);obtain ⟨⟨d6, d7, d8, d9, d10, d11, d12, d13⟩, g6, g7, g8, g9, g10, g11, g12, g13⟩ := zDm (HEA.out _ HX2.out);clear hw2 hEL;cases zo
         . go_wp2_with (first
            | (go_at_call 164; have hm0 := hm1; clear hm1 hm0; refine (HC1.out _).mono ?_; rintro e w3 ⟨rfl, hx3⟩; obtain ⟨w4, hw4⟩ := e_ (w3.alloc (.cells #[z1, z2, zc, zf] 46)); have HX34 : Hid (Xt w3 w4) := (by unfold Hid; rw [<- hw4]; exact (Xt.refl _).alloc _); have HX24 : Hid (Xt w2 w4) := hx3.trans HX34.out; have HX4 : Hid (Xt wr w4) := HX2.out.trans HX24.out; have HRP : Hid (r_ w4 w3.heap.size #[z1, z2, zc, zf] 46) := (by unfold Hid; rw [<- hw4]; exact (a_ w3 _).1); have hsz3 : w2.heap.size <= w3.heap.size := hx3.size; obtain ⟨p0, p1, p2, p3, u0, u1, u2, u3⟩ := zUi HRP.out; have d0 : w4.cell? ⟨B, 0, none⟩ = some (.int .i64 k) := (by have := HEA.out _ HX4.out; simp [World.cell?, this]); obtain ⟨⟨d6, d7, d8, d9, d10, d11, d12, d13⟩, g6, g7, g8, g9, g10, g11, g12, g13⟩ := zDm (HEA.out _ HX4.out); clear hx3)
            | (refine x_ (P := Tryz.prog) rfl 49 _ rfl wr.heap.size rfl 49 _ (0, 0) _ (HEL.out _ HX24.out) Tryz.underlying49 rfl (by kernel_rfl) ?_)
            | (refine w_ (P := Tryz.prog) rfl 49 _ _ rfl (B + 1) _ rfl rfl 49 _ (HEB.out _ HX4.out) (by kernel_rfl) (by kernel_rfl) (n_ (jrw lostT (.slice none 0 0) rfl)) ?_))
           (try simp only [Exit.inBlock, Exit.then])
           refine p_ (v := .agg (nodeC lostT (.slice none 0 0)).toArray) (t_ rfl _ _ (B + 1) 49 _ (0, 0) _ rfl (setRow_heap _ _ _ _ _ _ (HEB.out _ HX4.out)) Tryz.underlying49 rfl (by kernel_rfl)) rfl ?_;have hTT : upT (shH cc rr) (.mk k o x s bb f ⟨(r1, r2), rc, rf⟩ ⟨(q1, q2), qc, qf⟩ l) = lostT := by
            rw [upT, shH, if_neg (by rw [HK5.out]; decide), if_pos HK5.out, HZO.out]; rfl
           rw [hTT];exact ⟨none, 0, rfl, SepIn.nil n, HWw.out.side ((Wr.of_xt HX4.out).trans (Wr.row _ (show B <= B + 1 by omega))) (S2 := Hi B) (fun c hc => by have := HBw.out; have : B <= c := hc; omega)⟩
         . have HC2 := h_ (fun V => ze1 ⟨(q1, q2), qc, qf⟩ cc rr V);obtain ⟨vv, hvv⟩ := e_ (shR cc rr ⟨(q1, q2), qc, qf⟩);obtain ⟨vo, hvo⟩ := e_ (shB cc rr ⟨(q1, q2), qc, qf⟩);rw [hvv, hvo] at HC2;obtain ⟨⟨v1, v2⟩, vc, vf⟩ := vv;have HVV := h_ hvv;have HVO := h_ hvo;clear hvv hvo;cases vo
           . go_wp2_with (first
              | (go_at_call 164; have hm0 := hm1; clear hm1 hm0; refine (HC1.out _).mono ?_; rintro e w3 ⟨rfl, hx3⟩; obtain ⟨w4, hw4⟩ := e_ (w3.alloc (.cells #[z1, z2, zc, zf] 46)); have HX34 : Hid (Xt w3 w4) := (by unfold Hid; rw [<- hw4]; exact (Xt.refl _).alloc _); have HX24 : Hid (Xt w2 w4) := hx3.trans HX34.out; have HX4 : Hid (Xt wr w4) := HX2.out.trans HX24.out; have HRP : Hid (r_ w4 w3.heap.size #[z1, z2, zc, zf] 46) := (by unfold Hid; rw [<- hw4]; exact (a_ w3 _).1); have hsz3 : w2.heap.size <= w3.heap.size := hx3.size; obtain ⟨p0, p1, p2, p3, u0, u1, u2, u3⟩ := zUi HRP.out; have d0 : w4.cell? ⟨B, 0, none⟩ = some (.int .i64 k) := (by have := HEA.out _ HX4.out; simp [World.cell?, this]); obtain ⟨⟨d6, d7, d8, d9, d10, d11, d12, d13⟩, g6, g7, g8, g9, g10, g11, g12, g13⟩ := zDm (HEA.out _ HX4.out); clear hx3)
              | (go_at_call 164; refine (HC2.out _).mono ?_; rintro e w5 ⟨rfl, hx5⟩; obtain ⟨w6, hw6⟩ := e_ (w5.alloc (.cells #[v1, v2, vc, vf] 46)); have HX46 : Hid (Xt w4 w6) := (by unfold Hid; rw [<- hw6]; exact hx5.alloc _); have HX26 : Hid (Xt w2 w6) := HX24.out.trans HX46.out; have HX6 : Hid (Xt wr w6) := HX4.out.trans HX46.out; have HRQ : Hid (r_ w6 w5.heap.size #[v1, v2, vc, vf] 46) := (by unfold Hid; rw [<- hw6]; exact (a_ w5 _).1); replace HRP := h_ (rowX HX46.out HRP.out); have hsz5 : w3.heap.size + 1 <= w5.heap.size := (by have h1 := hx5.size; have h2 : w4.heap.size = w3.heap.size + 1 := (by rw [<- hw4]; simp); omega); obtain ⟨p0, p1, p2, p3, u0, u1, u2, u3⟩ := zUi HRP.out; obtain ⟨n0, n1, n2, n3, o0, o1, o2, o3⟩ := zUi HRQ.out; clear hx5)
              | (refine x_ (P := Tryz.prog) rfl 49 _ rfl wr.heap.size rfl 49 _ (0, 0) _ (HEL.out _ HX26.out) Tryz.underlying49 rfl (by kernel_rfl) ?_)
              | (refine w_ (P := Tryz.prog) rfl 49 _ _ rfl (B + 1) _ rfl rfl 49 _ (HEB.out _ HX6.out) (by kernel_rfl) (by kernel_rfl) (n_ (jrw lostT (.slice none 0 0) rfl)) ?_))
             (try simp only [Exit.inBlock, Exit.then])
             refine p_ (v := .agg (nodeC lostT (.slice none 0 0)).toArray) (t_ rfl _ _ (B + 1) 49 _ (0, 0) _ rfl (setRow_heap _ _ _ _ _ _ (HEB.out _ HX6.out)) Tryz.underlying49 rfl (by kernel_rfl)) rfl ?_;have hTT : upT (shH cc rr) (.mk k o x s bb f ⟨(r1, r2), rc, rf⟩ ⟨(q1, q2), qc, qf⟩ l) = lostT := by
              rw [upT, shH, if_neg (by rw [HK5.out]; decide), if_pos HK5.out, HZO.out, if_pos rfl, HVO.out]; rfl
             rw [hTT];exact ⟨none, 0, rfl, SepIn.nil n, HWw.out.side ((Wr.of_xt HX6.out).trans (Wr.row _ (show B <= B + 1 by omega))) (S2 := Hi B) (fun c hc => by have := HBw.out; have : B <= c := hc; omega)⟩
           . go_upto_region 18 with (first
              | (go_at_call 164; have hm0 := hm1; clear hm1 hm0; refine (HC1.out _).mono ?_; rintro e w3 ⟨rfl, hx3⟩; obtain ⟨w4, hw4⟩ := e_ (w3.alloc (.cells #[z1, z2, zc, zf] 46)); have HX34 : Hid (Xt w3 w4) := (by unfold Hid; rw [<- hw4]; exact (Xt.refl _).alloc _); have HX24 : Hid (Xt w2 w4) := hx3.trans HX34.out; have HX4 : Hid (Xt wr w4) := HX2.out.trans HX24.out; have HRP : Hid (r_ w4 w3.heap.size #[z1, z2, zc, zf] 46) := (by unfold Hid; rw [<- hw4]; exact (a_ w3 _).1); have hsz3 : w2.heap.size <= w3.heap.size := hx3.size; obtain ⟨p0, p1, p2, p3, u0, u1, u2, u3⟩ := zUi HRP.out; have d0 : w4.cell? ⟨B, 0, none⟩ = some (.int .i64 k) := (by have := HEA.out _ HX4.out; simp [World.cell?, this]); obtain ⟨⟨d6, d7, d8, d9, d10, d11, d12, d13⟩, g6, g7, g8, g9, g10, g11, g12, g13⟩ := zDm (HEA.out _ HX4.out); clear hx3)
              | (go_at_call 164; refine (HC2.out _).mono ?_; rintro e w5 ⟨rfl, hx5⟩; obtain ⟨w6, hw6⟩ := e_ (w5.alloc (.cells #[v1, v2, vc, vf] 46)); have HX46 : Hid (Xt w4 w6) := (by unfold Hid; rw [<- hw6]; exact hx5.alloc _); have HX26 : Hid (Xt w2 w6) := HX24.out.trans HX46.out; have HX6 : Hid (Xt wr w6) := HX4.out.trans HX46.out; have HRQ : Hid (r_ w6 w5.heap.size #[v1, v2, vc, vf] 46) := (by unfold Hid; rw [<- hw6]; exact (a_ w5 _).1); replace HRP := h_ (rowX HX46.out HRP.out); have hsz5 : w3.heap.size + 1 <= w5.heap.size := (by have h1 := hx5.size; have h2 : w4.heap.size = w3.heap.size + 1 := (by rw [<- hw4]; simp); omega); obtain ⟨p0, p1, p2, p3, u0, u1, u2, u3⟩ := zUi HRP.out; obtain ⟨n0, n1, n2, n3, o0, o1, o2, o3⟩ := zUi HRQ.out; clear hx5))
             obtain ⟨P, hP⟩ := e_ w3.heap.size;obtain ⟨Q, hQ⟩ := e_ w5.heap.size;rw [hP] at HRP p0 p1 p2 p3 u0 u1 u2 u3 hsz5 hsz3;rw [hQ] at HRQ n0 n1 n2 n3 o0 o1 o2 o3 hsz5;simp only [hP, hQ];have hPQ : P ≠ Q := (by omega);have hQP : Q ≠ P := (by omega);have hsB : B + 2 <= P := (by have := HX2.out.size; omega);clear hP hQ hw4 hw6;have hs0 : SwOk P Q B 46 w6 w6 [.int .i64 z1, .int .i64 z2, .bool zc, .bool zf] [.int .i64 v1, .int .i64 v2, .bool vc, .bool vf] := ⟨HRP.out, HRQ.out, fun _ _ _ => rfl, Wr.refl _ _⟩;have hs1 := (hs0.step hPQ (by omega) (by omega) 0 (.int .i64 v1) (.int .i64 z1)).step hPQ (by omega) (by omega) 2 (.bool vc) (.bool zc)
             have HS1 := h_ hs1;have HS2 := h_ ((hs0.step hPQ (by omega) (by omega) 1 (.int .i64 v2) (.int .i64 z2)).step hPQ (by omega) (by omega) 3 (.bool vf) (.bool zf));have HS3 := h_ ((hs1.step hPQ (by omega) (by omega) 1 (.int .i64 v2) (.int .i64 z2)).step hPQ (by omega) (by omega) 3 (.bool vf) (.bool zf));have HS0 := h_ hs0;clear hs0 hs1;by_cases hcol : v1 < z1 <;> by_cases hrow : v2 < z2
             all_goals go_wp2_with fail
             all_goals
              first
               | (obtain ⟨wq, hwq⟩ := e_ ((((((((w6.setCell ⟨P, 0, none⟩ (.int .i64 v1)).setCell ⟨Q, 0, none⟩ (.int .i64 z1)).setCell ⟨P, 2, none⟩ (.bool vc)).setCell ⟨Q, 2, none⟩ (.bool zc)).setCell ⟨P, 1, none⟩ (.int .i64 v2)).setCell ⟨Q, 1, none⟩ (.int .i64 z2)).setCell ⟨P, 3, none⟩ (.bool vf)).setCell ⟨Q, 3, none⟩ (.bool zf)); rw [hwq]; have HSQ := HS3; rw [hwq] at HSQ)
               | (obtain ⟨wq, hwq⟩ := e_ ((((w6.setCell ⟨P, 0, none⟩ (.int .i64 v1)).setCell ⟨Q, 0, none⟩ (.int .i64 z1)).setCell ⟨P, 2, none⟩ (.bool vc)).setCell ⟨Q, 2, none⟩ (.bool zc)); rw [hwq]; have HSQ := HS1; rw [hwq] at HSQ)
               | (obtain ⟨wq, hwq⟩ := e_ ((((w6.setCell ⟨P, 1, none⟩ (.int .i64 v2)).setCell ⟨Q, 1, none⟩ (.int .i64 z2)).setCell ⟨P, 3, none⟩ (.bool vf)).setCell ⟨Q, 3, none⟩ (.bool zf)); rw [hwq]; have HSQ := HS2; rw [hwq] at HSQ)
               | (obtain ⟨wq, hwq, HSQ⟩ : ∃ wq, w6 = wq /\ Hid (SwOk P Q B 46 w6 wq [.int .i64 z1, .int .i64 z2, .bool zc, .bool zf] [.int .i64 v1, .int .i64 v2, .bool vc, .bool vf]) := ⟨_, rfl, HS0⟩; rw [hwq])
              obtain ⟨m1, m2, mc, mf, t1, t2, tc, tf, HSX, HT⟩ : ∃ m1 m2 mc mf t1 t2 tc tf, Hid (SwOk P Q B 46 w6 wq [.int .i64 m1, .int .i64 m2, .bool mc, .bool mf] [.int .i64 t1, .int .i64 t2, .bool tc, .bool tf]) /\ Hid (loR ⟨(z1, z2), zc, zf⟩ ⟨(v1, v2), vc, vf⟩ = ⟨(m1, m2), mc, mf⟩ /\ hiR ⟨(z1, z2), zc, zf⟩ ⟨(v1, v2), vc, vf⟩ = ⟨(t1, t2), tc, tf⟩) := ⟨_, _, _, _, _, _, _, _, HSQ, h_ (by unfold loR hiR; constructor <;> dsimp only <;> (repeat' split) <;> first | rfl | (exfalso; omega))⟩;have HP7 := h_ HSX.out.1;have HQ7 := h_ HSX.out.2.1;have HB7 := h_ ((HSX.out.2.2.1 B (by omega) (by omega)).trans (HEA.out _ HX6.out))
              have HB8 := h_ ((HSX.out.2.2.1 (B + 1) (by omega) (by omega)).trans (HEB.out _ HX6.out));have HW7 := h_ ((Wr.of_xt HX6.out).trans HSX.out.2.2.2);clear HSX HSQ HS0 HS1 HS2 HS3 hwq hcol hrow;clear d0 d6 d7 d8 d9 d10 d11 d12 d13 g6 g7 g8 g9 g10 g11 g12 g13 p0 p1 p2 p3 u0 u1 u2 u3 n0 n1 n2 n3 o0 o1 o2 o3;obtain ⟨⟨d6, d7, d8, d9, d10, d11, d12, d13⟩, g6, g7, g8, g9, g10, g11, g12, g13⟩ := zDm HB7.out;refine wp_region_held_drew (S := fun V => r_ V P #[m1, m2, mc, mf] 46 /\ r_ V Q #[t1, t2, tc, tf] 46) (by kernel_rfl) ⟨HP7.out, HQ7.out⟩ (fun hHeld => ?_)
              refine tk (fun V h => And.intro (zUi h.1) (zUi h.2)) 0 ?_;refine tk (fun V h => And.intro (zUi h.1) (zUi h.2)) 1 ?_;refine tk (fun V h => And.intro (zUi h.1) (zUi h.2)) 2 ?_;refine rdH 3 (fun K hK => ?_);go_simp;refine hK.out _ _ ?_ (fun hHeld3 => ?_)
              . rw [hdr];exact ⟨(zr1 (by omega) (zr1 (by omega) (zr1 (by omega) (zr1 (by omega) HP7.out _ _) _ _) _ _) _ _), (zr1 (by omega) (zr1 (by omega) (zr1 (by omega) (zr1 (by omega) HQ7.out _ _) _ _) _ _) _ _)⟩
              clear hK K;try simp only [Act.put, nm]
              refine tk (fun V h => And.intro (zUi h.1) (zUi h.2)) 4 ?_;refine rdH 5 (fun K hK => ?_);go_simp;refine hK.out _ _ ?_ (fun hHeld5 => ?_)
              . rw [hdr];exact ⟨(zr1 (by omega) (zr1 (by omega) (zr1 (by omega) (zr1 (by omega) (zr1 (by omega) (zr1 (by omega) (zr1 (by omega) (zr1 (by omega) HP7.out _ _) _ _) _ _) _ _) _ _) _ _) _ _) _ _), (zr1 (by omega) (zr1 (by omega) (zr1 (by omega) (zr1 (by omega) (zr1 (by omega) (zr1 (by omega) (zr1 (by omega) (zr1 (by omega) HQ7.out _ _) _ _) _ _) _ _) _ _) _ _) _ _) _ _)⟩
              clear hK K;try simp only [Act.put, nm]
              refine z_ (by kernel_rfl) ?_ _;obtain ⟨w9, hw9⟩ := e_ ((((((((((wq.setCell ⟨B, 6, none⟩ (.int .i64 m1)).setCell ⟨B, 7, none⟩ (.int .i64 m2)).setCell ⟨B, 8, none⟩ (.bool mc)).setCell ⟨B, 9, none⟩ (.bool mf)).setCell ⟨B, 10, none⟩ (.int .i64 t1)).setCell ⟨B, 11, none⟩ (.int .i64 t2)).setCell ⟨B, 12, none⟩ (.bool tc)).setCell ⟨B, 13, none⟩ (.bool tf))).drew);have e0 := ysv HB7.out 6 (.int .i64 m1);simp only [List.setIfInBounds_toArray, List.set_cons_zero, List.set_cons_succ] at e0;have e1 := ysv e0 7 (.int .i64 m2);simp only [List.setIfInBounds_toArray, List.set_cons_zero, List.set_cons_succ] at e1;have e2 := ysv e1 8 (.bool mc)
              simp only [List.setIfInBounds_toArray, List.set_cons_zero, List.set_cons_succ] at e2;have e3 := ysv e2 9 (.bool mf);simp only [List.setIfInBounds_toArray, List.set_cons_zero, List.set_cons_succ] at e3;have e4 := ysv e3 10 (.int .i64 t1);simp only [List.setIfInBounds_toArray, List.set_cons_zero, List.set_cons_succ] at e4;have e5 := ysv e4 11 (.int .i64 t2);simp only [List.setIfInBounds_toArray, List.set_cons_zero, List.set_cons_succ] at e5;have e6 := ysv e5 12 (.bool tc);simp only [List.setIfInBounds_toArray, List.set_cons_zero, List.set_cons_succ] at e6;have e7 := ysv e6 13 (.bool tf)
              simp only [List.setIfInBounds_toArray, List.set_cons_zero, List.set_cons_succ] at e7;have HB9 : Hid (r_ w9 B ((nodeC (.mk k o x s bb f ⟨(m1, m2), mc, mf⟩ ⟨(t1, t2), tc, tf⟩ l) (.slice a l.length cap)).toArray) 49) := (by unfold Hid; rw [<- hw9, hdr]; exact e7);clear e0 e1 e2 e3 e4 e5 e6 e7
              have HR9 : Hid (r_ w9 (B + 1) zN 49) := by unfold Hid; rw [<- hw9, hdr]; exact ((s_ _ _ _ _ (by simp)).trans ((s_ _ _ _ _ (by simp)).trans ((s_ _ _ _ _ (by simp)).trans ((s_ _ _ _ _ (by simp)).trans ((s_ _ _ _ _ (by simp)).trans ((s_ _ _ _ _ (by simp)).trans ((s_ _ _ _ _ (by simp)).trans ((s_ _ _ _ _ (by simp)).trans HB8.out))))))))
              have HW9 : Hid (Wr (Hi B) wr w9) := (by unfold Hid; rw [<- hw9]; exact (((((((((HW7.out.trans (Wr.cell _ (show B <= B by omega))).trans (Wr.cell _ (show B <= B by omega))).trans (Wr.cell _ (show B <= B by omega))).trans (Wr.cell _ (show B <= B by omega))).trans (Wr.cell _ (show B <= B by omega))).trans (Wr.cell _ (show B <= B by omega))).trans (Wr.cell _ (show B <= B by omega))).trans (Wr.cell _ (show B <= B by omega))).trans (Wr.of_xt (Xt.refl _).drew)));rw [hw9];clear hw9 d6 d7 d8 d9 d10 d11 d12 d13 g6 g7 g8 g9 g10 g11 g12 g13 hHeld hHeld3 hHeld5;go_wp2_with (first
               | (refine x_ (P := Tryz.prog) rfl 49 _ rfl B rfl 49 _ (0, 0) _ HB9.out Tryz.underlying49 rfl (by kernel_rfl) ?_)
               | (refine w_ (P := Tryz.prog) rfl 49 _ _ rfl (B + 1) _ rfl rfl 49 _ HR9.out (by kernel_rfl) (by kernel_rfl) (n_ (jrw (.mk k o x s bb f ⟨(m1, m2), mc, mf⟩ ⟨(t1, t2), tc, tf⟩ l) (.slice a l.length cap) rfl)) ?_))
              (try simp only [Exit.inBlock, Exit.then])
              refine p_ (v := .agg (nodeC (.mk k o x s bb f ⟨(m1, m2), mc, mf⟩ ⟨(t1, t2), tc, tf⟩ l) (.slice a l.length cap)).toArray) (t_ rfl _ _ (B + 1) 49 _ (0, 0) _ rfl (setRow_heap _ _ _ _ _ _ HR9.out) Tryz.underlying49 rfl (by kernel_rfl)) rfl ?_;have hTT : upT (shH cc rr) (.mk k o x s bb f ⟨(r1, r2), rc, rf⟩ ⟨(q1, q2), qc, qf⟩ l) = .mk k o x s bb f ⟨(m1, m2), mc, mf⟩ ⟨(t1, t2), tc, tf⟩ (l.map (upT (shH cc rr))) := by
               rw [upT, zRi, shH, if_neg (by rw [HK5.out]; decide), if_pos HK5.out, HZO.out, if_pos rfl, HVO.out, if_pos rfl, HZZ.out, HVV.out];rw [HT.out.1, HT.out.2]
              rw [hTT];obtain ⟨f1, f2⟩ := yxJ (W := w9.setRow (B + 1) (nodeC (.mk k o x s bb f ⟨(m1, m2), mc, mf⟩ ⟨(t1, t2), tc, tf⟩ l) (.slice a l.length cap)).toArray) HA'.out HWw.out HBw.out (fun b hb => by have := HS.out b hb; have := HBw.out; omega) (HW9.out.trans (Wr.row _ (show B <= B + 1 by omega)));refine ⟨a, cap, ?_, ?_, f2⟩
              . simp [nodeC, NodeT.args, NodeT.kind, NodeT.op, NodeT.x, NodeT.s, NodeT.b, NodeT.f, NodeT.ref, NodeT.to]
              . simp only [NodeT.args, List.length_map]; exact f1
     . have h5 : k ≠ 5 := fun e => h56 (Or.inl e);have h6 : k ≠ 6 := fun e => h56 (Or.inr e);have h5b : (k != 5) = true := (by simpa using h5);have h6b : (k != 6) = true := (by simpa using h6);clear h56;go_wp2_with (first
        | (refine x_ (P := Tryz.prog) rfl 49 _ rfl B rfl 49 _ (0, 0) _ HRBr.out Tryz.underlying49 rfl (by kernel_rfl) ?_)
        | (refine w_ (P := Tryz.prog) rfl 49 _ _ rfl (B + 1) _ rfl rfl 49 _ HRRr.out (by kernel_rfl) (by kernel_rfl) (n_ (jrw (.mk k o x s bb f ⟨(r1, r2), rc, rf⟩ ⟨(q1, q2), qc, qf⟩ l) (.slice a l.length cap) rfl)) ?_))
       (try simp only [Exit.inBlock, Exit.then])
       refine p_ (v := .agg (nodeC (.mk k o x s bb f ⟨(r1, r2), rc, rf⟩ ⟨(q1, q2), qc, qf⟩ l) (.slice a l.length cap)).toArray) (t_ rfl _ _ (B + 1) 49 _ (0, 0) _ rfl (setRow_heap _ _ _ _ _ _ HRRr.out) Tryz.underlying49 rfl (by kernel_rfl)) rfl ?_;have hTT : upT (shH cc rr) (.mk k o x s bb f ⟨(r1, r2), rc, rf⟩ ⟨(q1, q2), qc, qf⟩ l) = .mk k o x s bb f ⟨(r1, r2), rc, rf⟩ ⟨(q1, q2), qc, qf⟩ (l.map (upT (shH cc rr))) := (by rw [upT, zRi]; simp [shH, h5, h6]);rw [hTT]
       obtain ⟨f1, f2⟩ := yxJ (W := wr.setRow (B + 1) (nodeC (.mk k o x s bb f ⟨(r1, r2), rc, rf⟩ ⟨(q1, q2), qc, qf⟩ l) (.slice a l.length cap)).toArray) HA'.out HWw.out HBw.out (fun b hb => by have := HS.out b hb; have := HBw.out; omega) (Wr.row _ (by show B <= B + 1; omega));refine ⟨a, cap, ?_, ?_, f2⟩
       . simp [nodeC, NodeT.args, NodeT.kind, NodeT.op, NodeT.x, NodeT.s, NodeT.b, NodeT.f, NodeT.ref, NodeT.to]
       . simp only [NodeT.args, List.length_map]; exact f1
theorem yoC {cG : Ad -> Ad × Bool} {aG : ArT -> ArT × Bool} {k o : Int} {x : Nat} {s : ByteArray} {b : Bool} {f : Int} {r q : RefT} {l : List NodeT} (h5 : k ≠ 5) (h6 : k ≠ 6) : yip cG aG (.mk k o x s b f r q l) = .mk k o x s b f r q l := by
 rw [yip, if_neg h5, if_neg h6]
theorem zgC {cG : Ad -> Ad × Bool} {aG : ArT -> ArT × Bool} {t : NodeT} (h : t.args = []) : jNY cG aG t = yip cG aG t := by
 obtain ⟨k, o, x, s, b, f, r, q, l⟩ := t;have h : l = [] := h;subst h;rw [jNY, jWC]
theorem jDP {cG : Ad -> Ad × Bool} {aG : ArT -> ArT × Bool} {t : NodeT} (h : t.args = []) : (yip cG aG t).args = [] := by
 rcases ySs cG aG t with e | ⟨r, q, e⟩
 . rw [e]; rfl
 . rw [e]; exact h
def okN (x : NodeT) : Prop := (x.kind = 5 -> y8L x.ref.a.1 x.ref.a.2 = true) /\ (x.kind = 6 -> vA (arOf x.ref x.to) = true)
theorem yAj {k o : Int} {x : Nat} {s : ByteArray} {b : Bool} {f : Int} {r q : RefT} {l : List NodeT} {ins : Bool} (h : yG3 (.mk k o x s b f r q l) ins = 0) :
    ((k = 5 \/ k = 6) /\ l = [] /\ okN (.mk k o x s b f r q [])) \/ (k ≠ 5 /\ k ≠ 6 /\ ziB l (k == 9) = 0) := by
 rw [yG3] at h;by_cases hm : zGb (.mk k o x s b f r q l) = true
 . rw [if_pos hm] at h;by_cases h5 : k = 5
   . subst h5;rw [if_pos (by rfl)] at h;obtain ⟨rfl, _⟩ := zNy (r' := r) hm;refine Or.inl ⟨Or.inl rfl, rfl, fun _ => ?_, fun e => absurd (show (5 : Int) = 6 from e) (by decide)⟩
     show y8L r.a.1 r.a.2 = true
     by_cases hv : y8L r.a.1 r.a.2 = true
     . exact hv
     . rw [if_neg hv] at h; omega
   . rw [if_neg (by simpa using h5)] at h;by_cases h6 : k = 6
     . subst h6;rw [if_pos (by rfl)] at h;obtain ⟨rfl, _⟩ := zby (r' := r) (q' := q) hm;refine Or.inl ⟨Or.inr rfl, rfl, fun e => absurd (show (6 : Int) = 5 from e) (by decide), fun _ => ?_⟩
       show (y8L r.a.1 r.a.2 && y8L q.a.1 q.a.2 && decide (r.a.1 <= q.a.1) && decide (r.a.2 <= q.a.2)) = true
       by_cases hv : (y8L r.a.1 r.a.2 && y8L q.a.1 q.a.2 && decide (r.a.1 <= q.a.1) && decide (r.a.2 <= q.a.2)) = true
       . exact hv
       . rw [if_neg hv] at h; omega
     . rw [if_neg (by simpa using h6)] at h;refine Or.inr ⟨h5, h6, ?_⟩;split at h
       . split at h
         . split at h
           . omega
           . split at h
             . omega
             . exact h
         . omega
       . exact h
 . rw [if_neg hm] at h; omega
theorem zJm {t : NodeT} {l : List NodeT} {c : Bool} (h : ziB (t :: l) c = 0) : yG3 t c = 0 /\ ziB l c = 0 := by
 rw [ziB] at h;split at h
 . rename_i e; exact ⟨e, h⟩
 . rename_i e; exact absurd h e
mutual
theorem jiZ : ∀ (t : NodeT) (ins : Bool), yG3 t ins = 0 -> ∀ x ∈ jBl t, okN x
 | .mk k o x s b f r q l, ins, h => by
  rw [jBl];rcases yAj h with ⟨_, rfl, hk⟩ | ⟨h5, h6, hL⟩
  . intro y hy;rw [jWl] at hy;rw [List.mem_singleton.1 hy]; exact hk
  . intro y hy;rcases List.mem_cons.1 hy with e | hy
    . rw [e]; exact ⟨fun e => absurd e h5, fun e => absurd e h6⟩
    . exact yCZ l _ hL y hy
theorem yCZ : ∀ (l : List NodeT) (c : Bool), ziB l c = 0 -> ∀ x ∈ jWl l, okN x
 | [], _, _ => fun x hx => by rw [jWl] at hx; cases hx
 | t :: l, c, h => fun x hx => by
  obtain ⟨h1, h2⟩ := zJm h;rw [jWl] at hx;rcases List.mem_append.1 hx with hx | hx
  . exact jiZ t c h1 x hx
  . exact yCZ l c h2 x hx
end
mutual
theorem yB0 {cG1 cG2 cG3 : Ad -> Ad × Bool} {aG1 aG2 aG3 : ArT -> ArT × Bool} : ∀ (t : NodeT) (ins : Bool), yG3 t ins = 0 -> (∀ x ∈ jBl t, x.kind = 5 \/ x.kind = 6 -> yip cG2 aG2 (yip cG1 aG1 x) = yip cG3 aG3 x) -> jNY cG2 aG2 (jNY cG1 aG1 t) = jNY cG3 aG3 t
 | .mk k o x s b f r q l, ins, h, H => by
  rcases yAj h with ⟨hk, rfl, _⟩ | ⟨h5, h6, hL⟩
  . have := H (.mk k o x s b f r q []) (by rw [jBl]; exact List.mem_cons_self) hk;rw [zgC (t := .mk k o x s b f r q []) rfl, zgC (jDP rfl), zgC (t := .mk k o x s b f r q []) rfl];exact this
  . rw [jNY, yoC h5 h6, jNY, yoC h5 h6, jNY, yoC h5 h6, zTK l _ hL (fun y hy => H y (by rw [jBl]; exact List.mem_cons_of_mem _ hy))]
theorem zTK {cG1 cG2 cG3 : Ad -> Ad × Bool} {aG1 aG2 aG3 : ArT -> ArT × Bool} : ∀ (l : List NodeT) (c : Bool), ziB l c = 0 -> (∀ x ∈ jWl l, x.kind = 5 \/ x.kind = 6 -> yip cG2 aG2 (yip cG1 aG1 x) = yip cG3 aG3 x) -> jWC cG2 aG2 (jWC cG1 aG1 l) = jWC cG3 aG3 l
 | [], _, _, _ => rfl
 | t :: l, c, h, H => by
  obtain ⟨h1, h2⟩ := zJm h;rw [jWC, jWC, jWC, yB0 t c h1 (fun y hy => H y (by rw [jWl]; exact List.mem_append_left _ hy)), zTK l c h2 (fun y hy => H y (by rw [jWl]; exact List.mem_append_right _ hy))]
end
abbrev cI : Ad -> Ad × Bool := fun a => (a, true)
abbrev aI : ArT -> ArT × Bool := fun x => (x, true)
theorem jCr (t : NodeT) : yip cI aI t = t := by
 obtain ⟨k, o, x, s, b, f, r, q, l⟩ := t;rw [yip];split
 . rfl
 . split
   . rfl
   . rfl
mutual
theorem yfT : ∀ t : NodeT, jNY cI aI t = t
 | .mk k o x s b f r q l => by rw [jNY, zrC l, jCr]
theorem zrC : ∀ l : List NodeT, jWC cI aI l = l
 | [] => rfl
 | t :: l => by rw [jWC, yfT t, zrC l]
end
def yCP (cG : Ad -> Ad × Bool) (aG : ArT -> ArT × Bool) (x : NodeT) : Bool := (decide (x.kind = 5) && !(cG x.ref.a).2) || (decide (x.kind = 6) && !(aG (arOf x.ref x.to)).2)
def zzt (cG : Ad -> Ad × Bool) (aG : ArT -> ArT × Bool) (l : List NodeT) : Nat := (l.filter (yCP cG aG)).length
theorem ybq {cG : Ad -> Ad × Bool} {aG : ArT -> ArT × Bool} {l : List NodeT} (h : zzt cG aG l = 0) : ∀ x ∈ l, yCP cG aG x = false := fun x hx => by
 cases e : yCP cG aG x
 . rfl
 . have : x ∈ l.filter (yCP cG aG) := List.mem_filter.2 ⟨hx, e⟩;rw [List.eq_nil_of_length_eq_zero h] at this;cases this
theorem yc7 (x : NodeT) (l : List NodeT) : cntK (x :: l) = (if x.kind = 4 then 1 else 0) + cntK l := by
 unfold cntK;rw [List.filter_cons];by_cases h : x.kind = 4
 . rw [if_pos (by simpa using h), if_pos h, List.length_cons]; omega
 . rw [if_neg (by simpa using h), if_neg h]; omega
theorem jUN (l k : List NodeT) : cntK (l ++ k) = cntK l + cntK k := by unfold cntK; rw [List.filter_append, List.length_append]
theorem jdq (cG : Ad -> Ad × Bool) (aG : ArT -> ArT × Bool) (l k : List NodeT) : zzt cG aG (l ++ k) = zzt cG aG l + zzt cG aG k := by unfold zzt; rw [List.filter_append, List.length_append]
theorem z9a (cG : Ad -> Ad × Bool) (aG : ArT -> ArT × Bool) (x : NodeT) (l : List NodeT) : zzt cG aG (x :: l) = (if yCP cG aG x = true then 1 else 0) + zzt cG aG l := by
 unfold zzt;rw [List.filter_cons];split
 . rw [List.length_cons]; omega
 . omega
mutual
theorem yuQ {cG : Ad -> Ad × Bool} {aG : ArT -> ArT × Bool} : ∀ (t : NodeT) (ins : Bool), yG3 t ins = 0 -> cntK (jBl (jNY cG aG t)) = cntK (jBl t) + zzt cG aG (jBl t)
 | .mk k o x s b f r q l, ins, h => by
  rcases yAj h with ⟨hk, rfl, _⟩ | ⟨h5, h6, hL⟩
  . rw [zgC (t := .mk k o x s b f r q []) rfl, yVR, jDP rfl, jBl, jWl, yc7, yc7, z9a];have e0 : cntK [] = 0 := rfl;have e1 : zzt cG aG [] = 0 := rfl;rw [e0, e1];rcases hk with rfl | rfl
    . rw [yip, if_pos rfl];cases ho : (cG r.a).2
      . simp [lostT, jXe, NodeT.kind, yCP, NodeT.ref, ho]
      . simp [jXe, NodeT.kind, yCP, NodeT.ref, ho]
    . have e6 : yip cG aG (.mk 6 o x s b f r q []) = if (aG (arOf r q)).2 = true then .mk 6 o x s b f ⟨((aG (arOf r q)).1.a, (aG (arOf r q)).1.b), r.cf, r.rf⟩ ⟨((aG (arOf r q)).1.c, (aG (arOf r q)).1.d), q.cf, q.rf⟩ [] else lostT := by
       rw [yip, if_neg (show ¬ (6 : Int) = 5 by decide), if_pos rfl]
      rw [e6];cases ho : (aG (arOf r q)).2
      . simp [lostT, jXe, NodeT.kind, yCP, NodeT.ref, NodeT.to, ho]
      . simp [jXe, NodeT.kind, yCP, NodeT.ref, NodeT.to, ho]
  . rw [jNY, yoC h5 h6, jBl, jBl, yc7, yc7, z9a, j1s l _ hL];have : yCP cG aG (.mk k o x s b f r q []) = false := (by unfold yCP; simp [NodeT.kind, h5, h6]);simp only [this, Bool.false_eq_true, if_false];omega
theorem j1s {cG : Ad -> Ad × Bool} {aG : ArT -> ArT × Bool} : ∀ (l : List NodeT) (c : Bool), ziB l c = 0 -> cntK (jWl (jWC cG aG l)) = cntK (jWl l) + zzt cG aG (jWl l)
 | [], _, _ => rfl
 | t :: l, c, h => by
  obtain ⟨h1, h2⟩ := zJm h;rw [jWC, jWl, jWl, jUN, jUN, jdq, yuQ t c h1, j1s l c h2];omega
end
def okCt (c : ContT) : Prop := yQy c = true /\ (c.kind == 0) = false /\ jNS c = c
theorem okCt.fault {c : ContT} (h : okCt c) (hk : c.kind = 2) : yG3 c.t false = 0 := by
 have hv := h.1;unfold yQy at hv;simp only [hk, Int.reduceBEq, Bool.false_eq_true, if_false, if_true, Bool.and_eq_true] at hv;exact jAT (by simpa using hv.2)
theorem okCt.copyT {c : ContT} (h : okCt c) : copyT c.t = c.t := congrArg ContT.t h.2.2
theorem okCt.plain {c : ContT} (h : okCt c) (hk : c.kind ≠ 2) : jBl c.t = [jXe c.t] /\ c.t.kind = 0 := by
 have hv := h.1;have h0 := h.2.1;unfold yQy at hv;rw [h0] at hv;simp only [Bool.false_eq_true, if_false] at hv;by_cases h1 : (c.kind == 1) = true
 . rw [if_pos h1] at hv;simp only [Bool.and_eq_true] at hv;have hn := hv.1.1;unfold z88 at hn;simp only [Bool.and_eq_true] at hn;have hk0 : c.t.kind = 0 := of_decide_eq_true hn.1.1.1.1.1.1.1.1;have hl : c.t.args = [] := List.length_eq_zero_iff.1 (by have := hn.2; simp at this; simpa using this);exact ⟨by rw [yVR, hl, jWl], hk0⟩
 . rw [if_neg h1, if_neg (by simpa using hk)] at hv; cases hv
theorem zRJ {cG : Ad -> Ad × Bool} {aG : ArT -> ArT × Bool} {c : ContT} (h : okCt c) : zF0 (yFo cG aG c).t = zF0 c.t + zzt cG aG (jBl c.t) := by
 unfold zF0 yFo;by_cases hk : c.kind = 2
 . rw [if_pos hk]
   show cntK (jBl (jNY cG aG (Proofs.YtdoeejhdenifpaaGreatDoor.copyT c.t))) = _
   rw [h.copyT];exact yuQ c.t false (h.fault hk)
 . rw [if_neg hk];obtain ⟨e1, e2⟩ := h.plain hk;have : zzt cG aG (jBl c.t) = 0 := by
    rw [e1, z9a];have : yCP cG aG (jXe c.t) = false := by
     unfold yCP;have hk2 : (jXe c.t).kind = c.t.kind := (by cases c.t; rfl);rw [hk2, e2]; rfl
    rw [this]; rfl
   omega
theorem zLy {cG1 cG2 cG3 : Ad -> Ad × Bool} {aG1 aG2 aG3 : ArT -> ArT × Bool} {c : ContT} (h : okCt c) (H : c.kind = 2 -> ∀ x ∈ jBl c.t, x.kind = 5 \/ x.kind = 6 -> yip cG2 aG2 (yip cG1 aG1 x) = yip cG3 aG3 x) :
    yFo cG2 aG2 (jNS (yFo cG1 aG1 (jNS c))) = yFo cG3 aG3 (jNS c) := by
 rw [ym8, h.2.2];unfold yFo;by_cases hk : c.kind = 2
 . rw [if_pos hk, if_pos hk];simp only;rw [if_pos hk];have e : jNY cG2 aG2 (Proofs.YtdoeejhdenifpaaGreatDoor.copyT (jNY cG1 aG1 (Proofs.YtdoeejhdenifpaaGreatDoor.copyT c.t))) = jNY cG3 aG3 (Proofs.YtdoeejhdenifpaaGreatDoor.copyT c.t) := by
    rw [<- y7n, h.copyT, h.copyT];exact yB0 c.t false (h.fault hk) (H hk)
   rw [e]
 . rw [if_neg hk, if_neg hk, if_neg hk]
theorem y2V {c : ContT} (h : okCt c) : yFo cI aI (jNS c) = c := by
 rw [h.2.2];unfold yFo;split
 . rw [yfT, h.copyT]
 . rfl
theorem jQM (cG : Ad -> Ad × Bool) (aG : ArT -> ArT × Bool) (x : Ad × ContT) (l : PG) : goP cG aG (x :: l) = if (cG x.1).2 = true then ((cG x.1).1, yFo cG aG (jNS x.2)) :: goP cG aG l else goP cG aG l := by
 unfold goP;rw [List.filter_cons];split <;> rfl
theorem zkK {cG1 cG2 cG3 : Ad -> Ad × Bool} {aG1 aG2 aG3 : ArT -> ArT × Bool} : ∀ {l : PG}, (∀ x ∈ l, ((cG1 x.1).2 = true -> cG2 (cG1 x.1).1 = cG3 x.1 /\ yFo cG2 aG2 (jNS (yFo cG1 aG1 (jNS x.2))) = yFo cG3 aG3 (jNS x.2)) /\ (¬ (cG1 x.1).2 = true -> ¬ (cG3 x.1).2 = true)) -> goP cG2 aG2 (goP cG1 aG1 l) = goP cG3 aG3 l
 | [], _ => rfl
 | x :: l, h => by
  have ih := zkK (l := l) (fun y hy => h y (List.mem_cons_of_mem _ hy));obtain ⟨h1, h2⟩ := h x List.mem_cons_self;rw [jQM, jQM];by_cases ho : (cG1 x.1).2 = true
  . obtain ⟨e1, e2⟩ := h1 ho;rw [if_pos ho, jQM];simp only;rw [e1, e2, ih]
  . rw [if_neg ho, if_neg (h2 ho), ih]
theorem goP_id : ∀ {l : PG}, (∀ x ∈ l, okCt x.2) -> goP cI aI l = l
 | [], _ => rfl
 | x :: l, h => by
  rw [jQM, if_pos rfl, goP_id (fun y hy => h y (List.mem_cons_of_mem _ hy)), y2V (h x List.mem_cons_self)]
theorem znd {cG : Ad -> Ad × Bool} {aG : ArT -> ArT × Bool} : ∀ {l : PG}, (∀ x ∈ l, okCt x.2 /\ (cG x.1).2 = true) -> j6I l <= j6I (goP cG aG l) /\ (j6I (goP cG aG l) = j6I l -> ∀ x ∈ l, ∀ y ∈ jBl x.2.t, yCP cG aG y = false)
 | [], _ => ⟨Nat.le_refl _, fun _ x hx => by cases hx⟩
 | x :: l, h => by
  obtain ⟨i1, i2⟩ := znd (cG := cG) (aG := aG) (l := l) (fun y hy => h y (List.mem_cons_of_mem _ hy));obtain ⟨h1, h2⟩ := h x List.mem_cons_self;have e := zRJ (cG := cG) (aG := aG) h1;rw [jQM, if_pos h2, j6I, j6I];simp only;rw [h1.2.2, e];refine ⟨by omega, fun hs y hy => ?_⟩;rcases List.mem_cons.1 hy with rfl | hy
  . exact ybq (by omega)
  . exact i2 (by omega) y hy
section
variable {cols : Bool} {k p q : Int}
theorem zCq {cG : Ad -> Ad × Bool} {aG : ArT -> ArT × Bool} {o : Int} {x : Nat} {s : ByteArray} {b : Bool} {f : Int} {r q : RefT} {l : List NodeT} : yip cG aG (.mk 5 o x s b f r q l) = if (cG r.a).2 = true then .mk 5 o x s b f ⟨(cG r.a).1, r.cf, r.rf⟩ q l else lostT := by rw [yip, if_pos rfl]
theorem jnK {cG : Ad -> Ad × Bool} {aG : ArT -> ArT × Bool} {o : Int} {x : Nat} {s : ByteArray} {b : Bool} {f : Int} {r q : RefT} {l : List NodeT} : yip cG aG (.mk 6 o x s b f r q l) = if (aG (arOf r q)).2 = true then .mk 6 o x s b f ⟨((aG (arOf r q)).1.a, (aG (arOf r q)).1.b), r.cf, r.rf⟩ ⟨((aG (arOf r q)).1.c, (aG (arOf r q)).1.d), q.cf, q.rf⟩ l else lostT := by rw [yip, if_neg (show ¬ (6 : Int) = 5 by decide), if_pos rfl]
theorem zr2 (cG : Ad -> Ad × Bool) (aG : ArT -> ArT × Bool) : yip cG aG lostT = lostT := yoC (by decide) (by decide)
theorem yEU {cG1 cG2 cG3 : Ad -> Ad × Bool} {aG1 aG2 aG3 : ArT -> ArT × Bool} {x : NodeT} (hk : x.kind = 5 \/ x.kind = 6)
    (hc : x.kind = 5 -> ((cG1 x.ref.a).2 = true -> cG2 (cG1 x.ref.a).1 = cG3 x.ref.a) /\ (¬ (cG1 x.ref.a).2 = true -> ¬ (cG3 x.ref.a).2 = true))
    (ha : x.kind = 6 -> ((aG1 (arOf x.ref x.to)).2 = true -> aG2 (aG1 (arOf x.ref x.to)).1 = aG3 (arOf x.ref x.to)) /\ (¬ (aG1 (arOf x.ref x.to)).2 = true -> ¬ (aG3 (arOf x.ref x.to)).2 = true)) :
    yip cG2 aG2 (yip cG1 aG1 x) = yip cG3 aG3 x := by
 obtain ⟨k, o, y, s, b, f, r, q, l⟩ := x;rcases hk with e | e
 . have e : k = 5 := e;subst e;obtain ⟨h1, h2⟩ := hc rfl;simp only [NodeT.ref] at h1 h2;rw [zCq, zCq];by_cases ho : (cG1 r.a).2 = true
   . rw [if_pos ho, zCq];simp only;rw [h1 ho]
   . rw [if_neg ho, if_neg (h2 ho), zr2]
 . have e : k = 6 := e;subst e;obtain ⟨h1, h2⟩ := ha rfl;simp only [NodeT.ref, NodeT.to] at h1 h2;rw [jnK, jnK];by_cases ho : (aG1 (arOf r q)).2 = true
   . rw [if_pos ho, jnK];have ee : arOf ⟨((aG1 (arOf r q)).1.a, (aG1 (arOf r q)).1.b), r.cf, r.rf⟩ ⟨((aG1 (arOf r q)).1.c, (aG1 (arOf r q)).1.d), q.cf, q.rf⟩ = (aG1 (arOf r q)).1 := rfl;rw [ee, h1 ho]
   . rw [if_neg ho, if_neg (h2 ho), zr2]
end
theorem znz {g : PG} (h : GOk g) : ∀ x ∈ g, okCt x.2 := fun x hx => ⟨(h.each x hx).2.1, (h.each x hx).2.2.1, (h.each x hx).2.2.2.1⟩
mutual
theorem yAE {cG : Ad -> Ad × Bool} {aG : ArT -> ArT × Bool} : ∀ (t : NodeT) (ins : Bool), yG3 t ins = 0 -> (jBl (jNY cG aG t)).length = (jBl t).length
 | .mk k o x s b f r q l, ins, h => by
  rcases yAj h with ⟨_, rfl, _⟩ | ⟨h5, h6, hL⟩
  . rw [zgC (t := .mk k o x s b f r q []) rfl, yVR, jDP rfl, jBl]; rfl
  . rw [jNY, yoC h5 h6, jBl, jBl, List.length_cons, List.length_cons, zZz l _ hL]
theorem zZz {cG : Ad -> Ad × Bool} {aG : ArT -> ArT × Bool} : ∀ (l : List NodeT) (c : Bool), ziB l c = 0 -> (jWl (jWC cG aG l)).length = (jWl l).length
 | [], _, _ => rfl
 | t :: l, c, h => by
  obtain ⟨h1, h2⟩ := zJm h;rw [jWC, jWl, jWl, List.length_append, List.length_append, yAE t c h1, zZz l c h2]
end
section
variable {cols : Bool} {k p q : Int} {g : PG}
end
end
end Go.Proofs.YtdoeejhdenifpaaGreatDoor
