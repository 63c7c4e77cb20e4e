import Derived.Test.YtdoeejhdenifpaaGreatDoorB13
import Derived.Deep.Cut
set_option maxRecDepth 100000
set_option maxHeartbeats 16000000
namespace Go.Proofs.YtdoeejhdenifpaaGreatDoor
section
open Go.RowKit Go.Sort
abbrev zfN (pt pr pl : Nat) : Value := .func (.func 122) #[] #[v_ pt, v_ pr, v_ pl]
abbrev roadW (kc ka : Nat) (lc la : Array Value) : Value := .agg #[.func (.func kc) #[] lc, .func (.func ka) #[] la]
structure RoadIs (E : World -> Prop) (n0 kc ka : Nat) (lc la : Array Value) (cG : Ad -> Ad × Bool) (aG : ArT -> ArT × Bool) (okA : ArT -> Prop) : Prop where
 keep : ∀ w w', E w -> w.heap.size <= w'.heap.size -> (∀ b, b < n0 -> w'.heap[b]? = w.heap[b]?) -> E w'
 size : ∀ w, E w -> n0 <= w.heap.size
 ec : ∀ args w, (callFunc kc args).run Tryz.prog w = .ok (.enter kc args) w
 ea : ∀ args w, (callFunc ka args).run Tryz.prog w = .ok (.enter ka args) w
 cell : ∀ (a : Ad) (w : World), E w -> Calls Tryz.prog kc (#[.agg #[a.1, a.2]] ++ lc) w fun e w' => e = .returned (.tuple #[.agg #[.int .i64 (cG a).1.1, .int .i64 (cG a).1.2], (cG a).2]) /\ Xt w w'
 area : ∀ (x : ArT) (w : World), okA x -> E w -> Calls Tryz.prog ka (#[arT x] ++ la) w fun e w' => e = .returned (.tuple #[arT (aG x).1, (aG x).2]) /\ Xt w w'
structure TurnAt (w : World) (pt pr pl : Nat) (kc ka : Nat) (lc la : Array Value) : Prop where
 turn : w.cell? ⟨pt, 0, none⟩ = some (zfN pt pr pl)
 road0 : w.cell? ⟨pr, 0, none⟩ = some (.func (.func kc) #[] lc)
 road1 : w.cell? ⟨pr, 1, none⟩ = some (.func (.func ka) #[] la)
 lost : w.heap[pl]? = some (.cells (nodeC lostT (.slice none 0 0)).toArray 49 (0, 0))
theorem TurnAt.keep {w w' : World} {n0 pt pr pl kc ka : Nat} {lc la : Array Value} (h : TurnAt w pt pr pl kc ka lc la) (h0 : pt < n0 /\ pr < n0 /\ pl < n0) (hk : ∀ b, b < n0 -> w'.heap[b]? = w.heap[b]?) : TurnAt w' pt pr pl kc ka lc la :=
 ⟨(d_ (w := w) (a := ⟨pt, 0, none⟩) (hk _ h0.1)).trans h.turn, (d_ (w := w) (a := ⟨pr, 0, none⟩) (hk _ h0.2.1)).trans h.road0, (d_ (w := w) (a := ⟨pr, 1, none⟩) (hk _ h0.2.1)).trans h.road1, (hk _ h0.2.2).trans h.lost⟩
mutual
def okAs (okA : ArT -> Prop) : NodeT -> Prop
 | .mk k _ _ _ _ _ r q l => (k = 6 -> okA (arOf r q)) /\ okAL okA l
def okAL (okA : ArT -> Prop) : List NodeT -> Prop
 | [] => True
 | t :: l => okAs okA t /\ okAL okA l
end
def Two (B : Nat) : Nat -> Prop := fun b => b = B \/ b = B + 1
theorem Wr.cell {S : Nat -> Prop} {w : World} {b o : Nat} (v : Value) (hb : S b) : Wr S w (w.setCell ⟨b, o, none⟩ v) := ⟨rfl, rfl, rfl, by simp, fun j _ hn => s_ _ _ _ _ (fun e => hn (e ▸ hb))⟩
theorem Wr.row {S : Nat -> Prop} {w : World} {b : Nat} (cs : Array Value) (hb : S b) : Wr S w (w.setRow b cs) := ⟨rfl, rfl, rfl, by simp, fun j _ hn => setRow_other w b j _ (fun e => hn (e ▸ hb))⟩
theorem Wr.side {S S2 : Nat -> Prop} {w a b : World} (h : Wr S w a) (k : Wr S2 a b) (h2 : ∀ c, S2 c -> w.heap.size <= c) : Wr S w b :=
 ⟨k.os.trans h.os, k.tape.trans h.tape, k.output.trans h.output, Nat.le_trans h.size k.size, fun i hi hn => (k.block i (Nat.lt_of_lt_of_le hi h.size) (fun e => by have := h2 i e; omega)).trans (h.block i hi hn)⟩
theorem SepIn.nil {S : Nat -> Prop} {w : World} : ∀ n, SepIn S w n (.slice none 0 0) []
 | 0 => ⟨rfl, none, rfl⟩
 | _ + 1 => ⟨none, 0, rfl, Nat.le_refl _, by omega, fun h => absurd h (Nat.lt_irrefl _)⟩
theorem j2E {S : Nat -> Prop} {w wr W : World} {n B : Nat} {av : Value} {L : List NodeT} (hA : SepIn S wr n av L) (hw : Wr S w wr) (hB : w.heap.size = B) (hn : ∀ b, S b -> b < B) (k : Wr (Two B) wr W) : SepIn S W n av L /\ Wr S w W :=
 ⟨hA.keep (fun b hb hlt => k.block b hlt (fun e => by have := hn b hb; rcases e with e | e <;> omega)), hw.side k (fun c hc => by rcases hc with e | e <;> omega)⟩
theorem yDt {w : World} {b : Nat} {u0 u1 u2 u3 u4 u5 u6 u7 u8 u9 u10 u11 u12 u13 u14 : Value} {T : TypeId} (h : w.heap[b]? = some (.cells #[u0, u1, u2, u3, u4, u5, u6, u7, u8, u9, u10, u11, u12, u13, u14] T (0, 0))) : c_ w b 10 u10 /\ c_ w b 11 u11 /\ w.frozen? ⟨b, 10, none⟩ = false /\ w.frozen? ⟨b, 11, none⟩ = false := by
 refine ⟨?_, ?_, ?_, ?_⟩ <;> simp [World.cell?, World.frozen?, h]
theorem yC5 {w : World} {b B o o' : Nat} {u v x y p q : Value} (hne : b ≠ B) (h : c_ w b 0 u /\ c_ w b 1 v /\ c_ w b 2 x /\ c_ w b 3 y) :
    ((w.setCell ⟨B, o, none⟩ p).setCell ⟨B, o', none⟩ q).cell? ⟨b, 0, none⟩ = some u /\ ((w.setCell ⟨B, o, none⟩ p).setCell ⟨B, o', none⟩ q).cell? ⟨b, 1, none⟩ = some v /\ ((w.setCell ⟨B, o, none⟩ p).setCell ⟨B, o', none⟩ q).cell? ⟨b, 2, none⟩ = some x /\ ((w.setCell ⟨B, o, none⟩ p).setCell ⟨B, o', none⟩ q).cell? ⟨b, 3, none⟩ = some y := by
 have e : ∀ k, ((w.setCell ⟨B, o, none⟩ p).setCell ⟨B, o', none⟩ q).cell? ⟨b, k, none⟩ = w.cell? ⟨b, k, none⟩ := fun k => d_ (w := w) (a := ⟨b, k, none⟩) ((s_ _ _ _ _ hne).trans (s_ _ _ _ _ hne));exact ⟨(e 0).trans h.1, (e 1).trans h.2.1, (e 2).trans h.2.2.1, (e 3).trans h.2.2.2⟩
theorem zxz {w : World} {b : Nat} {u0 u1 u2 u3 u4 u5 u6 u7 u8 u9 u10 u11 u12 u13 u14 : Value} {T : TypeId} (h : w.heap[b]? = some (.cells #[u0, u1, u2, u3, u4, u5, u6, u7, u8, u9, u10, u11, u12, u13, u14] T (0, 0))) : c_ w b 6 u6 /\ c_ w b 7 u7 /\ w.frozen? ⟨b, 6, none⟩ = false /\ w.frozen? ⟨b, 7, none⟩ = false := by
 refine ⟨?_, ?_, ?_, ?_⟩ <;> simp [World.cell?, World.frozen?, h]
theorem zkw {okA : ArT -> Prop} : ∀ {l : List NodeT} {i : Nat} {x : NodeT}, okAL okA l -> l[i]? = some x -> okAs okA x
 | [], _, _, _, h => by simp at h
 | t :: l, 0, _, h, hx => by simp at hx; subst hx; exact h.1
 | t :: l, i + 1, _, h, hx => by simp at hx; exact zkw h.2 hx
theorem jL5 (f : NodeT -> NodeT) {l : List NodeT} {i : Nat} {x : NodeT} (hx : l[i]? = some x) : ((l.take i).map f ++ l.drop i)[i]? = some x /\ ((l.take i).map f ++ l.drop i).set i (f x) = (l.take (i + 1)).map f ++ l.drop (i + 1) := by
 have hi := (List.getElem?_eq_some_iff.1 hx).1;have hlen : ((l.take i).map f).length = i := (by simp; omega);have hd : l.drop i = x :: l.drop (i + 1) := by
  rw [List.drop_eq_getElem_cons hi];have : l[i] = x := (List.getElem?_eq_some_iff.1 hx).2;rw [this]
 constructor
 . rw [List.getElem?_append_right (by omega), hlen, Nat.sub_self, hd]; rfl
 . rw [List.set_append_right _ _ (by omega), hlen, Nat.sub_self, hd, List.take_add_one, hx]; simp
def TurnIs (E : World -> Prop) (n0 pt pr pl kc ka : Nat) (lc la : Array Value) (cG : Ad -> Ad × Bool) (aG : ArT -> ArT × Bool) (okA : ArT -> Prop) (n : Nat) : Prop :=
 ∀ (S : Nat -> Prop) (t : NodeT) (a : Option Addr) (cap : Nat) (w : World), E w -> TurnAt w pt pr pl kc ka lc la -> (∀ b, S b -> n0 <= b /\ b < w.heap.size) -> SepIn S w n (.slice a t.args.length cap) t.args -> okAs okA t ->
 Calls Tryz.prog 122 #[jSk t a t.args.length cap, v_ pt, v_ pr, v_ pl] w fun e w' =>
  ∃ a2 c2, e = .returned (jSk (jNY cG aG t) a2 (jNY cG aG t).args.length c2) /\ SepIn S w' n (.slice a2 (jNY cG aG t).args.length c2) (jNY cG aG t).args /\ Wr S w w'
theorem jbu {E : World -> Prop} {n0 pt pr pl kc ka : Nat} {lc la : Array Value} {cG : Ad -> Ad × Bool} {aG : ArT -> ArT × Bool} {okA : ArT -> Prop} (H : RoadIs E n0 kc ka lc la cG aG okA) (hpl : pt < n0 /\ pr < n0 /\ pl < n0) : ∀ n, TurnIs E n0 pt pr pl kc ka lc la cG aG okA n := by
 intro n
 induction n using Nat.strongRecOn with
 | ind n ih =>
  intro S t a cap w hE hTA hS hA hok;have IH := h_ ih;have ec := H.ec;have ea := H.ea;have HH := h_ H;have HPL := h_ hpl;have HS := h_ hS;have hn0 := H.size _ hE;obtain ⟨_, cap', he, hlc, hcm⟩ := hA.own.shape;cases he;obtain ⟨k, o, x, s, bb, f, ⟨⟨r1, r2⟩, rc, rr⟩, ⟨⟨q1, q2⟩, qc, qr⟩, l⟩ := t;simp only [NodeT.args] at hA hlc;obtain ⟨B, hB⟩ := e_ w.heap.size;obtain ⟨w0, hw0⟩ := e_ (w.alloc (.cells (rM k o x s bb f r1 r2 rc rr q1 q2 qc qr (.slice a l.length cap)) 49))
  have hs0 : w0.heap.size = B + 1 := (by rw [<- hw0, <- hB]; simp);obtain ⟨w1, hw1⟩ := e_ (w0.alloc (.cells zN 49));have hs1 : w1.heap.size = B + 2 := (by rw [<- hw1]; simp [hs0]);have hx1 : Xt w w1 := by rw [<- hw1, <- hw0]; exact ((Xt.refl w).alloc _).alloc _
  have HRB : Hid (r_ w1 B (rM k o x s bb f r1 r2 rc rr q1 q2 qc qr (.slice a l.length cap)) 49) := by
   unfold Hid; rw [<- hw1]; exact (Below.heap_alloc w0 _ _ (by omega)).trans (by rw [<- hw0, <- hB]; exact (a_ w _).1)
  have HRR : Hid (r_ w1 (B + 1) zN 49) := by
   unfold Hid; rw [<- hw1, <- hs0]; exact (a_ w0 _).1
  have c14 : w1.cell? ⟨B, 14, none⟩ = some (.slice a l.length cap) := (by have := HRB.out; simp [World.cell?, this]);have HE1 : Hid (E w1) := h_ (H.keep _ _ hE hx1.size (fun b hb => hx1.block b (by omega)));have HT1 : Hid (TurnAt w1 pt pr pl kc ka lc la) := h_ (hTA.keep hpl (fun b hb => hx1.block b (by omega)));have HA1 : Hid (SepIn S w1 n (.slice a l.length cap) l) := h_ (hA.keep (fun b hb hlt => hx1.block b hlt));have HW1 : Hid (Wr S w w1) := h_ (Wr.of_xt hx1);have HOK : Hid (okAs okA (.mk k o x s bb f ⟨(r1, r2), rc, rr⟩ ⟨(q1, q2), qc, qr⟩ l)) := h_ hok
  have hnB : Hid (¬ S B /\ ¬ S (B + 1)) := ⟨fun e => by have := (hS _ e).2; omega, fun e => by have := (hS _ e).2; omega⟩;have HBw : Hid (w.heap.size = B) := hB;clear hx1 hA hTA hE hS H hok ih hpl;change Calls Tryz.prog 122 #[.agg (rM k o x s bb f r1 r2 rc rr q1 q2 qc qr (.slice a l.length cap)), v_ pt, v_ pr, v_ pl] w _;go_enter Tryz.func122, Tryz.ntmps122;go_wp2_with fail;clear hw0 hw1
  go_loopw [14] (fun s14 wr => ∃ i : Nat, i <= l.length /\ s14 = .int .i64 i /\ Hid (Wr S w1 wr) /\ Hid (SepIn S wr n (.slice a l.length cap) ((l.take i).map (jNY cG aG) ++ l.drop i))) (fun s14 _ => l.length - (intOf s14).toNat)
  case atStart => exact ⟨0, Nat.zero_le _, rfl, Wr.refl _ _, by simpa using HA1⟩
  case round =>
   clear HA1;obtain ⟨i, hi, rfl, HW, HA⟩ := hrel;have hszr := HW.out.size;have hrow := (HW.out.block B (by omega) hnB.out.1).trans HRB.out;have d14 : wr.cell? ⟨B, 14, none⟩ = some (.slice a l.length cap) := (by simp [World.cell?, hrow]);have HEr : Hid (E wr) := h_ (HH.out.keep _ _ HE1.out hszr (fun b hb => HW.out.block b (by omega) (fun e => by have := (HS.out b e).1; omega)));have HTr : Hid (TurnAt wr pt pr pl kc ka lc la) := h_ (HT1.out.keep HPL.out (fun b hb => HW.out.block b (by omega) (fun e => by have := (HS.out b e).1; omega)));by_cases hlt : i < l.length
   . obtain ⟨u, hu⟩ : ∃ u, l[i]? = some u := ⟨l[i], by simp [hlt]⟩;obtain ⟨hst1, hst2⟩ := jL5 (jNY cG aG) hu;obtain ⟨n', b, a', c', T, rfl, rfl, hb, hblt, hTS, hNu, hSu, hthere, hafter⟩ := HA.out.elem hst1;have hki : (i : Int) < (l.length : Int) := (by omega);have HOKu := h_ (zkw HOK.out.2 hu);have HC := h_ (IH.out n' (by omega) T u a' c' wr.drew (HH.out.keep _ _ HEr.out (Nat.le_refl _) (fun _ _ => rfl)) (HTr.out.keep HPL.out (fun _ _ => rfl)) (fun c hc => ⟨(HS.out c (hTS c hc).1).1, Nat.lt_of_lt_of_le (Nat.lt_of_lt_of_le (HS.out c (hTS c hc).1).2 (by omega)) hszr⟩) (SepIn.keep (w := wr) (w' := wr.drew) (fun _ _ _ => rfl) hSu) HOKu.out)
     have HHold : Hid (∀ W, Wr S wr W -> (c_ W B 14 (.slice (some ⟨b, 0, none⟩) l.length cap) /\ c_ W pt 0 (zfN pt pr pl))) := h_ fun W hW => by
      exact ⟨(d_ (w := wr) (a := ⟨B, 14, none⟩) (hW.block B (by omega) hnB.out.1)).trans d14, (d_ (w := wr) (a := ⟨pt, 0, none⟩) (hW.block pt (by have := HPL.out.1; omega) fun e => by have := (HS.out _ e).1; have := HPL.out.1; omega)).trans HTr.out.turn⟩
     have HST2 := h_ hst2;have HAF := h_ hafter;have HTH := h_ hthere;clear hst1 hst2 hafter hthere hSu hu d14 hrow;obtain ⟨e0, e1, e2, e3, e4, e5, e6, e7, e8, e9, e10, e11, e12, e13, e14⟩ := hNu;go_wp2_with fail;refine wp_region_held_drew (S := fun W => c_ W B 14 (.slice (some ⟨b, 0, none⟩) l.length cap) /\ c_ W pt 0 (zfN pt pr pl) ) (by kernel_rfl) (HHold.out _ (Wr.of_xt (Xt.refl wr).drew)) (fun hHeld => ?_);refine tkS 0 ?_;refine tkS 1 ?_;refine tkS 2 ?_;refine tkS 3 ?_;refine tkS 4 ?_;refine tkS 5 ?_;refine tkS 6 ?_;refine tkS 7 ?_;refine rdH 8 (fun K hK => ?_);go_simp;refine ko hK hHeld fun hHeld1 => ?_;clear hK K
     refine rdH 9 (fun K hK => ?_);go_simp;refine (HC.out).mono ?_;rintro e w6 ⟨a2, c2, rfl, hS6, hW6⟩;have hW6r : Wr T wr w6 := (Wr.of_xt (Xt.refl wr).drew).trans hW6;refine ko hK (HHold.out _ (hW6r.weak fun c hc => (hTS c hc).1)) fun hHeld2 => ?_;clear hK K;refine tkS 10 ?_;refine rdH 11 (fun K hK => ?_);rw [if_pos (by rfl)];obtain ⟨hS7, hW7⟩ := HAF.out w6 (jNY cG aG u) (.slice a2 (jNY cG aG u).args.length c2) hW6r hS6;refine wp_store_mid 49 _ _ rfl b (i * 15) (nodeC (jNY cG aG u) (.slice a2 (jNY cG aG u).args.length c2)).toArray rfl rfl (HTH.out _ hW6r) (by kernel_rfl) (n_ (jrw _ _ rfl)) ?_;refine hK.out _ _ (HHold.out _ hW7) (fun hHeld3 => ?_);clear hK K
     refine z_ (by kernel_rfl) ?_ _;go_wp2_with fail;go_roundw
     case rel => exact ⟨i + 1, by omega, by go_num, HW.out.trans hW7, by rw [<- HST2.out]; exact hS7⟩
     case measure => simp [intOf]; omega
   . have he : i = l.length := (by omega);subst he;have HA' : Hid (SepIn S wr n (.slice a l.length cap) (l.map (jNY cG aG))) := (by unfold Hid; have := HA.out; simpa using this);have hrr := (HW.out.block (B + 1) (by omega) hnB.out.2).trans HRR.out;have HWw := h_ (HW1.out.trans HW.out);obtain ⟨ht, hc0, hc1, hlo⟩ := HTr.out;clear HA hi hlt d14;by_cases h5 : k = 5
     . subst h5;have HCE := h_ (HH.out.cell (r1, r2) wr HEr.out);obtain ⟨z, hz⟩ := e_ (cG (r1, r2));simp only [hz] at HCE;have HZ := h_ hz;clear hz;have d0 : wr.cell? ⟨B, 0, none⟩ = some (.int .i64 5) := (by simp [World.cell?, hrow]);have d6 : wr.cell? ⟨B, 6, none⟩ = some (.int .i64 r1) := (by simp [World.cell?, hrow]);have d7 : wr.cell? ⟨B, 7, none⟩ = some (.int .i64 r2) := (by simp [World.cell?, hrow]);obtain ⟨⟨z1, z2⟩, zo⟩ := z
       obtain ⟨hEA, hEB⟩ : (∀ W, Xt wr W -> W.heap[B]? = some (.cells #[.int .i64 5, .int .i64 o, .float .f64 x, s, bb, f, r1, r2, rc, rr, q1, q2, qc, qr, .slice a l.length cap] 49 (0, 0))) /\ (∀ W, Xt wr W -> W.heap[B + 1]? = some (.cells zN 49 (0, 0))) := ⟨fun W hx => rowX hx hrow, fun W hx => rowX hx hrr⟩;have HEA := h_ hEA;have HEB := h_ hEB
       have HLO := h_ (fun W (hx : Xt wr W) => rowX hx hlo);clear hEA hEB;cases zo
       . go_wp2_with (first
          | (refine (HCE.out).mono ?_; rintro e w2 ⟨rfl, hx2⟩; obtain ⟨wA, hwA⟩ := e_ (w2.alloc (.cells #[z1, z2] 24)); have HXA : Hid (Xt wr wA) := (by unfold Hid; rw [<- hwA]; exact hx2.alloc _); clear hx2)
          | (refine x_ (P := Tryz.prog) rfl 49 _ rfl pl rfl 49 _ (0, 0) _ (HLO.out _ HXA.out) Tryz.underlying49 rfl (by kernel_rfl) ?_)
          | (refine w_ (P := Tryz.prog) rfl 49 _ _ rfl (B + 1) _ rfl rfl 49 _ (HEB.out _ HXA.out) (by kernel_rfl) (by kernel_rfl) (n_ (jrw lostT (.slice none 0 0) rfl)) ?_))
         (try simp only [Exit.inBlock, Exit.then])
         refine p_ (v := .agg (nodeC lostT (.slice none 0 0)).toArray) (t_ rfl _ _ (B + 1) 49 _ (0, 0) _ rfl (setRow_heap _ _ _ _ _ _ (HEB.out _ HXA.out)) Tryz.underlying49 rfl (by kernel_rfl)) rfl ?_;have hTT : jNY cG aG (.mk 5 o x s bb f ⟨(r1, r2), rc, rr⟩ ⟨(q1, q2), qc, qr⟩ l) = lostT := (by rw [jNY]; simp [yip, HZ.out]);rw [hTT];exact ⟨none, 0, rfl, SepIn.nil n, HWw.out.side ((Wr.of_xt HXA.out).trans (Wr.row _ (Or.inr rfl))) (S2 := Two B) (fun c hc => by have := HBw.out; rcases hc with e | e <;> omega)⟩
       . go_wp2_with (first
          | (refine (HCE.out).mono ?_; rintro e w2 ⟨rfl, hx2⟩; obtain ⟨wA, hwA⟩ := e_ (w2.alloc (.cells #[z1, z2] 24)); have HXA : Hid (Xt wr wA) := (by unfold Hid; rw [<- hwA]; exact hx2.alloc _); obtain ⟨n0, n1, _, _⟩ := zxi (b := w2.heap.size) (w := wA) (by rw [<- hwA]; exact (a_ w2 _).1); have hrA := HEA.out _ HXA.out; obtain ⟨d6, d7, g6, g7⟩ := zxz hrA; clear hx2)
          | (refine x_ (P := Tryz.prog) rfl 49 _ rfl B rfl 49 (nodeC (.mk 5 o x s bb f ⟨(z1, z2), rc, rr⟩ ⟨(q1, q2), qc, qr⟩ l) (.slice a l.length cap)).toArray (0, 0) _ (ysv (ysv (HEA.out _ HXA.out) 6 _) 7 _) Tryz.underlying49 rfl (by kernel_rfl) ?_)
          | (refine w_ (P := Tryz.prog) rfl 49 _ _ rfl (B + 1) _ rfl rfl 49 _ ((s_ _ _ _ _ (by simp)).trans ((s_ _ _ _ _ (by simp)).trans (HEB.out _ HXA.out))) (by kernel_rfl) (by kernel_rfl) (n_ (jrw (.mk 5 o x s bb f ⟨(z1, z2), rc, rr⟩ ⟨(q1, q2), qc, qr⟩ l) (.slice a l.length cap) rfl)) ?_))
         (try simp only [Exit.inBlock, Exit.then])
         refine p_ (v := .agg #[.int .i64 5, .int .i64 o, .float .f64 x, s, bb, f, z1, z2, rc, rr, q1, q2, qc, qr, .slice a l.length cap]) (t_ rfl _ _ (B + 1) 49 _ (0, 0) _ rfl (setRow_heap _ _ _ _ _ _ ((s_ _ _ _ _ (by simp)).trans ((s_ _ _ _ _ (by simp)).trans (HEB.out _ HXA.out)))) Tryz.underlying49 rfl (by kernel_rfl)) rfl ?_;have hTT : jNY cG aG (.mk 5 o x s bb f ⟨(r1, r2), rc, rr⟩ ⟨(q1, q2), qc, qr⟩ l) = .mk 5 o x s bb f ⟨(z1, z2), rc, rr⟩ ⟨(q1, q2), qc, qr⟩ (l.map (jNY cG aG)) := (by rw [jNY, y35]; simp [yip, HZ.out]);rw [hTT]
         obtain ⟨f1, f2⟩ := j2E (W := ((wA.setCell ⟨B, 6, none⟩ (.int .i64 z1)).setCell ⟨B, 7, none⟩ (.int .i64 z2)).setRow (B + 1) (nodeC (.mk 5 o x s bb f ⟨(z1, z2), rc, rr⟩ ⟨(q1, q2), qc, qr⟩ l) (.slice a l.length cap)).toArray) HA'.out HWw.out HBw.out (fun b hb => by have := (HS.out b hb).2; have := HBw.out; omega) ((Wr.of_xt HXA.out).trans ((Wr.cell _ (Or.inl rfl)).trans ((Wr.cell _ (Or.inl rfl)).trans (Wr.row _ (Or.inr rfl)))));refine ⟨a, cap, ?_, ?_, f2⟩
         . simp [NodeT.args, NodeT.kind, NodeT.op, NodeT.x, NodeT.s, NodeT.b, NodeT.f, NodeT.ref, NodeT.to]
         . simp only [NodeT.args, List.length_map]; exact f1
     . by_cases h6 : k = 6
       . subst h6;obtain ⟨hEA, hEB⟩ : (∀ W, Xt wr W -> W.heap[B]? = some (.cells #[.int .i64 6, .int .i64 o, .float .f64 x, s, bb, f, r1, r2, rc, rr, q1, q2, qc, qr, .slice a l.length cap] 49 (0, 0))) /\ (∀ W, Xt wr W -> W.heap[B + 1]? = some (.cells zN 49 (0, 0))) := ⟨fun W hx => rowX hx hrow, fun W hx => rowX hx hrr⟩;have HEA := h_ hEA;have HEB := h_ hEB
         have HLO := h_ (fun W (hx : Xt wr W) => rowX hx hlo);clear hEA hEB;have HCE := h_ (HH.out.area ⟨r1, r2, q1, q2⟩ wr (HOK.out.1 rfl) HEr.out);obtain ⟨z, hz⟩ := e_ (aG ⟨r1, r2, q1, q2⟩);simp only [hz] at HCE;have HZ := h_ hz;clear hz;have d0 : wr.cell? ⟨B, 0, none⟩ = some (.int .i64 6) := (by simp [World.cell?, hrow]);obtain ⟨d6, d7, _, _⟩ := zxz hrow;obtain ⟨d10, d11, _, _⟩ := yDt hrow;obtain ⟨⟨z1, z2, z3, z4⟩, zo⟩ := z;cases zo
         . go_wp2_with (first
            | (refine (HCE.out).mono ?_; rintro e w2 ⟨rfl, hx2⟩; obtain ⟨wA, hwA⟩ := e_ (w2.alloc (.cells #[z1, z2, z3, z4] 26)); have HXA : Hid (Xt wr wA) := (by unfold Hid; rw [<- hwA]; exact hx2.alloc _); clear hx2)
            | (refine x_ (P := Tryz.prog) rfl 49 _ rfl pl rfl 49 _ (0, 0) _ (HLO.out _ HXA.out) Tryz.underlying49 rfl (by kernel_rfl) ?_)
            | (refine w_ (P := Tryz.prog) rfl 49 _ _ rfl (B + 1) _ rfl rfl 49 _ (HEB.out _ HXA.out) (by kernel_rfl) (by kernel_rfl) (n_ (jrw lostT (.slice none 0 0) rfl)) ?_))
           (try simp only [Exit.inBlock, Exit.then])
           refine p_ (v := .agg (nodeC lostT (.slice none 0 0)).toArray) (t_ rfl _ _ (B + 1) 49 _ (0, 0) _ rfl (setRow_heap _ _ _ _ _ _ (HEB.out _ HXA.out)) Tryz.underlying49 rfl (by kernel_rfl)) rfl ?_;have hTT : jNY cG aG (.mk 6 o x s bb f ⟨(r1, r2), rc, rr⟩ ⟨(q1, q2), qc, qr⟩ l) = lostT := (by rw [jNY]; simp [yip, arOf, HZ.out]);rw [hTT];exact ⟨none, 0, rfl, SepIn.nil n, HWw.out.side ((Wr.of_xt HXA.out).trans (Wr.row _ (Or.inr rfl))) (S2 := Two B) (fun c hc => by have := HBw.out; rcases hc with e | e <;> omega)⟩
         . go_wp2_with (first
            | (refine (HCE.out).mono ?_; rintro e w2 ⟨rfl, hx2⟩; obtain ⟨wA, hwA⟩ := e_ (w2.alloc (.cells #[z1, z2, z3, z4] 26)); have HXA : Hid (Xt wr wA) := (by unfold Hid; rw [<- hwA]; exact hx2.alloc _); obtain ⟨⟨y0, y1, y2, y3⟩, _⟩ := jr0 (b := w2.heap.size) (w := wA) (by rw [<- hwA]; exact (a_ w2 _).1); have hrA := HEA.out _ HXA.out; obtain ⟨d6, d7, g6, g7⟩ := zxz hrA; obtain ⟨d10, d11, g10, g11⟩ := yDt hrA; have hneB : w2.heap.size ≠ B := (by have := hx2.size; omega); clear hx2))
           refine wp_region_held_drew (S := fun W => c_ W w2.heap.size 0 z1 /\ c_ W w2.heap.size 1 z2 /\ c_ W w2.heap.size 2 z3 /\ c_ W w2.heap.size 3 z4) (by kernel_rfl) ⟨y0, y1, y2, y3⟩ (fun hHeld => ?_);refine tkS 0 ?_;refine tkS 1 ?_;refine tkS 2 ?_;refine tkS 3 ?_;refine tkS 4 ?_;refine tkS 5 ?_;refine rdH 6 (fun K hK => ?_);go_simp;refine ko hK (yC5 hneB hHeld) fun hHeld6 => ?_;clear hK K;refine tkS 7 ?_;refine tkS 8 ?_;refine rdH 9 (fun K hK => ?_);go_simp;refine hK.out _ _ (yC5 hneB hHeld6) (fun hHeld9 => ?_);clear hK K
           refine z_ (by kernel_rfl) ?_ _;have hB4 : (((((wA.setCell ⟨B, 6, none⟩ (.int .i64 z1)).setCell ⟨B, 7, none⟩ (.int .i64 z2)).setCell ⟨B, 10, none⟩ (.int .i64 z3)).setCell ⟨B, 11, none⟩ (.int .i64 z4)).drew).heap[B]? = some (.cells (nodeC (.mk 6 o x s bb f ⟨(z1, z2), rc, rr⟩ ⟨(z3, z4), qc, qr⟩ l) (.slice a l.length cap)).toArray 49 (0, 0)) := ysv (ysv (ysv (ysv (HEA.out _ HXA.out) 6 _) 7 _) 10 _) 11 _
           have hR4 : (((((wA.setCell ⟨B, 6, none⟩ (.int .i64 z1)).setCell ⟨B, 7, none⟩ (.int .i64 z2)).setCell ⟨B, 10, none⟩ (.int .i64 z3)).setCell ⟨B, 11, none⟩ (.int .i64 z4)).drew).heap[B + 1]? = some (.cells zN 49 (0, 0)) := (s_ _ _ _ _ (by simp)).trans ((s_ _ _ _ _ (by simp)).trans ((s_ _ _ _ _ (by simp)).trans ((s_ _ _ _ _ (by simp)).trans (HEB.out _ HXA.out))))
           have hWW : Wr (Two B) wr (((((wA.setCell ⟨B, 6, none⟩ (.int .i64 z1)).setCell ⟨B, 7, none⟩ (.int .i64 z2)).setCell ⟨B, 10, none⟩ (.int .i64 z3)).setCell ⟨B, 11, none⟩ (.int .i64 z4)).drew) := (Wr.of_xt HXA.out).trans ((Wr.cell _ (Or.inl rfl)).trans ((Wr.cell _ (Or.inl rfl)).trans ((Wr.cell _ (Or.inl rfl)).trans ((Wr.cell _ (Or.inl rfl)).trans (Wr.of_xt (Xt.refl _).drew)))));generalize ((((wA.setCell ⟨B, 6, none⟩ (.int .i64 z1)).setCell ⟨B, 7, none⟩ (.int .i64 z2)).setCell ⟨B, 10, none⟩ (.int .i64 z3)).setCell ⟨B, 11, none⟩ (.int .i64 z4)).drew = w5 at hB4 hR4 hWW ⊢;have HB4 := h_ hB4;have HR4 := h_ hR4;have HWW := h_ hWW
           clear hB4 hR4 hWW y0 y1 y2 y3 d6 d7 d10 d11 g6 g7 g10 g11 hrA hHeld hHeld6 hHeld9;go_wp2_with (first
            | (refine x_ (P := Tryz.prog) rfl 49 _ rfl B rfl 49 _ (0, 0) _ HB4.out Tryz.underlying49 rfl (by kernel_rfl) ?_)
            | (refine w_ (P := Tryz.prog) rfl 49 _ _ rfl (B + 1) _ rfl rfl 49 _ HR4.out (by kernel_rfl) (by kernel_rfl) (n_ (jrw (.mk 6 o x s bb f ⟨(z1, z2), rc, rr⟩ ⟨(z3, z4), qc, qr⟩ l) (.slice a l.length cap) rfl)) ?_))
           (try simp only [Exit.inBlock, Exit.then])
           refine p_ (v := .agg (nodeC (.mk 6 o x s bb f ⟨(z1, z2), rc, rr⟩ ⟨(z3, z4), qc, qr⟩ l) (.slice a l.length cap)).toArray) (t_ rfl _ _ (B + 1) 49 _ (0, 0) _ rfl (setRow_heap _ _ _ _ _ _ HR4.out) Tryz.underlying49 rfl (by kernel_rfl)) rfl ?_;have hTT : jNY cG aG (.mk 6 o x s bb f ⟨(r1, r2), rc, rr⟩ ⟨(q1, q2), qc, qr⟩ l) = .mk 6 o x s bb f ⟨(z1, z2), rc, rr⟩ ⟨(z3, z4), qc, qr⟩ (l.map (jNY cG aG)) := (by rw [jNY, y35]; simp [yip, arOf, HZ.out]);rw [hTT]
           obtain ⟨f1, f2⟩ := j2E (W := w5.setRow (B + 1) (nodeC (.mk 6 o x s bb f ⟨(z1, z2), rc, rr⟩ ⟨(z3, z4), qc, qr⟩ l) (.slice a l.length cap)).toArray) HA'.out HWw.out HBw.out (fun b hb => by have := (HS.out b hb).2; have := HBw.out; omega) (HWW.out.trans (Wr.row _ (Or.inr rfl)));refine ⟨a, cap, ?_, ?_, f2⟩
           . simp [nodeC, NodeT.args, NodeT.kind, NodeT.op, NodeT.x, NodeT.s, NodeT.b, NodeT.f, NodeT.ref, NodeT.to]
           . simp only [NodeT.args, List.length_map]; exact f1
       . have d0 : wr.cell? ⟨B, 0, none⟩ = some (.int .i64 k) := (by simp [World.cell?, hrow]);have h5b : (k == 5) = false := (by simpa using h5);have h6b : (k == 6) = false := (by simpa using h6);have HRB2 := h_ hrow;have HRR2 := h_ hrr;clear hrow hrr hc0 hc1 hlo ht;go_wp2_with (first
             | (refine x_ (P := Tryz.prog) rfl 49 _ rfl B rfl 49 _ (0, 0) _ HRB2.out Tryz.underlying49 rfl (by kernel_rfl) ?_)
             | (refine w_ (P := Tryz.prog) rfl 49 _ _ rfl (B + 1) _ rfl rfl 49 _ HRR2.out (by kernel_rfl) (by kernel_rfl) (n_ (jrw (.mk k o x s bb f ⟨(r1, r2), rc, rr⟩ ⟨(q1, q2), qc, qr⟩ l) (.slice a l.length cap) rfl)) ?_))
         (try simp only [Exit.inBlock, Exit.then])
         refine p_ (v := .agg (nodeC (.mk k o x s bb f ⟨(r1, r2), rc, rr⟩ ⟨(q1, q2), qc, qr⟩ l) (.slice a l.length cap)).toArray) (t_ rfl _ _ (B + 1) 49 _ (0, 0) _ rfl (setRow_heap _ _ _ _ _ _ HRR2.out) Tryz.underlying49 rfl (by kernel_rfl)) rfl ?_;have hTT : jNY cG aG (.mk k o x s bb f ⟨(r1, r2), rc, rr⟩ ⟨(q1, q2), qc, qr⟩ l) = .mk k o x s bb f ⟨(r1, r2), rc, rr⟩ ⟨(q1, q2), qc, qr⟩ (l.map (jNY cG aG)) := (by rw [jNY, y35]; simp [yip, h5, h6]);rw [hTT]
         obtain ⟨f1, f2⟩ := j2E (W := wr.setRow (B + 1) (nodeC (.mk k o x s bb f ⟨(r1, r2), rc, rr⟩ ⟨(q1, q2), qc, qr⟩ l) (.slice a l.length cap)).toArray) HA'.out HWw.out HBw.out (fun b hb => by have := (HS.out b hb).2; have := HBw.out; omega) (Wr.row _ (Or.inr rfl));refine ⟨a, cap, ?_, ?_, f2⟩
         . simp [nodeC, NodeT.args, NodeT.kind, NodeT.op, NodeT.x, NodeT.s, NodeT.b, NodeT.f, NodeT.ref, NodeT.to]
         . simp only [NodeT.args, List.length_map]; exact f1
end
end Go.Proofs.YtdoeejhdenifpaaGreatDoor
