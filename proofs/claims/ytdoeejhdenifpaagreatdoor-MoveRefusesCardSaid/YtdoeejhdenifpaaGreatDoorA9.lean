import Derived.Test.YtdoeejhdenifpaaGreatDoorZ1
import Derived.Test.YtdoeejhdenifpaaGreatDoorM6
import Derived.Test.YtdoeejhdenifpaaGreatDoorV23
import Derived.Test.YtdoeejhdenifpaaGreatDoorA4
import Derived.Test.YtdoeejhdenifpaaGreatDoorA5
import Derived.Deep.MidRow
import Derived.Test.YtdoeejhdenifpaaGreatDoorA8
/- move: a formula whose references have gone a road (made by mkm7.py). -/
namespace Go.Proofs.YtdoeejhdenifpaaGreatDoor
open Go.RowKit Go.Sort
theorem RoadIs.up {E : World → Prop} {n0 kc ka : Nat} {lc la : Array Value} {cG : Ad → Ad × Bool} {aG : ArT → ArT × Bool} {okA : ArT → Prop} (h : RoadIs E n0 kc ka lc la cG aG okA) {m : Nat} (hm : n0 ≤ m) : RoadIs (fun W => E W ∧ m ≤ W.heap.size) m kc ka lc la cG aG okA :=
 ⟨fun w w' hE hs hk => ⟨h.keep w w' hE.1 hs (fun b hb => hk b (by omega)), by have := hE.2; omega⟩, fun w hE => hE.2, h.ec, h.ea, fun a w hE => h.cell a w hE.1, fun x w ho hE => h.area x w ho hE.1⟩
mutual
theorem okAs_copy (okA : ArT → Prop) : ∀ t, okAs okA t → okAs okA (copyT t)
 | .mk _k _o _x _s _b _f _r _q l, h => ⟨h.1, okAL_copy okA l h.2⟩
theorem okAL_copy (okA : ArT → Prop) : ∀ l, okAL okA l → okAL okA (copyL l)
 | [], _ => trivial
 | t :: l, h => ⟨okAs_copy okA t h.1, okAL_copy okA l h.2⟩
end
theorem hz6 {w w' : World} {p : Nat} {v : Value} (hx : Xt w w') (h : w.cell? ⟨p, 0, none⟩ = some v) : w'.cell? ⟨p, 0, none⟩ = some v := ((hx.cells).1 _ _ (World.block_lt_of_cell? w _ h)).trans h
theorem hrow6 {w : World} {B : Nat} {v : Value} {cs : Array Value} (h : w.cell? ⟨B + 1 + 1 + 1 + 1, 0, none⟩ = some v) : (w.setRow (B + 1 + 1) cs).cell? ⟨B + 1 + 1 + 1 + 1, 0, none⟩ = some v := (World.cell?_of_block (w := w) (a := ⟨B + 1 + 1 + 1 + 1, 0, none⟩) (setRow_other w _ _ _ (by show B + 1 + 1 + 1 + 1 ≠ B + 1 + 1; omega))).trans h
set_option maxRecDepth 100000 in
set_option maxHeartbeats 4000000 in
theorem turned_any {E : World → Prop} {n0 kc ka : Nat} {lc la : Array Value} {cG : Ad → Ad × Bool} {aG : ArT → ArT × Bool} {okA : ArT → Prop} (H : RoadIs E n0 kc ka lc la cG aG okA) (n : Nat) (t : NodeT) (a : Option Addr) (cap : Nat) (w : World) (hE : E w) (hsm : smallT t) (hin : ArgsIn w n (.slice a t.args.length cap) t.args) (hok : okAs okA t) :
    Calls Tryz.prog 80 #[roadW kc ka lc la, nodeV t a t.args.length cap] w fun e w' =>
     ∃ a2 c2, e = .returned (nodeV (turnT cG aG (copyT t)) a2 (turnT cG aG (copyT t)).args.length c2) ∧ SepIn (fun b => w.heap.size ≤ b ∧ b < w'.heap.size) w' n (.slice a2 (turnT cG aG (copyT t)).args.length c2) (turnT cG aG (copyT t)).args ∧ Xt w w' := by
 have hn0 := H.size _ hE
 obtain ⟨k, o, x, s, bb, f, ⟨⟨r1, r2⟩, rc, rr⟩, ⟨⟨q1, q2⟩, qc, qr⟩, l⟩ := t
 have HC0 := Lib.hid (fcopyS_any n (.mk k o x s bb f ⟨(r1, r2), rc, rr⟩ ⟨(q1, q2), qc, qr⟩ l) a cap)
 have HSM := Lib.hid hsm
 have HH := Lib.hid H
 simp only [NodeT.args] at hin
 change Calls Tryz.prog 80 #[.agg #[.func (.func kc) #[] lc, .func (.func ka) #[] la], .agg #[.int .i64 k, .int .i64 o, .float .f64 x, .string s, .bool bb, .int .i64 f, .int .i64 r1, .int .i64 r2, .bool rc, .bool rr, .int .i64 q1, .int .i64 q2, .bool qc, .bool qr, .slice a l.length cap]] w _
 go_enter Tryz.func80, Tryz.ntmps80
 go_wp2_with fail
 obtain ⟨B, hB⟩ : ∃ B, w.heap.size = B := ⟨_, rfl⟩
 rw [hB]
 obtain ⟨w0, hw0⟩ : ∃ w0, w.alloc (.cells #[.func (.func kc) #[] lc, .func (.func ka) #[] la] 97) = w0 := ⟨_, rfl⟩
 rw [hw0]
 have hs0 : w0.heap.size = B + 1 := by rw [← hw0, ← hB]; simp
 obtain ⟨w1, hw1⟩ : ∃ w1, w0.alloc (.cells #[.int .i64 k, .int .i64 o, .float .f64 x, .string s, .bool bb, .int .i64 f, .int .i64 r1, .int .i64 r2, .bool rc, .bool rr, .int .i64 q1, .int .i64 q2, .bool qc, .bool qr, .slice a l.length cap] 49) = w1 := ⟨_, rfl⟩
 rw [hw1]
 have hs1 : w1.heap.size = B + 1 + 1 := by rw [← hw1]; simp [hs0]
 obtain ⟨w2, hw2⟩ : ∃ w2, w1.alloc (.cells #[.int .i64 0, .int .i64 0, .float .f64 0, .string ⟨#[]⟩, .bool false, .int .i64 0, .int .i64 0, .int .i64 0, .bool false, .bool false, .int .i64 0, .int .i64 0, .bool false, .bool false, .slice none 0 0] 49) = w2 := ⟨_, rfl⟩
 rw [hw2]
 have hs2 : w2.heap.size = B + 1 + 1 + 1 := by rw [← hw2]; simp [hs1]
 obtain ⟨w3, hw3⟩ : ∃ w3, w2.alloc (.cells #[.int .i64 4, .int .i64 0, .float .f64 0, .string ⟨#[]⟩, .bool false, .int .i64 4, .int .i64 0, .int .i64 0, .bool false, .bool false, .int .i64 0, .int .i64 0, .bool false, .bool false, .slice none 0 0] 49) = w3 := ⟨_, rfl⟩
 rw [hw3]
 have hs3 : w3.heap.size = B + 1 + 1 + 1 + 1 := by rw [← hw3]; simp [hs2]
 obtain ⟨w4, hw4⟩ : ∃ w4, w3.alloc (.cells #[turnFV (B + 1 + 1 + 1 + 1) B (B + 1 + 1 + 1)] 126) = w4 := ⟨_, rfl⟩
 rw [hw4]
 have hs4 : w4.heap.size = B + 1 + 1 + 1 + 1 + 1 := by rw [← hw4]; simp [hs3]
 have hx01 : Xt w0 w4 := by rw [← hw4, ← hw3, ← hw2, ← hw1]; exact ((((Xt.refl _).alloc _).alloc _).alloc _).alloc _
 have hx12 : Xt w1 w4 := by rw [← hw4, ← hw3, ← hw2]; exact (((Xt.refl _).alloc _).alloc _).alloc _
 have hx23 : Xt w2 w4 := by rw [← hw4, ← hw3]; exact ((Xt.refl _).alloc _).alloc _
 have hx34 : Xt w3 w4 := by rw [← hw4]; exact (Xt.refl _).alloc _
 have hx : Xt w w4 := Xt.trans (by rw [← hw0]; exact (Xt.refl _).alloc _) hx01
 have r0 := rowX hx01 (by rw [← hw0]; exact (MapKept.heap_alloc w _).1)
 have r1' := rowX hx12 (by rw [← hw1]; exact (MapKept.heap_alloc w0 _).1)
 have r2' := rowX hx23 (by rw [← hw2]; exact (MapKept.heap_alloc w1 _).1)
 have r3 := rowX hx34 (by rw [← hw3]; exact (MapKept.heap_alloc w2 _).1)
 have r4 : w4.heap[w3.heap.size]? = some (.cells #[turnFV (B + 1 + 1 + 1 + 1) B (B + 1 + 1 + 1)] 126 (0, 0)) := by rw [← hw4]; exact (MapKept.heap_alloc w3 _).1
 rw [hB] at r0
 rw [hs0] at r1'
 rw [hs1] at r2'
 rw [hs2] at r3
 rw [hs3] at r4
 have HTA : Hid (TurnAt w4 (B + 1 + 1 + 1 + 1) B (B + 1 + 1 + 1) kc ka lc la) := ⟨by simp [World.cell?, r4], by simp [World.cell?, r0], by simp [World.cell?, r0], r3⟩
 have HR1 := Lib.hid r1'
 have HR2 := Lib.hid r2'
 have HX := Lib.hid hx
 have HE4 : Hid (E w4 ∧ B + 5 ≤ w4.heap.size) := ⟨H.keep _ _ hE hx.size (fun b hb => hx.block b (by omega)), by omega⟩
 have HIN : Hid (ArgsIn w4.drew n (.slice a l.length cap) l) := hin.xt hx.drew
 have HOK : Hid (okAs okA (copyT (.mk k o x s bb f ⟨(r1, r2), rc, rr⟩ ⟨(q1, q2), qc, qr⟩ l))) := okAs_copy okA _ hok
 clear r0 r1' r2' r3 r4 hx hx01 hx12 hx23 hx34 hE hin hok hsm H
 clear hw0 hw1 hw2 hw3 hw4
 have hz := HTA.out.turn
 have hz' : w4.drew.cell? ⟨B + 1 + 1 + 1 + 1, 0, none⟩ = some (turnFV (B + 1 + 1 + 1 + 1) B (B + 1 + 1 + 1)) := hz
 refine wp_region_held_drew (S := fun W => W.cell? ⟨B + 1 + 1 + 1 + 1, 0, none⟩ = some (turnFV (B + 1 + 1 + 1 + 1) B (B + 1 + 1 + 1))) (by kernel_rfl) hz' (fun hHeld => ?_)
 refine tkH 0 (turnFV (B + 1 + 1 + 1 + 1) B (B + 1 + 1 + 1)) ?_ ?_
 · intro W hSw; (try dsimp only at hSw); go_simp; first | done | with_reducible rfl
 try simp only [Act.put, nm]
 refine rdH 1 (fun K hK => ?_)
 rw [if_pos (by rfl)]
 refine wp_load_row (P := Tryz.prog) 49 _ rfl (B + 1) rfl 49 _ (0, 0) _ HR1.out Tryz.underlying49 rfl (by kernel_rfl) ?_
 refine hK.out _ _ hHeld (fun hHeld1 => ?_)
 clear hK K
 try simp only [Act.put, nm]
 refine rdH 2 (fun K hK => ?_)
 go_simp
 refine (HC0.out w4.drew HSM.out HIN.out).mono ?_
 rintro e w5 ⟨a', rfl, hS5, hx5⟩
 have HX5 : Hid (Xt w4 w5) := Lib.hid (Xt.trans (Xt.refl w4).drew hx5)
 have HT5 := Lib.hid (HTA.out.keep (n0 := B + 5) (w' := w5) (by omega) (fun b hb => HX5.out.block b (by omega)))
 have HE5 := Lib.hid ((HH.out.up (m := B + 5) (by omega)).keep _ w5 HE4.out HX5.out.size (fun b hb => HX5.out.block b (by omega)))
 have HTC := Lib.hid (turn1_any (HH.out.up (m := B + 5) (by omega)) (pt := B + 1 + 1 + 1 + 1) (pr := B) (pl := B + 1 + 1 + 1) (by omega) n (fun b => w4.heap.size ≤ b ∧ b < w5.heap.size) (copyT (.mk k o x s bb f ⟨(r1, r2), rc, rr⟩ ⟨(q1, q2), qc, qr⟩ l)) a' l.length w5 HE5.out HT5.out (fun b hb => by omega) (by rw [copyT_len, copyT_args]; exact hS5) HOK.out)
 rw [copyT_len] at HTC
 refine hK.out _ _ HT5.out.turn (fun hHeld2 => ?_)
 clear hK K hS5 hx5
 try simp only [Act.put, nm]
 refine rdH 3 (fun K hK => ?_)
 go_simp
 refine (HTC.out).mono ?_
 rintro e w6 ⟨a2, c2, rfl, hS6, hW6⟩
 have HX6 : Hid (Xt w4 w6) := Lib.hid (hW6.xt HX5.out (fun b hb => hb.1))
 have HS6 := Lib.hid hS6
 have hsz := hW6.size
 have hT6 := hz6 HX6.out HTA.out.turn
 refine hK.out _ _ hT6 (fun hHeld3 => ?_)
 clear hK K hS6 hW6
 try simp only [Act.put, nm]
 refine rdH 4 (fun K hK => ?_)
 rw [if_pos (by rfl)]
 refine wp_store_row (P := Tryz.prog) 49 _ _ rfl (B + 1 + 1) (nodeC (turnT cG aG (copyT (.mk k o x s bb f ⟨(r1, r2), rc, rr⟩ ⟨(q1, q2), qc, qr⟩ l))) (.slice a2 (turnT cG aG (copyT (.mk k o x s bb f ⟨(r1, r2), rc, rr⟩ ⟨(q1, q2), qc, qr⟩ l))).args.length c2)).toArray rfl rfl 49 _ (rowX HX6.out HR2.out) (by kernel_rfl) (by kernel_rfl) (all_oneCell_toArray (nodeC_one _ _ rfl)) ?_
 refine hK.out _ _ (hrow6 hT6) (fun hHeld4 => ?_)
 clear hK K
 refine wpAnyH_done (by kernel_rfl) ?_ _
 go_wp2_with fail
 (try simp only [Exit.inBlock, Exit.then])
 refine bodyPost_ret (v := .agg (nodeC (turnT cG aG (copyT (.mk k o x s bb f ⟨(r1, r2), rc, rr⟩ ⟨(q1, q2), qc, qr⟩ l))) (.slice a2 (turnT cG aG (copyT (.mk k o x s bb f ⟨(r1, r2), rc, rr⟩ ⟨(q1, q2), qc, qr⟩ l))).args.length c2)).toArray) (results_cell_row rfl _ _ (B + 1 + 1) 49 _ (0, 0) _ rfl (setRow_heap _ _ _ _ _ _ (rowX HX6.out HR2.out)) Tryz.underlying49 rfl (by kernel_rfl)) rfl ?_
 refine ⟨a2, c2, rfl, ?_, ?_⟩
 · refine (HS6.out.keep (fun b hb hlt => setRow_other _ _ _ _ (by have := hb.1; omega))).weak (fun b hb hlt => ⟨by have := hb.1; omega, hlt⟩)
 · exact HX.out.trans HX6.out |>.grownB (setRow_grown _ _ _) (fun q hq => by cases hq; rw [hB]; omega)
end Go.Proofs.YtdoeejhdenifpaaGreatDoor
/- move: a content whose formula has gone a road (made by mkm8.py). -/
namespace Go.Proofs.YtdoeejhdenifpaaGreatDoor
open Go.RowKit Go.Sort
def contG (cG : Ad → Ad × Bool) (aG : ArT → ArT × Bool) (c : ContT) : ContT := if c.kind = 2 then ⟨c.kind, c.v, turnT cG aG (copyT c.t)⟩ else c
theorem all21 (v0 v1 v2 v3 v4 v5 : Value) (h0 : v0.oneCell' = true) (h1 : v1.oneCell' = true) (h2 : v2.oneCell' = true) (h3 : v3.oneCell' = true) (h4 : v4.oneCell' = true) (h5 : v5.oneCell' = true) (u : NodeT) (av : Value) (hav : av.oneCell' = true) : (v0 :: v1 :: v2 :: v3 :: v4 :: v5 :: nodeC u av).toArray.all (·.oneCell') = true := all_oneCell_toArray (fun v hv => by
 simp only [List.mem_cons] at hv
 rcases hv with rfl | rfl | rfl | rfl | rfl | rfl | hv <;> first | assumption | exact nodeC_one u av hav v hv)
set_option maxRecDepth 100000 in
set_option maxHeartbeats 1000000 in
theorem content_any {E : World → Prop} {n0 kc ka : Nat} {lc la : Array Value} {cG : Ad → Ad × Bool} {aG : ArT → ArT × Bool} {okA : ArT → Prop} (H : RoadIs E n0 kc ka lc la cG aG okA) (n : Nat) (c : ContT) (a : Option Addr) (cap : Nat) (w : World) (hE : E w) (hsm : smallT c.t) (hin : ArgsIn w n (.slice a c.t.args.length cap) c.t.args) (hok : okAs okA c.t) :
    Calls Tryz.prog 47 #[roadW kc ka lc la, contV c a c.t.args.length cap] w fun e w' =>
     ∃ a2 c2, e = .returned (contV (contG cG aG c) a2 (contG cG aG c).t.args.length c2) ∧ ArgsIn w' n (.slice a2 (contG cG aG c).t.args.length c2) (contG cG aG c).t.args ∧ Xt w w' := by
 have hn0 := H.size _ hE
 have HH := Lib.hid H
 have HSM := Lib.hid hsm
 have HOK := Lib.hid hok
 have HIN0 := Lib.hid hin
 obtain ⟨B, hB⟩ : ∃ B, w.heap.size = B := ⟨_, rfl⟩
 obtain ⟨w0, hw0⟩ : ∃ w0, w.alloc (.cells #[.func (.func kc) #[] lc, .func (.func ka) #[] la] 97) = w0 := ⟨_, rfl⟩
 have hs0 : w0.heap.size = B + 1 := by rw [← hw0, ← hB]; simp
 obtain ⟨w1, hw1⟩ : ∃ w1, w0.alloc (.cells #[.int .i64 c.kind, .int .i64 c.v.kind, .float .f64 c.v.x, .string c.v.s, .bool c.v.b, .int .i64 c.v.f, .int .i64 c.t.kind, .int .i64 c.t.op, .float .f64 c.t.x, .string c.t.s, .bool c.t.b, .int .i64 c.t.f, .int .i64 c.t.ref.a.1, .int .i64 c.t.ref.a.2, .bool c.t.ref.cf, .bool c.t.ref.rf, .int .i64 c.t.to.a.1, .int .i64 c.t.to.a.2, .bool c.t.to.cf, .bool c.t.to.rf, .slice a c.t.args.length cap] 51) = w1 := ⟨_, rfl⟩
 have hs1 : w1.heap.size = B + 1 + 1 := by rw [← hw1]; simp [hs0]
 obtain ⟨wS, hwS⟩ : ∃ wS, w1.alloc (.cells #[.int .i64 0, .int .i64 0, .float .f64 0, .string ⟨#[]⟩, .bool false, .int .i64 0, .int .i64 0, .int .i64 0, .float .f64 0, .string ⟨#[]⟩, .bool false, .int .i64 0, .int .i64 0, .int .i64 0, .bool false, .bool false, .int .i64 0, .int .i64 0, .bool false, .bool false, .slice none 0 0] 51) = wS := ⟨_, rfl⟩
 have hx0 : Xt w0 wS := by rw [← hwS, ← hw1]; exact ((Xt.refl _).alloc _).alloc _
 have hx1 : Xt w1 wS := by rw [← hwS]; exact (Xt.refl _).alloc _
 have hx : Xt w wS := Xt.trans (by rw [← hw0]; exact (Xt.refl _).alloc _) hx0
 have r0 := rowX hx0 (by rw [← hw0]; exact (MapKept.heap_alloc w _).1)
 have r1 := rowX hx1 (by rw [← hw1]; exact (MapKept.heap_alloc w0 _).1)
 have r2 : wS.heap[w1.heap.size]? = some (.cells #[.int .i64 0, .int .i64 0, .float .f64 0, .string ⟨#[]⟩, .bool false, .int .i64 0, .int .i64 0, .int .i64 0, .float .f64 0, .string ⟨#[]⟩, .bool false, .int .i64 0, .int .i64 0, .int .i64 0, .bool false, .bool false, .int .i64 0, .int .i64 0, .bool false, .bool false, .slice none 0 0] 51 (0, 0)) := by rw [← hwS]; exact (MapKept.heap_alloc w1 _).1
 rw [hB] at r0
 rw [hs0] at r1
 rw [hs1] at r2
 have HR1 := Lib.hid r1
 have HR2 := Lib.hid r2
 have HX := Lib.hid hx
 have HES : Hid (E wS) := H.keep _ _ hE hx.size (fun b hb => hx.block b (by omega))
 have HIN : Hid (ArgsIn wS n (.slice a c.t.args.length cap) c.t.args) := hin.xt hx
 have c0 : wS.cell? ⟨B + 1, 0, none⟩ = some (.int .i64 c.kind) := by simp [World.cell?, r1]
 have d0 : wS.cell? ⟨B, 0, none⟩ = some (.func (.func kc) #[] lc) := by simp [World.cell?, r0]
 have d1 : wS.cell? ⟨B, 1, none⟩ = some (.func (.func ka) #[] la) := by simp [World.cell?, r0]
 have hRng : wS.rangeAt (B + 1) 6 (nodeC c.t (.slice a c.t.args.length cap)) := fun j v hv => by
  have := World.rangeAt_of_block r1 6 15 j v (by simpa [nodeC] using hv)
  exact this
 have HRng := Lib.hid hRng
 have HBw : Hid (w.heap.size = B) := hB
 clear r0 r1 r2 hx hx0 hx1 hE hin hok hsm H hRng
 go_enter Tryz.func47, Tryz.ntmps47
 by_cases hk : c.kind = 2
 · have hkb : (c.kind == 2) = true := by simpa using hk
   have HC := Lib.hid (turned_any HH.out n c.t a cap wS HES.out HSM.out HIN.out HOK.out)
   obtain ⟨tt, htt⟩ : ∃ tt, turnT cG aG (copyT c.t) = tt := ⟨_, rfl⟩
   rw [htt] at HC
   have HG : Hid (contG cG aG c = ⟨c.kind, c.v, tt⟩) := by unfold Hid contG; rw [if_pos hk]; rw [htt]
   clear hk htt
   go_wp2_with (first
    | (refine wpList_load_mid (P := Tryz.prog) rfl 49 _ rfl (B + 1) 6 rfl (nodeC c.t (.slice a c.t.args.length cap)) _ HRng.out Tryz.underlying49 rfl (by kernel_rfl) ?_)
    | (go_at_call 80; refine (HC.out).mono ?_; rintro e w5 ⟨a2, c2, rfl, hS5, hx5⟩; have HX5 := Lib.hid hx5; have HS5 := Lib.hid hS5; have hb5 := rowX HX5.out HR1.out; have hr5 := rowX HX5.out HR2.out; have HTH := Lib.hid (there_row hb5 6 15 (by simp)); obtain ⟨w6, hw6⟩ : ∃ w6, w5.setCells (B + 1) 6 (#[.int .i64 tt.kind, .int .i64 tt.op, .float .f64 tt.x, .string tt.s, .bool tt.b, .int .i64 tt.f, .int .i64 tt.ref.a.1, .int .i64 tt.ref.a.2, .bool tt.ref.cf, .bool tt.ref.rf, .int .i64 tt.to.a.1, .int .i64 tt.to.a.2, .bool tt.to.cf, .bool tt.to.rf, .slice a2 tt.args.length c2]).toList = w6 := ⟨_, rfl⟩; have HB6 : Hid (w6.heap[B + 1]? = some (.cells #[.int .i64 c.kind, .int .i64 c.v.kind, .float .f64 c.v.x, .string c.v.s, .bool c.v.b, .int .i64 c.v.f, .int .i64 tt.kind, .int .i64 tt.op, .float .f64 tt.x, .string tt.s, .bool tt.b, .int .i64 tt.f, .int .i64 tt.ref.a.1, .int .i64 tt.ref.a.2, .bool tt.ref.cf, .bool tt.ref.rf, .int .i64 tt.to.a.1, .int .i64 tt.to.a.2, .bool tt.to.cf, .bool tt.to.rf, .slice a2 tt.args.length c2] 51 (0, 0))) := (by unfold Hid; rw [← hw6]; exact fill15at6 hb5); have HR6 : Hid (w6.heap[B + 1 + 1]? = some (.cells #[.int .i64 0, .int .i64 0, .float .f64 0, .string ⟨#[]⟩, .bool false, .int .i64 0, .int .i64 0, .int .i64 0, .float .f64 0, .string ⟨#[]⟩, .bool false, .int .i64 0, .int .i64 0, .int .i64 0, .bool false, .bool false, .int .i64 0, .int .i64 0, .bool false, .bool false, .slice none 0 0] 51 (0, 0))) := (by unfold Hid; rw [← hw6]; exact ((setCells_far (B + 1) [.int .i64 tt.kind, .int .i64 tt.op, .float .f64 tt.x, .string tt.s, .bool tt.b, .int .i64 tt.f, .int .i64 tt.ref.a.1, .int .i64 tt.ref.a.2, .bool tt.ref.cf, .bool tt.ref.rf, .int .i64 tt.to.a.1, .int .i64 tt.to.a.2, .bool tt.to.cf, .bool tt.to.rf, .slice a2 tt.args.length c2] 6 w5 (B + 1 + 1) (by omega)).trans hr5)); have HG6 : Hid (w5.grownBy w6 (some (B + 1))) := (by unfold Hid; rw [← hw6]; exact setCells_grown (B + 1) _ 6 w5); clear hx5 hS5 hb5 hr5)
    | (refine wpList_store_mid (P := Tryz.prog) rfl 49 _ _ rfl (B + 1) 6 #[.int .i64 tt.kind, .int .i64 tt.op, .float .f64 tt.x, .string tt.s, .bool tt.b, .int .i64 tt.f, .int .i64 tt.ref.a.1, .int .i64 tt.ref.a.2, .bool tt.ref.cf, .bool tt.ref.rf, .int .i64 tt.to.a.1, .int .i64 tt.to.a.2, .bool tt.to.cf, .bool tt.to.rf, .slice a2 tt.args.length c2] rfl rfl HTH.out (by kernel_rfl) (all_oneCell_toArray (nodeC_one tt (.slice a2 tt.args.length c2) rfl)) ?_; rw [hw6])
    | (refine wpList_load_row (P := Tryz.prog) rfl 51 _ rfl (B + 1) rfl 51 #[.int .i64 c.kind, .int .i64 c.v.kind, .float .f64 c.v.x, .string c.v.s, .bool c.v.b, .int .i64 c.v.f, .int .i64 tt.kind, .int .i64 tt.op, .float .f64 tt.x, .string tt.s, .bool tt.b, .int .i64 tt.f, .int .i64 tt.ref.a.1, .int .i64 tt.ref.a.2, .bool tt.ref.cf, .bool tt.ref.rf, .int .i64 tt.to.a.1, .int .i64 tt.to.a.2, .bool tt.to.cf, .bool tt.to.rf, .slice a2 tt.args.length c2] (0, 0) _ HB6.out Tryz.underlying51 rfl (by kernel_rfl) ?_)
    | (refine wpList_store_row (P := Tryz.prog) rfl 51 _ _ rfl (B + 1 + 1) #[.int .i64 c.kind, .int .i64 c.v.kind, .float .f64 c.v.x, .string c.v.s, .bool c.v.b, .int .i64 c.v.f, .int .i64 tt.kind, .int .i64 tt.op, .float .f64 tt.x, .string tt.s, .bool tt.b, .int .i64 tt.f, .int .i64 tt.ref.a.1, .int .i64 tt.ref.a.2, .bool tt.ref.cf, .bool tt.ref.rf, .int .i64 tt.to.a.1, .int .i64 tt.to.a.2, .bool tt.to.cf, .bool tt.to.rf, .slice a2 tt.args.length c2] rfl rfl 51 _ HR6.out (by kernel_rfl) (by kernel_rfl) (all21 _ _ _ _ _ _ rfl rfl rfl rfl rfl rfl tt (.slice a2 tt.args.length c2) rfl) ?_))
   (try simp only [Exit.inBlock, Exit.then])
   refine bodyPost_ret (v := .agg #[.int .i64 c.kind, .int .i64 c.v.kind, .float .f64 c.v.x, .string c.v.s, .bool c.v.b, .int .i64 c.v.f, .int .i64 tt.kind, .int .i64 tt.op, .float .f64 tt.x, .string tt.s, .bool tt.b, .int .i64 tt.f, .int .i64 tt.ref.a.1, .int .i64 tt.ref.a.2, .bool tt.ref.cf, .bool tt.ref.rf, .int .i64 tt.to.a.1, .int .i64 tt.to.a.2, .bool tt.to.cf, .bool tt.to.rf, .slice a2 tt.args.length c2]) (results_cell_row rfl _ _ (B + 1 + 1) 51 _ (0, 0) _ rfl (setRow_heap _ _ _ _ _ _ HR6.out) Tryz.underlying51 rfl (by kernel_rfl)) rfl ?_
   rw [HG.out]
   refine ⟨a2, c2, rfl, ?_, ?_⟩
   · refine (HS5.out.keep (fun b hb hlt => ?_)).own.args
     have h1 := hb.1
     have h2 := (Array.getElem?_eq_some_iff.1 HR2.out).1
     exact (setRow_other _ _ _ _ (by omega)).trans (HG6.out.block b hlt (fun e => by cases e; omega))
   · exact ((HX.out.trans HX5.out).grownB HG6.out (fun q hq => by cases hq; have := HBw.out; omega)).grownB (setRow_grown _ _ _) (fun q hq => by cases hq; have := HBw.out; omega)
 · have hkb : (c.kind == 2) = false := by simpa using hk
   have HG : Hid (contG cG aG c = c) := by unfold Hid contG; rw [if_neg hk]
   clear hk
   go_wp2_with (first
    | (refine wpList_load_row (P := Tryz.prog) rfl 51 _ rfl (B + 1) rfl 51 _ (0, 0) _ HR1.out Tryz.underlying51 rfl (by kernel_rfl) ?_)
    | (refine wpList_store_row (P := Tryz.prog) rfl 51 _ _ rfl (B + 1 + 1) #[.int .i64 c.kind, .int .i64 c.v.kind, .float .f64 c.v.x, .string c.v.s, .bool c.v.b, .int .i64 c.v.f, .int .i64 c.t.kind, .int .i64 c.t.op, .float .f64 c.t.x, .string c.t.s, .bool c.t.b, .int .i64 c.t.f, .int .i64 c.t.ref.a.1, .int .i64 c.t.ref.a.2, .bool c.t.ref.cf, .bool c.t.ref.rf, .int .i64 c.t.to.a.1, .int .i64 c.t.to.a.2, .bool c.t.to.cf, .bool c.t.to.rf, .slice a c.t.args.length cap] rfl rfl 51 _ HR2.out (by kernel_rfl) (by kernel_rfl) (all21 _ _ _ _ _ _ rfl rfl rfl rfl rfl rfl c.t (.slice a c.t.args.length cap) rfl) ?_))
   (try simp only [Exit.inBlock, Exit.then])
   refine bodyPost_ret (v := .agg #[.int .i64 c.kind, .int .i64 c.v.kind, .float .f64 c.v.x, .string c.v.s, .bool c.v.b, .int .i64 c.v.f, .int .i64 c.t.kind, .int .i64 c.t.op, .float .f64 c.t.x, .string c.t.s, .bool c.t.b, .int .i64 c.t.f, .int .i64 c.t.ref.a.1, .int .i64 c.t.ref.a.2, .bool c.t.ref.cf, .bool c.t.ref.rf, .int .i64 c.t.to.a.1, .int .i64 c.t.to.a.2, .bool c.t.to.cf, .bool c.t.to.rf, .slice a c.t.args.length cap]) (results_cell_row rfl _ _ (B + 1 + 1) 51 _ (0, 0) _ rfl (setRow_heap _ _ _ _ _ _ HR2.out) Tryz.underlying51 rfl (by kernel_rfl)) rfl ?_
   rw [HG.out]
   have hxE : Xt w (wS.setRow (B + 1 + 1) #[.int .i64 c.kind, .int .i64 c.v.kind, .float .f64 c.v.x, .string c.v.s, .bool c.v.b, .int .i64 c.v.f, .int .i64 c.t.kind, .int .i64 c.t.op, .float .f64 c.t.x, .string c.t.s, .bool c.t.b, .int .i64 c.t.f, .int .i64 c.t.ref.a.1, .int .i64 c.t.ref.a.2, .bool c.t.ref.cf, .bool c.t.ref.rf, .int .i64 c.t.to.a.1, .int .i64 c.t.to.a.2, .bool c.t.to.cf, .bool c.t.to.rf, .slice a c.t.args.length cap]) := HX.out.grownB (setRow_grown _ _ _) (fun q hq => by cases hq; have := HBw.out; omega)
   exact ⟨a, cap, rfl, HIN0.out.xt hxE, hxE⟩
end Go.Proofs.YtdoeejhdenifpaaGreatDoor
/- move, plain: what a road makes of contents and of grids. -/
namespace Go.Proofs.YtdoeejhdenifpaaGreatDoor
open Go.RowKit Go.Sort
theorem turnH_form (cG : Ad → Ad × Bool) (aG : ArT → ArT × Bool) (t : NodeT) : turnH cG aG t = lostT ∨ ∃ r q, turnH cG aG t = .mk t.kind t.op t.x t.s t.b t.f r q t.args := by
 obtain ⟨k, o, x, s, b, f, r, q, l⟩ := t
 rw [turnH]
 by_cases h5 : k = 5
 · rw [if_pos h5]
   by_cases h : (cG r.a).2 = true
   · rw [if_pos h]; exact Or.inr ⟨_, _, rfl⟩
   · rw [if_neg h]; exact Or.inl rfl
 · rw [if_neg h5]
   by_cases h6 : k = 6
   · rw [if_pos h6]
     by_cases h : (aG (arOf r q)).2 = true
     · rw [if_pos h]; exact Or.inr ⟨_, _, rfl⟩
     · rw [if_neg h]; exact Or.inl rfl
   · rw [if_neg h6]; exact Or.inr ⟨_, _, rfl⟩
theorem lostT_ok : lostT.ok := by simp [lostT, NodeT.ok, okL, ByteArray.size]
theorem lostT_small : smallT lostT := by simp [lostT, smallT, smallL]
mutual
theorem turnT_ok (cG : Ad → Ad × Bool) (aG : ArT → ArT × Bool) : ∀ t : NodeT, t.ok → (turnT cG aG t).ok
 | .mk k o x s b f r q l, h => by
  rw [turnT]
  rcases turnH_form cG aG (.mk k o x s b f r q (turnL cG aG l)) with e | ⟨r', q', e⟩
  · rw [e]; exact lostT_ok
  · rw [e]; exact ⟨h.1, h.2.1, turnL_ok cG aG l h.2.2⟩
theorem turnL_ok (cG : Ad → Ad × Bool) (aG : ArT → ArT × Bool) : ∀ l : List NodeT, okL l → okL (turnL cG aG l)
 | [], _ => trivial
 | t :: l, h => ⟨turnT_ok cG aG t h.1, turnL_ok cG aG l h.2⟩
end
theorem turnL_len (cG : Ad → Ad × Bool) (aG : ArT → ArT × Bool) (l : List NodeT) : (turnL cG aG l).length = l.length := by rw [turnL_map]; simp
mutual
theorem turnT_small (cG : Ad → Ad × Bool) (aG : ArT → ArT × Bool) : ∀ t : NodeT, smallT t → smallT (turnT cG aG t)
 | .mk k o x s b f r q l, h => by
  rw [turnT]
  rcases turnH_form cG aG (.mk k o x s b f r q (turnL cG aG l)) with e | ⟨r', q', e⟩
  · rw [e]; exact lostT_small
  · rw [e]
    have h1 := smallT_args h
    exact ⟨by rw [NodeT.args, turnL_len]; exact h1.1, turnL_small cG aG l h1.2⟩
theorem turnL_small (cG : Ad → Ad × Bool) (aG : ArT → ArT × Bool) : ∀ l : List NodeT, smallL l → smallL (turnL cG aG l)
 | [], _ => trivial
 | t :: l, h => ⟨turnT_small cG aG t h.1, turnL_small cG aG l h.2⟩
end
theorem contG_ok {cG : Ad → Ad × Bool} {aG : ArT → ArT × Bool} {c : ContT} (h : c.ok) : (contG cG aG c).ok := by
 unfold contG
 split
 · exact ⟨h.1, turnT_ok cG aG _ (okT_copy _ h.2.1), h.2.2⟩
 · exact h
theorem contG_small {cG : Ad → Ad × Bool} {aG : ArT → ArT × Bool} {c : ContT} (h : smallT c.t) : smallT (contG cG aG c).t := by
 unfold contG
 split
 · exact turnT_small cG aG _ (smallT_copy _ h)
 · exact h
theorem validB_le {a b : Int} (h : validB a b = true) : 1 ≤ a ∧ a ≤ 256 ∧ 1 ≤ b ∧ b ≤ 4096 := by
 unfold validB at h
 simp at h
 omega
mutual
theorem fault_okAs : ∀ (t : NodeT) (ins : Bool), faultT t ins = 0 → okAs ArT.ok t
 | .mk k o x s b f r q l, ins, h => by
  rw [faultT] at h
  by_cases hm : madeB (.mk k o x s b f r q l) = true
  · rw [if_pos hm] at h
    by_cases h5 : k = 5
    · subst h5
      refine ⟨fun e => by omega, ?_⟩
      rw [if_pos (by rfl)] at h
      split at h
      · exact faultL_okAs l _ h
      · omega
    · rw [if_neg (by simpa using h5)] at h
      by_cases h6 : k = 6
      · subst h6
        rw [if_pos (by rfl)] at h
        split at h
        · rename_i hv
          simp only [Bool.and_eq_true, decide_eq_true_eq] at hv
          have v1 := validB_le hv.1.1.1
          have v2 := validB_le hv.1.1.2
          refine ⟨fun _ => ?_, ?_⟩
          · unfold ArT.ok arOf; simp only; omega
          · split at h
            · exact faultL_okAs l _ h
            · omega
        · omega
      · rw [if_neg (by simpa using h6)] at h
        refine ⟨fun e => absurd e h6, ?_⟩
        split at h
        · split at h
          · split at h
            · omega
            · split at h
              · omega
              · exact faultL_okAs l _ h
          · omega
        · exact faultL_okAs l _ h
  · rw [if_neg hm] at h; omega
theorem faultL_okAs : ∀ (l : List NodeT) (c : Bool), faultL l c = 0 → okAL ArT.ok l
 | [], _, _ => trivial
 | t :: l, c, h => by
  rw [faultL] at h
  split at h
  · rename_i e; exact ⟨fault_okAs t c e, faultL_okAs l c h⟩
  · rename_i e; exact absurd h e
end
theorem noNode_okAs {t : NodeT} (h : noNodeB t = true) : okAs ArT.ok t := by
 obtain ⟨k, o, x, s, b, f, r, q, l⟩ := t
 unfold noNodeB at h
 simp only [Bool.and_eq_true, decide_eq_true_eq, NodeT.kind, NodeT.args, beq_iff_eq] at h
 have hk : k = 0 := of_decide_eq_true h.1.1.1.1.1.1.1.1
 have hl : l = [] := List.length_eq_zero_iff.1 (by have := h.2; omega)
 subst hk hl
 exact ⟨fun e => by omega, trivial⟩
theorem checkT_zero {t : NodeT} (h : checkT t = 0) : faultT t false = 0 := by
 unfold checkT at h
 split at h
 · omega
 · split at h
   · omega
   · exact h
theorem gvalid_okAs {c : ContT} (h : gvalidB c = true) : okAs ArT.ok c.t := by
 unfold gvalidB at h
 split at h
 · exact noNode_okAs ((Bool.and_eq_true _ _).mp h).2
 · split at h
   · exact noNode_okAs ((Bool.and_eq_true _ _).mp ((Bool.and_eq_true _ _).mp h).1).1
   · split at h
     · exact fault_okAs c.t false (checkT_zero (by simpa using ((Bool.and_eq_true _ _).mp h).2))
     · cases h
def goStep (cG : Ad → Ad × Bool) (aG : ArT → ArT × Bool) (acc : PG) (x : Ad × ContT) : PG := if (cG x.1).2 = true then putP acc (cG x.1).1 (contG cG aG (copyC x.2)) else acc
def goAll (cG : Ad → Ad × Bool) (aG : ArT → ArT × Bool) (l : PG) : PG := l.foldl (goStep cG aG) []
def goStop (cG : Ad → Ad × Bool) (n : Int) (l : PG) : Bool := l.any fun x => !(cG x.1).2 && decide (0 < n)
theorem goAll_snoc (cG : Ad → Ad × Bool) (aG : ArT → ArT × Bool) (l : PG) (x : Ad × ContT) : goAll cG aG (l ++ [x]) = goStep cG aG (goAll cG aG l) x := by simp [goAll]
theorem goStop_snoc (cG : Ad → Ad × Bool) (n : Int) (l : PG) (x : Ad × ContT) : goStop cG n (l ++ [x]) = (goStop cG n l || (!(cG x.1).2 && decide (0 < n))) := by simp [goStop]
end Go.Proofs.YtdoeejhdenifpaaGreatDoor
/- move, plain: what goes a road and is copied (the tree). -/
namespace Go.Proofs.YtdoeejhdenifpaaGreatDoor
open Go.RowKit Go.Sort
theorem copyT_lost : copyT lostT = lostT := by
 have h : oneX 0 = 0 := (oneX_zero 0).2 rfl
 simp only [lostT, copyT, copyL, h]
theorem turnH_copy (cG : Ad → Ad × Bool) (aG : ArT → ArT × Bool) (k o : Int) (x : Nat) (s : ByteArray) (b : Bool) (f : Int) (r q : RefT) (l : List NodeT) : turnH cG aG (.mk k o (oneX x) s b f r q (copyL l)) = copyT (turnH cG aG (.mk k o x s b f r q l)) := by
 rw [turnH, turnH]
 by_cases h5 : k = 5
 · rw [if_pos h5, if_pos h5]
   by_cases h : (cG r.a).2 = true
   · rw [if_pos h, if_pos h]; rfl
   · rw [if_neg h, if_neg h, copyT_lost]
 · rw [if_neg h5, if_neg h5]
   by_cases h6 : k = 6
   · rw [if_pos h6, if_pos h6]
     by_cases h : (aG (arOf r q)).2 = true
     · rw [if_pos h, if_pos h]; rfl
     · rw [if_neg h, if_neg h, copyT_lost]
   · rw [if_neg h6, if_neg h6]; rfl
mutual
theorem turn_copy (cG : Ad → Ad × Bool) (aG : ArT → ArT × Bool) : ∀ t : NodeT, turnT cG aG (copyT t) = copyT (turnT cG aG t)
 | .mk k o x s b f r q l => by
  rw [copyT, turnT, turnT, turnL_copy cG aG l, turnH_copy]
theorem turnL_copy (cG : Ad → Ad × Bool) (aG : ArT → ArT × Bool) : ∀ l : List NodeT, turnL cG aG (copyL l) = copyL (turnL cG aG l)
 | [] => rfl
 | t :: l => by rw [copyL, turnL, turnL, copyL, turn_copy cG aG t, turnL_copy cG aG l]
end
end Go.Proofs.YtdoeejhdenifpaaGreatDoor
