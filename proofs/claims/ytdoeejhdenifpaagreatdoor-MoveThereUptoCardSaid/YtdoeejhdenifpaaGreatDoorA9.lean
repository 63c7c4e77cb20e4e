import Derived.Test.YtdoeejhdenifpaaGreatDoorZ1
import Derived.Test.YtdoeejhdenifpaaGreatDoorM6
import Derived.Test.YtdoeejhdenifpaaGreatDoorV23
import Derived.Test.YtdoeejhdenifpaaGreatDoorA5
import Derived.Test.YtdoeejhdenifpaaGreatDoorA6
import Derived.Deep.MidRow
import Derived.Test.YtdoeejhdenifpaaGreatDoorA8
import Derived.Shelf.SlMaps.Clone
import Derived.Shelf.SlIter.Keys
import Derived.RangeFuncNested
import Derived.RangeFuncBound
import Derived.RangeFuncCalls
import Derived.RangeFuncLeaves
import Derived.Shelf.RegionOpen
import Derived.OwnWalkIn
import Derived.TacticsInMore
import Derived.LoopNIn
import Derived.LoopIn
import Derived.Maps.AppendAt
import Derived.Shelf.Abstract
/- move: a formula whose references have gone a road (made by mkm7.py). -/
namespace Go.Proofs.YtdoeejhdenifpaaGreatDoor
open Go.RowKit Go.Sort

theorem RoadIs.up {E : World → Prop} {n0 kc ka : Nat} {lc la : Array Value} {cG : Ad → Ad × Bool} {aG : ArT → ArT × Bool} {okA : ArT → Prop} (h : RoadIs E n0 kc ka lc la cG aG okA) {m : Nat} (hm : n0 ≤ m) : RoadIs (fun W => E W ∧ m ≤ W.heap.size) m kc ka lc la cG aG okA :=
  ⟨fun w w' hE hs hk => ⟨h.keep w w' hE.1 hs (fun b hb => hk b (by omega)), by have := hE.2; omega⟩, fun w hE => hE.2, h.ec, h.ea, fun a w hE => h.cell a w hE.1, fun x w ho hE => h.area x w ho hE.1⟩
mutual
theorem okAs_copy (okA : ArT → Prop) : ∀ t, okAs okA t → okAs okA (copyT t)
  | .mk _k _o _x _s _b _f _r _q l, h => ⟨h.1, okAL_copy okA l h.2⟩
theorem okAL_copy (okA : ArT → Prop) : ∀ l, okAL okA l → okAL okA (copyL l)
  | [], _ => trivial
  | t :: l, h => ⟨okAs_copy okA t h.1, okAL_copy okA l h.2⟩
end
theorem hz6 {w w' : World} {p : Nat} {v : Value} (hx : Xt w w') (h : w.cell? ⟨p, 0, none⟩ = some v) : w'.cell? ⟨p, 0, none⟩ = some v := ((hx.cells).1 _ _ (World.block_lt_of_cell? w _ h)).trans h
theorem hrow6 {w : World} {B : Nat} {v : Value} {cs : Array Value} (h : w.cell? ⟨B + 1 + 1 + 1 + 1, 0, none⟩ = some v) : (w.setRow (B + 1 + 1) cs).cell? ⟨B + 1 + 1 + 1 + 1, 0, none⟩ = some v := (World.cell?_of_block (w := w) (a := ⟨B + 1 + 1 + 1 + 1, 0, none⟩) (setRow_other w _ _ _ (by show B + 1 + 1 + 1 + 1 ≠ B + 1 + 1; omega))).trans h
set_option maxRecDepth 100000 in
set_option maxHeartbeats 4000000 in
theorem turned_any {E : World → Prop} {n0 kc ka : Nat} {lc la : Array Value} {cG : Ad → Ad × Bool} {aG : ArT → ArT × Bool} {okA : ArT → Prop} (H : RoadIs E n0 kc ka lc la cG aG okA) (n : Nat) (t : NodeT) (a : Option Addr) (cap : Nat) (w : World) (hE : E w) (hsm : smallT t) (hin : ArgsIn w n (.slice a t.args.length cap) t.args) (hok : okAs okA t) :
    Calls Tryz.prog 80 #[roadW kc ka lc la, nodeV t a t.args.length cap] w fun e w' =>
      ∃ a2 c2, e = .returned (nodeV (turnT cG aG (copyT t)) a2 (turnT cG aG (copyT t)).args.length c2) ∧ SepIn (fun b => w.heap.size ≤ b ∧ b < w'.heap.size) w' n (.slice a2 (turnT cG aG (copyT t)).args.length c2) (turnT cG aG (copyT t)).args ∧ Xt w w' := by
  have hn0 := H.size _ hE
  obtain ⟨k, o, x, s, bb, f, ⟨⟨r1, r2⟩, rc, rr⟩, ⟨⟨q1, q2⟩, qc, qr⟩, l⟩ := t
  have HC0 := Lib.hid (fcopyS_any n (.mk k o x s bb f ⟨(r1, r2), rc, rr⟩ ⟨(q1, q2), qc, qr⟩ l) a cap)
  have HSM := Lib.hid hsm
  have HH := Lib.hid H
  simp only [NodeT.args] at hin
  change Calls Tryz.prog 80 #[.agg #[.func (.func kc) #[] lc, .func (.func ka) #[] la], .agg #[.int .i64 k, .int .i64 o, .float .f64 x, .string s, .bool bb, .int .i64 f, .int .i64 r1, .int .i64 r2, .bool rc, .bool rr, .int .i64 q1, .int .i64 q2, .bool qc, .bool qr, .slice a l.length cap]] w _
  go_enter Tryz.func80, Tryz.ntmps80
  go_wp2_with fail
  obtain ⟨B, hB⟩ : ∃ B, w.heap.size = B := ⟨_, rfl⟩
  rw [hB]
  obtain ⟨w0, hw0⟩ : ∃ w0, w.alloc (.cells #[.func (.func kc) #[] lc, .func (.func ka) #[] la] 97) = w0 := ⟨_, rfl⟩
  rw [hw0]
  have hs0 : w0.heap.size = B + 1 := by rw [← hw0, ← hB]; simp
  obtain ⟨w1, hw1⟩ : ∃ w1, w0.alloc (.cells #[.int .i64 k, .int .i64 o, .float .f64 x, .string s, .bool bb, .int .i64 f, .int .i64 r1, .int .i64 r2, .bool rc, .bool rr, .int .i64 q1, .int .i64 q2, .bool qc, .bool qr, .slice a l.length cap] 49) = w1 := ⟨_, rfl⟩
  rw [hw1]
  have hs1 : w1.heap.size = B + 1 + 1 := by rw [← hw1]; simp [hs0]
  obtain ⟨w2, hw2⟩ : ∃ w2, w1.alloc (.cells #[.int .i64 0, .int .i64 0, .float .f64 0, .string ⟨#[]⟩, .bool false, .int .i64 0, .int .i64 0, .int .i64 0, .bool false, .bool false, .int .i64 0, .int .i64 0, .bool false, .bool false, .slice none 0 0] 49) = w2 := ⟨_, rfl⟩
  rw [hw2]
  have hs2 : w2.heap.size = B + 1 + 1 + 1 := by rw [← hw2]; simp [hs1]
  obtain ⟨w3, hw3⟩ : ∃ w3, w2.alloc (.cells #[.int .i64 4, .int .i64 0, .float .f64 0, .string ⟨#[]⟩, .bool false, .int .i64 4, .int .i64 0, .int .i64 0, .bool false, .bool false, .int .i64 0, .int .i64 0, .bool false, .bool false, .slice none 0 0] 49) = w3 := ⟨_, rfl⟩
  rw [hw3]
  have hs3 : w3.heap.size = B + 1 + 1 + 1 + 1 := by rw [← hw3]; simp [hs2]
  obtain ⟨w4, hw4⟩ : ∃ w4, w3.alloc (.cells #[turnFV (B + 1 + 1 + 1 + 1) B (B + 1 + 1 + 1)] 126) = w4 := ⟨_, rfl⟩
  rw [hw4]
  have hs4 : w4.heap.size = B + 1 + 1 + 1 + 1 + 1 := by rw [← hw4]; simp [hs3]
  have hx01 : Xt w0 w4 := by rw [← hw4, ← hw3, ← hw2, ← hw1]; exact ((((Xt.refl _).alloc _).alloc _).alloc _).alloc _
  have hx12 : Xt w1 w4 := by rw [← hw4, ← hw3, ← hw2]; exact (((Xt.refl _).alloc _).alloc _).alloc _
  have hx23 : Xt w2 w4 := by rw [← hw4, ← hw3]; exact ((Xt.refl _).alloc _).alloc _
  have hx34 : Xt w3 w4 := by rw [← hw4]; exact (Xt.refl _).alloc _
  have hx : Xt w w4 := Xt.trans (by rw [← hw0]; exact (Xt.refl _).alloc _) hx01
  have r0 := rowX hx01 (by rw [← hw0]; exact (MapKept.heap_alloc w _).1)
  have r1' := rowX hx12 (by rw [← hw1]; exact (MapKept.heap_alloc w0 _).1)
  have r2' := rowX hx23 (by rw [← hw2]; exact (MapKept.heap_alloc w1 _).1)
  have r3 := rowX hx34 (by rw [← hw3]; exact (MapKept.heap_alloc w2 _).1)
  have r4 : w4.heap[w3.heap.size]? = some (.cells #[turnFV (B + 1 + 1 + 1 + 1) B (B + 1 + 1 + 1)] 126 (0, 0)) := by rw [← hw4]; exact (MapKept.heap_alloc w3 _).1
  rw [hB] at r0
  rw [hs0] at r1'
  rw [hs1] at r2'
  rw [hs2] at r3
  rw [hs3] at r4
  have HTA : Hid (TurnAt w4 (B + 1 + 1 + 1 + 1) B (B + 1 + 1 + 1) kc ka lc la) := ⟨by simp [World.cell?, r4], by simp [World.cell?, r0], by simp [World.cell?, r0], r3⟩
  have HR1 := Lib.hid r1'
  have HR2 := Lib.hid r2'
  have HX := Lib.hid hx
  have HE4 : Hid (E w4 ∧ B + 5 ≤ w4.heap.size) := ⟨H.keep _ _ hE hx.size (fun b hb => hx.block b (by omega)), by omega⟩
  have HIN : Hid (ArgsIn w4.drew n (.slice a l.length cap) l) := hin.xt hx.drew
  have HOK : Hid (okAs okA (copyT (.mk k o x s bb f ⟨(r1, r2), rc, rr⟩ ⟨(q1, q2), qc, qr⟩ l))) := okAs_copy okA _ hok
  clear r0 r1' r2' r3 r4 hx hx01 hx12 hx23 hx34 hE hin hok hsm H
  clear hw0 hw1 hw2 hw3 hw4
  have hz := HTA.out.turn
  have hz' : w4.drew.cell? ⟨B + 1 + 1 + 1 + 1, 0, none⟩ = some (turnFV (B + 1 + 1 + 1 + 1) B (B + 1 + 1 + 1)) := hz
  refine wp_region_held_drew (S := fun W => W.cell? ⟨B + 1 + 1 + 1 + 1, 0, none⟩ = some (turnFV (B + 1 + 1 + 1 + 1) B (B + 1 + 1 + 1))) (by kernel_rfl) hz' (fun hHeld => ?_)
  refine tkH 0 (turnFV (B + 1 + 1 + 1 + 1) B (B + 1 + 1 + 1)) ?_ ?_
  · intro W hSw; (try dsimp only at hSw); go_simp; first | done | with_reducible rfl
  try simp only [Act.put, nm]
  refine rdH 1 (fun K hK => ?_)
  rw [if_pos (by rfl)]
  refine wp_load_row (P := Tryz.prog) 49 _ rfl (B + 1) rfl 49 _ (0, 0) _ HR1.out Tryz.underlying49 rfl (by kernel_rfl) ?_
  refine hK.out _ _ hHeld (fun hHeld1 => ?_)
  clear hK K
  try simp only [Act.put, nm]
  refine rdH 2 (fun K hK => ?_)
  go_simp
  refine (HC0.out w4.drew HSM.out HIN.out).mono ?_
  rintro e w5 ⟨a', rfl, hS5, hx5⟩
  have HX5 : Hid (Xt w4 w5) := Lib.hid (Xt.trans (Xt.refl w4).drew hx5)
  have HT5 := Lib.hid (HTA.out.keep (n0 := B + 5) (w' := w5) (by omega) (fun b hb => HX5.out.block b (by omega)))
  have HE5 := Lib.hid ((HH.out.up (m := B + 5) (by omega)).keep _ w5 HE4.out HX5.out.size (fun b hb => HX5.out.block b (by omega)))
  have HTC := Lib.hid (turn1_any (HH.out.up (m := B + 5) (by omega)) (pt := B + 1 + 1 + 1 + 1) (pr := B) (pl := B + 1 + 1 + 1) (by omega) n (fun b => w4.heap.size ≤ b ∧ b < w5.heap.size) (copyT (.mk k o x s bb f ⟨(r1, r2), rc, rr⟩ ⟨(q1, q2), qc, qr⟩ l)) a' l.length w5 HE5.out HT5.out (fun b hb => by omega) (by rw [copyT_len, copyT_args]; exact hS5) HOK.out)
  rw [copyT_len] at HTC
  refine hK.out _ _ HT5.out.turn (fun hHeld2 => ?_)
  clear hK K hS5 hx5
  try simp only [Act.put, nm]
  refine rdH 3 (fun K hK => ?_)
  go_simp
  refine (HTC.out).mono ?_
  rintro e w6 ⟨a2, c2, rfl, hS6, hW6⟩
  have HX6 : Hid (Xt w4 w6) := Lib.hid (hW6.xt HX5.out (fun b hb => hb.1))
  have HS6 := Lib.hid hS6
  have hsz := hW6.size
  have hT6 := hz6 HX6.out HTA.out.turn
  refine hK.out _ _ hT6 (fun hHeld3 => ?_)
  clear hK K hS6 hW6
  try simp only [Act.put, nm]
  refine rdH 4 (fun K hK => ?_)
  rw [if_pos (by rfl)]
  refine wp_store_row (P := Tryz.prog) 49 _ _ rfl (B + 1 + 1) (nodeC (turnT cG aG (copyT (.mk k o x s bb f ⟨(r1, r2), rc, rr⟩ ⟨(q1, q2), qc, qr⟩ l))) (.slice a2 (turnT cG aG (copyT (.mk k o x s bb f ⟨(r1, r2), rc, rr⟩ ⟨(q1, q2), qc, qr⟩ l))).args.length c2)).toArray rfl rfl 49 _ (rowX HX6.out HR2.out) (by kernel_rfl) (by kernel_rfl) (all_oneCell_toArray (nodeC_one _ _ rfl)) ?_
  refine hK.out _ _ (hrow6 hT6) (fun hHeld4 => ?_)
  clear hK K
  refine wpAnyH_done (by kernel_rfl) ?_ _
  go_wp2_with fail
  (try simp only [Exit.inBlock, Exit.then])
  refine bodyPost_ret (v := .agg (nodeC (turnT cG aG (copyT (.mk k o x s bb f ⟨(r1, r2), rc, rr⟩ ⟨(q1, q2), qc, qr⟩ l))) (.slice a2 (turnT cG aG (copyT (.mk k o x s bb f ⟨(r1, r2), rc, rr⟩ ⟨(q1, q2), qc, qr⟩ l))).args.length c2)).toArray) (results_cell_row rfl _ _ (B + 1 + 1) 49 _ (0, 0) _ rfl (setRow_heap _ _ _ _ _ _ (rowX HX6.out HR2.out)) Tryz.underlying49 rfl (by kernel_rfl)) rfl ?_
  refine ⟨a2, c2, rfl, ?_, ?_⟩
  · refine (HS6.out.keep (fun b hb hlt => setRow_other _ _ _ _ (by have := hb.1; omega))).weak (fun b hb hlt => ⟨by have := hb.1; omega, hlt⟩)
  · exact HX.out.trans HX6.out |>.grownB (setRow_grown _ _ _) (fun q hq => by cases hq; rw [hB]; omega)
end Go.Proofs.YtdoeejhdenifpaaGreatDoor
/- move: a content whose formula has gone a road (made by mkm8.py). -/
namespace Go.Proofs.YtdoeejhdenifpaaGreatDoor
open Go.RowKit Go.Sort

def contG (cG : Ad → Ad × Bool) (aG : ArT → ArT × Bool) (c : ContT) : ContT := if c.kind = 2 then ⟨c.kind, c.v, turnT cG aG (copyT c.t)⟩ else c
theorem all21 (v0 v1 v2 v3 v4 v5 : Value) (h0 : v0.oneCell' = true) (h1 : v1.oneCell' = true) (h2 : v2.oneCell' = true) (h3 : v3.oneCell' = true) (h4 : v4.oneCell' = true) (h5 : v5.oneCell' = true) (u : NodeT) (av : Value) (hav : av.oneCell' = true) : (v0 :: v1 :: v2 :: v3 :: v4 :: v5 :: nodeC u av).toArray.all (·.oneCell') = true := all_oneCell_toArray (fun v hv => by
  simp only [List.mem_cons] at hv
  rcases hv with rfl | rfl | rfl | rfl | rfl | rfl | hv <;> first | assumption | exact nodeC_one u av hav v hv)
set_option maxRecDepth 100000 in
set_option maxHeartbeats 1000000 in
theorem content_any {E : World → Prop} {n0 kc ka : Nat} {lc la : Array Value} {cG : Ad → Ad × Bool} {aG : ArT → ArT × Bool} {okA : ArT → Prop} (H : RoadIs E n0 kc ka lc la cG aG okA) (n : Nat) (c : ContT) (a : Option Addr) (cap : Nat) (w : World) (hE : E w) (hsm : smallT c.t) (hin : ArgsIn w n (.slice a c.t.args.length cap) c.t.args) (hok : okAs okA c.t) :
    Calls Tryz.prog 47 #[roadW kc ka lc la, contV c a c.t.args.length cap] w fun e w' =>
      ∃ a2 c2, e = .returned (contV (contG cG aG c) a2 (contG cG aG c).t.args.length c2) ∧ ArgsIn w' n (.slice a2 (contG cG aG c).t.args.length c2) (contG cG aG c).t.args ∧ Xt w w' := by
  have hn0 := H.size _ hE
  have HH := Lib.hid H
  have HSM := Lib.hid hsm
  have HOK := Lib.hid hok
  have HIN0 := Lib.hid hin
  obtain ⟨B, hB⟩ : ∃ B, w.heap.size = B := ⟨_, rfl⟩
  obtain ⟨w0, hw0⟩ : ∃ w0, w.alloc (.cells #[.func (.func kc) #[] lc, .func (.func ka) #[] la] 97) = w0 := ⟨_, rfl⟩
  have hs0 : w0.heap.size = B + 1 := by rw [← hw0, ← hB]; simp
  obtain ⟨w1, hw1⟩ : ∃ w1, w0.alloc (.cells #[.int .i64 c.kind, .int .i64 c.v.kind, .float .f64 c.v.x, .string c.v.s, .bool c.v.b, .int .i64 c.v.f, .int .i64 c.t.kind, .int .i64 c.t.op, .float .f64 c.t.x, .string c.t.s, .bool c.t.b, .int .i64 c.t.f, .int .i64 c.t.ref.a.1, .int .i64 c.t.ref.a.2, .bool c.t.ref.cf, .bool c.t.ref.rf, .int .i64 c.t.to.a.1, .int .i64 c.t.to.a.2, .bool c.t.to.cf, .bool c.t.to.rf, .slice a c.t.args.length cap] 51) = w1 := ⟨_, rfl⟩
  have hs1 : w1.heap.size = B + 1 + 1 := by rw [← hw1]; simp [hs0]
  obtain ⟨wS, hwS⟩ : ∃ wS, w1.alloc (.cells #[.int .i64 0, .int .i64 0, .float .f64 0, .string ⟨#[]⟩, .bool false, .int .i64 0, .int .i64 0, .int .i64 0, .float .f64 0, .string ⟨#[]⟩, .bool false, .int .i64 0, .int .i64 0, .int .i64 0, .bool false, .bool false, .int .i64 0, .int .i64 0, .bool false, .bool false, .slice none 0 0] 51) = wS := ⟨_, rfl⟩
  have hx0 : Xt w0 wS := by rw [← hwS, ← hw1]; exact ((Xt.refl _).alloc _).alloc _
  have hx1 : Xt w1 wS := by rw [← hwS]; exact (Xt.refl _).alloc _
  have hx : Xt w wS := Xt.trans (by rw [← hw0]; exact (Xt.refl _).alloc _) hx0
  have r0 := rowX hx0 (by rw [← hw0]; exact (MapKept.heap_alloc w _).1)
  have r1 := rowX hx1 (by rw [← hw1]; exact (MapKept.heap_alloc w0 _).1)
  have r2 : wS.heap[w1.heap.size]? = some (.cells #[.int .i64 0, .int .i64 0, .float .f64 0, .string ⟨#[]⟩, .bool false, .int .i64 0, .int .i64 0, .int .i64 0, .float .f64 0, .string ⟨#[]⟩, .bool false, .int .i64 0, .int .i64 0, .int .i64 0, .bool false, .bool false, .int .i64 0, .int .i64 0, .bool false, .bool false, .slice none 0 0] 51 (0, 0)) := by rw [← hwS]; exact (MapKept.heap_alloc w1 _).1
  rw [hB] at r0
  rw [hs0] at r1
  rw [hs1] at r2
  have HR1 := Lib.hid r1
  have HR2 := Lib.hid r2
  have HX := Lib.hid hx
  have HES : Hid (E wS) := H.keep _ _ hE hx.size (fun b hb => hx.block b (by omega))
  have HIN : Hid (ArgsIn wS n (.slice a c.t.args.length cap) c.t.args) := hin.xt hx
  have c0 : wS.cell? ⟨B + 1, 0, none⟩ = some (.int .i64 c.kind) := by simp [World.cell?, r1]
  have d0 : wS.cell? ⟨B, 0, none⟩ = some (.func (.func kc) #[] lc) := by simp [World.cell?, r0]
  have d1 : wS.cell? ⟨B, 1, none⟩ = some (.func (.func ka) #[] la) := by simp [World.cell?, r0]
  have hRng : wS.rangeAt (B + 1) 6 (nodeC c.t (.slice a c.t.args.length cap)) := fun j v hv => by
    have := World.rangeAt_of_block r1 6 15 j v (by simpa [nodeC] using hv)
    exact this
  have HRng := Lib.hid hRng
  have HBw : Hid (w.heap.size = B) := hB
  clear r0 r1 r2 hx hx0 hx1 hE hin hok hsm H hRng
  go_enter Tryz.func47, Tryz.ntmps47
  by_cases hk : c.kind = 2
  · have hkb : (c.kind == 2) = true := by simpa using hk
    have HC := Lib.hid (turned_any HH.out n c.t a cap wS HES.out HSM.out HIN.out HOK.out)
    obtain ⟨tt, htt⟩ : ∃ tt, turnT cG aG (copyT c.t) = tt := ⟨_, rfl⟩
    rw [htt] at HC
    have HG : Hid (contG cG aG c = ⟨c.kind, c.v, tt⟩) := by unfold Hid contG; rw [if_pos hk]; rw [htt]
    clear hk htt
    go_wp2_with (first
      | (refine wpList_load_mid (P := Tryz.prog) rfl 49 _ rfl (B + 1) 6 rfl (nodeC c.t (.slice a c.t.args.length cap)) _ HRng.out Tryz.underlying49 rfl (by kernel_rfl) ?_)
      | (go_at_call 80; refine (HC.out).mono ?_; rintro e w5 ⟨a2, c2, rfl, hS5, hx5⟩; have HX5 := Lib.hid hx5; have HS5 := Lib.hid hS5; have hb5 := rowX HX5.out HR1.out; have hr5 := rowX HX5.out HR2.out; have HTH := Lib.hid (there_row hb5 6 15 (by simp)); obtain ⟨w6, hw6⟩ : ∃ w6, w5.setCells (B + 1) 6 (#[.int .i64 tt.kind, .int .i64 tt.op, .float .f64 tt.x, .string tt.s, .bool tt.b, .int .i64 tt.f, .int .i64 tt.ref.a.1, .int .i64 tt.ref.a.2, .bool tt.ref.cf, .bool tt.ref.rf, .int .i64 tt.to.a.1, .int .i64 tt.to.a.2, .bool tt.to.cf, .bool tt.to.rf, .slice a2 tt.args.length c2]).toList = w6 := ⟨_, rfl⟩; have HB6 : Hid (w6.heap[B + 1]? = some (.cells #[.int .i64 c.kind, .int .i64 c.v.kind, .float .f64 c.v.x, .string c.v.s, .bool c.v.b, .int .i64 c.v.f, .int .i64 tt.kind, .int .i64 tt.op, .float .f64 tt.x, .string tt.s, .bool tt.b, .int .i64 tt.f, .int .i64 tt.ref.a.1, .int .i64 tt.ref.a.2, .bool tt.ref.cf, .bool tt.ref.rf, .int .i64 tt.to.a.1, .int .i64 tt.to.a.2, .bool tt.to.cf, .bool tt.to.rf, .slice a2 tt.args.length c2] 51 (0, 0))) := (by unfold Hid; rw [← hw6]; exact fill15at6 hb5); have HR6 : Hid (w6.heap[B + 1 + 1]? = some (.cells #[.int .i64 0, .int .i64 0, .float .f64 0, .string ⟨#[]⟩, .bool false, .int .i64 0, .int .i64 0, .int .i64 0, .float .f64 0, .string ⟨#[]⟩, .bool false, .int .i64 0, .int .i64 0, .int .i64 0, .bool false, .bool false, .int .i64 0, .int .i64 0, .bool false, .bool false, .slice none 0 0] 51 (0, 0))) := (by unfold Hid; rw [← hw6]; exact ((setCells_far (B + 1) [.int .i64 tt.kind, .int .i64 tt.op, .float .f64 tt.x, .string tt.s, .bool tt.b, .int .i64 tt.f, .int .i64 tt.ref.a.1, .int .i64 tt.ref.a.2, .bool tt.ref.cf, .bool tt.ref.rf, .int .i64 tt.to.a.1, .int .i64 tt.to.a.2, .bool tt.to.cf, .bool tt.to.rf, .slice a2 tt.args.length c2] 6 w5 (B + 1 + 1) (by omega)).trans hr5)); have HG6 : Hid (w5.grownBy w6 (some (B + 1))) := (by unfold Hid; rw [← hw6]; exact setCells_grown (B + 1) _ 6 w5); clear hx5 hS5 hb5 hr5)
      | (refine wpList_store_mid (P := Tryz.prog) rfl 49 _ _ rfl (B + 1) 6 #[.int .i64 tt.kind, .int .i64 tt.op, .float .f64 tt.x, .string tt.s, .bool tt.b, .int .i64 tt.f, .int .i64 tt.ref.a.1, .int .i64 tt.ref.a.2, .bool tt.ref.cf, .bool tt.ref.rf, .int .i64 tt.to.a.1, .int .i64 tt.to.a.2, .bool tt.to.cf, .bool tt.to.rf, .slice a2 tt.args.length c2] rfl rfl HTH.out (by kernel_rfl) (all_oneCell_toArray (nodeC_one tt (.slice a2 tt.args.length c2) rfl)) ?_; rw [hw6])
      | (refine wpList_load_row (P := Tryz.prog) rfl 51 _ rfl (B + 1) rfl 51 #[.int .i64 c.kind, .int .i64 c.v.kind, .float .f64 c.v.x, .string c.v.s, .bool c.v.b, .int .i64 c.v.f, .int .i64 tt.kind, .int .i64 tt.op, .float .f64 tt.x, .string tt.s, .bool tt.b, .int .i64 tt.f, .int .i64 tt.ref.a.1, .int .i64 tt.ref.a.2, .bool tt.ref.cf, .bool tt.ref.rf, .int .i64 tt.to.a.1, .int .i64 tt.to.a.2, .bool tt.to.cf, .bool tt.to.rf, .slice a2 tt.args.length c2] (0, 0) _ HB6.out Tryz.underlying51 rfl (by kernel_rfl) ?_)
      | (refine wpList_store_row (P := Tryz.prog) rfl 51 _ _ rfl (B + 1 + 1) #[.int .i64 c.kind, .int .i64 c.v.kind, .float .f64 c.v.x, .string c.v.s, .bool c.v.b, .int .i64 c.v.f, .int .i64 tt.kind, .int .i64 tt.op, .float .f64 tt.x, .string tt.s, .bool tt.b, .int .i64 tt.f, .int .i64 tt.ref.a.1, .int .i64 tt.ref.a.2, .bool tt.ref.cf, .bool tt.ref.rf, .int .i64 tt.to.a.1, .int .i64 tt.to.a.2, .bool tt.to.cf, .bool tt.to.rf, .slice a2 tt.args.length c2] rfl rfl 51 _ HR6.out (by kernel_rfl) (by kernel_rfl) (all21 _ _ _ _ _ _ rfl rfl rfl rfl rfl rfl tt (.slice a2 tt.args.length c2) rfl) ?_))
    (try simp only [Exit.inBlock, Exit.then])
    refine bodyPost_ret (v := .agg #[.int .i64 c.kind, .int .i64 c.v.kind, .float .f64 c.v.x, .string c.v.s, .bool c.v.b, .int .i64 c.v.f, .int .i64 tt.kind, .int .i64 tt.op, .float .f64 tt.x, .string tt.s, .bool tt.b, .int .i64 tt.f, .int .i64 tt.ref.a.1, .int .i64 tt.ref.a.2, .bool tt.ref.cf, .bool tt.ref.rf, .int .i64 tt.to.a.1, .int .i64 tt.to.a.2, .bool tt.to.cf, .bool tt.to.rf, .slice a2 tt.args.length c2]) (results_cell_row rfl _ _ (B + 1 + 1) 51 _ (0, 0) _ rfl (setRow_heap _ _ _ _ _ _ HR6.out) Tryz.underlying51 rfl (by kernel_rfl)) rfl ?_
    rw [HG.out]
    refine ⟨a2, c2, rfl, ?_, ?_⟩
    · refine (HS5.out.keep (fun b hb hlt => ?_)).own.args
      have h1 := hb.1
      have h2 := (Array.getElem?_eq_some_iff.1 HR2.out).1
      exact (setRow_other _ _ _ _ (by omega)).trans (HG6.out.block b hlt (fun e => by cases e; omega))
    · exact ((HX.out.trans HX5.out).grownB HG6.out (fun q hq => by cases hq; have := HBw.out; omega)).grownB (setRow_grown _ _ _) (fun q hq => by cases hq; have := HBw.out; omega)
  · have hkb : (c.kind == 2) = false := by simpa using hk
    have HG : Hid (contG cG aG c = c) := by unfold Hid contG; rw [if_neg hk]
    clear hk
    go_wp2_with (first
      | (refine wpList_load_row (P := Tryz.prog) rfl 51 _ rfl (B + 1) rfl 51 _ (0, 0) _ HR1.out Tryz.underlying51 rfl (by kernel_rfl) ?_)
      | (refine wpList_store_row (P := Tryz.prog) rfl 51 _ _ rfl (B + 1 + 1) #[.int .i64 c.kind, .int .i64 c.v.kind, .float .f64 c.v.x, .string c.v.s, .bool c.v.b, .int .i64 c.v.f, .int .i64 c.t.kind, .int .i64 c.t.op, .float .f64 c.t.x, .string c.t.s, .bool c.t.b, .int .i64 c.t.f, .int .i64 c.t.ref.a.1, .int .i64 c.t.ref.a.2, .bool c.t.ref.cf, .bool c.t.ref.rf, .int .i64 c.t.to.a.1, .int .i64 c.t.to.a.2, .bool c.t.to.cf, .bool c.t.to.rf, .slice a c.t.args.length cap] rfl rfl 51 _ HR2.out (by kernel_rfl) (by kernel_rfl) (all21 _ _ _ _ _ _ rfl rfl rfl rfl rfl rfl c.t (.slice a c.t.args.length cap) rfl) ?_))
    (try simp only [Exit.inBlock, Exit.then])
    refine bodyPost_ret (v := .agg #[.int .i64 c.kind, .int .i64 c.v.kind, .float .f64 c.v.x, .string c.v.s, .bool c.v.b, .int .i64 c.v.f, .int .i64 c.t.kind, .int .i64 c.t.op, .float .f64 c.t.x, .string c.t.s, .bool c.t.b, .int .i64 c.t.f, .int .i64 c.t.ref.a.1, .int .i64 c.t.ref.a.2, .bool c.t.ref.cf, .bool c.t.ref.rf, .int .i64 c.t.to.a.1, .int .i64 c.t.to.a.2, .bool c.t.to.cf, .bool c.t.to.rf, .slice a c.t.args.length cap]) (results_cell_row rfl _ _ (B + 1 + 1) 51 _ (0, 0) _ rfl (setRow_heap _ _ _ _ _ _ HR2.out) Tryz.underlying51 rfl (by kernel_rfl)) rfl ?_
    rw [HG.out]
    have hxE : Xt w (wS.setRow (B + 1 + 1) #[.int .i64 c.kind, .int .i64 c.v.kind, .float .f64 c.v.x, .string c.v.s, .bool c.v.b, .int .i64 c.v.f, .int .i64 c.t.kind, .int .i64 c.t.op, .float .f64 c.t.x, .string c.t.s, .bool c.t.b, .int .i64 c.t.f, .int .i64 c.t.ref.a.1, .int .i64 c.t.ref.a.2, .bool c.t.ref.cf, .bool c.t.ref.rf, .int .i64 c.t.to.a.1, .int .i64 c.t.to.a.2, .bool c.t.to.cf, .bool c.t.to.rf, .slice a c.t.args.length cap]) := HX.out.grownB (setRow_grown _ _ _) (fun q hq => by cases hq; have := HBw.out; omega)
    exact ⟨a, cap, rfl, HIN0.out.xt hxE, hxE⟩
end Go.Proofs.YtdoeejhdenifpaaGreatDoor
/- move, plain: what a road makes of contents and of grids. -/
namespace Go.Proofs.YtdoeejhdenifpaaGreatDoor
open Go.RowKit Go.Sort

theorem turnH_form (cG : Ad → Ad × Bool) (aG : ArT → ArT × Bool) (t : NodeT) : turnH cG aG t = lostT ∨ ∃ r q, turnH cG aG t = .mk t.kind t.op t.x t.s t.b t.f r q t.args := by
  obtain ⟨k, o, x, s, b, f, r, q, l⟩ := t
  rw [turnH]
  by_cases h5 : k = 5
  · rw [if_pos h5]
    by_cases h : (cG r.a).2 = true
    · rw [if_pos h]; exact Or.inr ⟨_, _, rfl⟩
    · rw [if_neg h]; exact Or.inl rfl
  · rw [if_neg h5]
    by_cases h6 : k = 6
    · rw [if_pos h6]
      by_cases h : (aG (arOf r q)).2 = true
      · rw [if_pos h]; exact Or.inr ⟨_, _, rfl⟩
      · rw [if_neg h]; exact Or.inl rfl
    · rw [if_neg h6]; exact Or.inr ⟨_, _, rfl⟩
theorem lostT_ok : lostT.ok := by simp [lostT, NodeT.ok, okL, ByteArray.size]
theorem lostT_small : smallT lostT := by simp [lostT, smallT, smallL]
mutual
theorem turnT_ok (cG : Ad → Ad × Bool) (aG : ArT → ArT × Bool) : ∀ t : NodeT, t.ok → (turnT cG aG t).ok
  | .mk k o x s b f r q l, h => by
    rw [turnT]
    rcases turnH_form cG aG (.mk k o x s b f r q (turnL cG aG l)) with e | ⟨r', q', e⟩
    · rw [e]; exact lostT_ok
    · rw [e]; exact ⟨h.1, h.2.1, turnL_ok cG aG l h.2.2⟩
theorem turnL_ok (cG : Ad → Ad × Bool) (aG : ArT → ArT × Bool) : ∀ l : List NodeT, okL l → okL (turnL cG aG l)
  | [], _ => trivial
  | t :: l, h => ⟨turnT_ok cG aG t h.1, turnL_ok cG aG l h.2⟩
end
theorem turnL_len (cG : Ad → Ad × Bool) (aG : ArT → ArT × Bool) (l : List NodeT) : (turnL cG aG l).length = l.length := by rw [turnL_map]; simp
mutual
theorem turnT_small (cG : Ad → Ad × Bool) (aG : ArT → ArT × Bool) : ∀ t : NodeT, smallT t → smallT (turnT cG aG t)
  | .mk k o x s b f r q l, h => by
    rw [turnT]
    rcases turnH_form cG aG (.mk k o x s b f r q (turnL cG aG l)) with e | ⟨r', q', e⟩
    · rw [e]; exact lostT_small
    · rw [e]
      have h1 := smallT_args h
      exact ⟨by rw [NodeT.args, turnL_len]; exact h1.1, turnL_small cG aG l h1.2⟩
theorem turnL_small (cG : Ad → Ad × Bool) (aG : ArT → ArT × Bool) : ∀ l : List NodeT, smallL l → smallL (turnL cG aG l)
  | [], _ => trivial
  | t :: l, h => ⟨turnT_small cG aG t h.1, turnL_small cG aG l h.2⟩
end
theorem contG_ok {cG : Ad → Ad × Bool} {aG : ArT → ArT × Bool} {c : ContT} (h : c.ok) : (contG cG aG c).ok := by
  unfold contG
  split
  · exact ⟨h.1, turnT_ok cG aG _ (okT_copy _ h.2.1), h.2.2⟩
  · exact h
theorem contG_small {cG : Ad → Ad × Bool} {aG : ArT → ArT × Bool} {c : ContT} (h : smallT c.t) : smallT (contG cG aG c).t := by
  unfold contG
  split
  · exact turnT_small cG aG _ (smallT_copy _ h)
  · exact h
/-! ### a valid formula's areas may be asked -/
theorem validB_le {a b : Int} (h : validB a b = true) : 1 ≤ a ∧ a ≤ 256 ∧ 1 ≤ b ∧ b ≤ 4096 := by
  unfold validB at h
  simp at h
  omega
mutual
theorem fault_okAs : ∀ (t : NodeT) (ins : Bool), faultT t ins = 0 → okAs ArT.ok t
  | .mk k o x s b f r q l, ins, h => by
    rw [faultT] at h
    by_cases hm : madeB (.mk k o x s b f r q l) = true
    · rw [if_pos hm] at h
      by_cases h5 : k = 5
      · subst h5
        refine ⟨fun e => by omega, ?_⟩
        rw [if_pos (by rfl)] at h
        split at h
        · exact faultL_okAs l _ h
        · omega
      · rw [if_neg (by simpa using h5)] at h
        by_cases h6 : k = 6
        · subst h6
          rw [if_pos (by rfl)] at h
          split at h
          · rename_i hv
            simp only [Bool.and_eq_true, decide_eq_true_eq] at hv
            have v1 := validB_le hv.1.1.1
            have v2 := validB_le hv.1.1.2
            refine ⟨fun _ => ?_, ?_⟩
            · unfold ArT.ok arOf; simp only; omega
            · split at h
              · exact faultL_okAs l _ h
              · omega
          · omega
        · rw [if_neg (by simpa using h6)] at h
          refine ⟨fun e => absurd e h6, ?_⟩
          split at h
          · split at h
            · split at h
              · omega
              · split at h
                · omega
                · exact faultL_okAs l _ h
            · omega
          · exact faultL_okAs l _ h
    · rw [if_neg hm] at h; omega
theorem faultL_okAs : ∀ (l : List NodeT) (c : Bool), faultL l c = 0 → okAL ArT.ok l
  | [], _, _ => trivial
  | t :: l, c, h => by
    rw [faultL] at h
    split at h
    · rename_i e; exact ⟨fault_okAs t c e, faultL_okAs l c h⟩
    · rename_i e; exact absurd h e
end
theorem noNode_okAs {t : NodeT} (h : noNodeB t = true) : okAs ArT.ok t := by
  obtain ⟨k, o, x, s, b, f, r, q, l⟩ := t
  unfold noNodeB at h
  simp only [Bool.and_eq_true, decide_eq_true_eq, NodeT.kind, NodeT.args, beq_iff_eq] at h
  have hk : k = 0 := of_decide_eq_true h.1.1.1.1.1.1.1.1
  have hl : l = [] := List.length_eq_zero_iff.1 (by have := h.2; omega)
  subst hk hl
  exact ⟨fun e => by omega, trivial⟩
theorem checkT_zero {t : NodeT} (h : checkT t = 0) : faultT t false = 0 := by
  unfold checkT at h
  split at h
  · omega
  · split at h
    · omega
    · exact h
theorem gvalid_okAs {c : ContT} (h : gvalidB c = true) : okAs ArT.ok c.t := by
  unfold gvalidB at h
  split at h
  · exact noNode_okAs ((Bool.and_eq_true _ _).mp h).2
  · split at h
    · exact noNode_okAs ((Bool.and_eq_true _ _).mp ((Bool.and_eq_true _ _).mp h).1).1
    · split at h
      · exact fault_okAs c.t false (checkT_zero (by simpa using ((Bool.and_eq_true _ _).mp h).2))
      · cases h
/-! ### a grid that goes a road -/
def goStep (cG : Ad → Ad × Bool) (aG : ArT → ArT × Bool) (acc : PG) (x : Ad × ContT) : PG := if (cG x.1).2 = true then putP acc (cG x.1).1 (contG cG aG (copyC x.2)) else acc
def goAll (cG : Ad → Ad × Bool) (aG : ArT → ArT × Bool) (l : PG) : PG := l.foldl (goStep cG aG) []
def goStop (cG : Ad → Ad × Bool) (n : Int) (l : PG) : Bool := l.any fun x => !(cG x.1).2 && decide (0 < n)
theorem goAll_snoc (cG : Ad → Ad × Bool) (aG : ArT → ArT × Bool) (l : PG) (x : Ad × ContT) : goAll cG aG (l ++ [x]) = goStep cG aG (goAll cG aG l) x := by simp [goAll]
theorem goStop_snoc (cG : Ad → Ad × Bool) (n : Int) (l : PG) (x : Ad × ContT) : goStop cG n (l ++ [x]) = (goStop cG n l || (!(cG x.1).2 && decide (0 < n))) := by simp [goStop]
end Go.Proofs.YtdoeejhdenifpaaGreatDoor
namespace Go.Proofs.YtdoeejhdenifpaaGreatDoor
open Go.RowKit Go.Sort Go.Maps Go.Shelf

/-! ### maps.Clone -/
set_option maxHeartbeats 2000000 in
set_option maxRecDepth 100000 in
theorem mclone_any (b : Nat) (es : Array MapEntry) (clock : Nat) (w : World) (hb : w.heap[b]? = some (.map es clock)) :
    Calls Tryz.prog 72 #[.map (some b)] w fun e w' => e = .returned (.map (some w.heap.size)) ∧ w' = w.alloc (.map es clock) := by
  have hq := fun w => run_eql_map_nil_sl (P := Tryz.prog) w 100 _ _ (some b) Tryz.underlying100
  go_enter Tryz.func72, Tryz.ntmps72
  go_wp2
  rw [run_callFunc_extern Tryz.func113 (by kernel_rfl) (by kernel_rfl) (by kernel_rfl) (e := Extern.MapsClone.clone) (by kernel_rfl), run_maps_clone_sl w 100 hb]
  simp only [Result.andThen]
  rw [Oper.upon_value]
  go_wp2
  rw [run_typeAssert_map_sl _ 100 _ _ _ _ Tryz.underlying100]
  simp only [Result.andThen]
  rw [Oper.upon_value]
  go_wp2
  go_ret
  exact ⟨rfl, rfl⟩
/-! ### maps.Keys -/
section
variable {F : Fence} {n : Nat} {P : Program} (w : World) {ops : Array Oper} {rest : List Oper} {o : Oper} {a : Act} {Q : Exit → Act → World → Prop}
theorem wpListIn_range_it (hg : o.guard = none) (m : Operand) (t k e : TypeId) (hop : o.op = Op.range t m) (ht : P.underlying t = some (.map k e)) (b : Nat) (E : List (Ad × Value)) (hm : a.eval m = .map (some b)) (h : MapIs w b E)
    (hK : ∀ w', IterIs w' w.heap.size b E E none → Gr w w' → w'.heap.size = w.heap.size + 1 → wpListIn F n P ops Q rest (a.put o.dst (.pointer (some ⟨w.heap.size, 0, none⟩))) w') :
    wpListIn F n P ops Q (o :: rest) a w := by
  refine wpListIn_plain hg fun K' hK' => ?_
  obtain ⟨w', hrun, r1, r2, r3⟩ := h.range (P := P) ht
  unfold Oper.wpIn
  refine ⟨?_, ?_⟩
  · simp [Oper.about, hop]
  · rw [Oper.semAt_plain F _ _ (by rw [hop]; intro c hc'; cases hc')]
    simp [execOp, hop, hm, hrun, Result.andThen]
    exact hK' _ _ (hK w' r1 r2 r3)
theorem wpListIn_next_it (hg : o.guard = none) (it : Operand) (hop : o.op = Op.next it false) (r b : Nat) (E left : List (Ad × Value)) (cur : Option (Ad × Value)) (hit : a.eval it = .pointer (some ⟨r, 0, none⟩)) (h : IterIs w r b E left cur)
    (hDone : left = [] → wpListIn F n P ops Q rest (a.put o.dst (.tuple #[.bool false])) w)
    (hMore : ∀ (c d : Int) (v : Value) l1 l2 w1, left = l1 ++ ((c, d), v) :: l2 → IterIs w1 r b E (l1 ++ l2) (some ((c, d), v)) → w.grownBy w1 (some r) → w1.heap.size = w.heap.size →
      (Instr.entry (.pointer (some ⟨r, 0, none⟩))).run P w1 = .ok (.tuple #[.agg #[.int .i64 c, .int .i64 d], v]) w1 → wpListIn F n P ops Q rest (a.put o.dst (.tuple #[.bool true, .agg #[.int .i64 c, .int .i64 d], v])) w1) :
    wpListIn F n P ops Q (o :: rest) a w := by
  refine wpListIn_plain hg fun K' hK' => ?_
  unfold Oper.wpIn
  refine ⟨by simp [Oper.about, hop], ?_⟩
  rw [Oper.semAt_plain F _ _ (by rw [hop]; intro c hc'; cases hc')]
  rcases h.next (P := P) o.type with ⟨h0, hrun⟩ | ⟨x, l1, l2, w1, hl, hrun, hI, hgr, hsz⟩
  · simp [execOp, hop, hit, hrun, Result.andThen]
    exact hK' _ _ (hDone h0)
  · simp [execOp, hop, hit, hrun, Result.andThen]
    exact hK' _ _ (hMore x.1.1 x.1.2 x.2 l1 l2 w1 hl hI hgr hsz hI.entry)
end
theorem IterIs.walks {w w' : World} {r b : Nat} {E left : List (Ad × Value)} {cur : Option (Ad × Value)} (h : IterIs w r b E left cur) (hk : KeepsWalks w w') : IterIs w' r b E left cur := by
  obtain ⟨es, clock, seen, h1, h2, h3, h4, h5⟩ := h
  exact ⟨es, clock, seen, hk.same b _ h1 rfl, h2, h3, hk.same r _ h4 rfl, h5⟩
theorem IterIs.isWalk {w : World} {r b : Nat} {E left : List (Ad × Value)} {cur : Option (Ad × Value)} (h : IterIs w r b E left cur) : ∃ o : Obj, w.heap[r]? = some o ∧ o.isWalk = true := by
  obtain ⟨es, clock, seen, h1, h2, h3, h4, h5⟩ := h
  exact ⟨_, h4, rfl⟩
theorem Gr.grown {w w' : World} (h : Gr w w') : w.grownBy w' none := by
  obtain ⟨q, os, rfl⟩ := h
  exact ⟨rfl, rfl, rfl, by simp [World.drewN], fun k hk _ => heap_grow_old _ _ hk⟩
/-- How many are to come, read off the world. -/
noncomputable def itLeft (w : World) (b r : Nat) : Nat := match w.heap[b]?, w.heap[r]? with
  | some (.map es _), some (.mapIter _ _ seen _) => (leftOf es seen).size
  | _, _ => 0
theorem IterIs.itLeft {w : World} {r b : Nat} {E left : List (Ad × Value)} {cur : Option (Ad × Value)} (h : IterIs w r b E left cur) : itLeft w b r = left.length := by
  obtain ⟨es, clock, seen, h1, h2, h3, h4, h5, _⟩ := h
  simp only [YtdoeejhdenifpaaGreatDoor.itLeft, h1, h4]
  have := congrArg List.length h5
  simpa using this
abbrev adW (x : Ad) : Value := .agg #[.int .i64 x.1, .int .i64 x.2]
set_option maxRecDepth 100000 in
set_option maxHeartbeats 2000000 in
theorem keys1_in (F : Fence) (n : Nat) (hf : F.fn 152) (hro : F.round = none) (hn : 1 ≤ n) (l Bm b : Nat) (E : List (Ad × Value)) (J Jx : List Ad → World → Prop)
    (hY : ∀ pre x W, J pre W → pre.length < E.length → YieldAt F (n - 1) Tryz.prog l #[adW x] W fun e W' => (e = .returned (.bool true) ∧ J (pre ++ [x]) W' ∧ KeepsWalks W W') ∨ (e = .returned (.bool false) ∧ Jx (pre ++ [x]) W'))
    (W : World) (hJ : AbidesFrom W.heap.size J) (hm : W.cell? ⟨Bm, 0, none⟩ = some (.map (some b))) (hown : MapIs W b E) (h0 : J [] W) :
    CallsIn F n Tryz.prog 152 #[.func (.yield l) #[] #[], .pointer (some ⟨Bm, 0, none⟩)] W fun e W' => (∃ v, e = .returned v) ∧ ((∃ ks : List Ad, ks.Perm (E.map (·.1)) ∧ J ks W') ∨ (∃ pre, True ∧ Jx pre W')) := by
  refine callsIn_of_wp Tryz.func152 rfl hf ?_ hro
  simp only [Tryz.ntmps152, List.size_toArray, List.length_cons, List.length_nil, Nat.reduceAdd, Nat.reduceSub, Array.replicate_succ, Array.replicate_zero, List.push_toArray, List.append_toArray, List.nil_append, List.cons_append]
  gi_wp2_with (first
    | (gi_at_range; refine wpListIn_range_it _ rfl _ 100 24 51 rfl Tryz.underlying100 b E rfl hown ?_; intro w0 hI0 hg0 hs0)
    | gi_in)
  go_frame
  gi_loopw [3] (fun _ wr => ∃ (left : List (Ad × Value)) (cur : Option (Ad × Value)) (ks : List Ad), IterIs wr W.heap.size b E left cur ∧ Hid ((ks ++ left.map (·.1)).Perm (E.map (·.1))) ∧ J ks wr ∧ wr.heap.size ≥ W.heap.size)
    (fun _ wr => itLeft wr b W.heap.size)
  case atStart => exact ⟨E, none, [], hI0, by unfold Hid; simp, hJ [] W w0 none h0 hg0.grown (fun r e => by cases e), by omega⟩
  case round =>
    obtain ⟨left, cur, ks, hI, HP, hJs, hsz⟩ := hrel
    gi_wp2_with (first
      | (gi_at_next; refine wpListIn_next_it _ rfl _ rfl _ _ _ _ _ rfl hI ?_ ?_)
      | gi_in)
    · intro hl0
      subst hl0
      gi_wp2
      go_end0
      exact ⟨⟨_, rfl⟩, Or.inl ⟨ks, by have := HP.out; simpa using this, hJs⟩⟩
    · intro c d v l1 l2 w1 hl hI1 hg1 hs1 hen
      have HL := Lib.hid hl
      have hkl : ks.length < E.length := by
        have := HP.out.length_eq
        rw [hl] at this; simp at this; omega
      have hJ1 : J ks w1 := hJ ks wr w1 (some W.heap.size) hJs hg1 (fun r e => by cases e; exact ⟨Nat.le_refl _, hI.isWalk⟩)
      have hJ2 : J ks (w1.alloc (.cells #[.int .i64 c, .int .i64 d] 24)) := hJ ks w1 _ none hJ1 (World.grownBy_alloc w1 _ none) (fun r e => by cases e)
      obtain ⟨fn, tmps, assign, body, hy, hR⟩ := hY ks (c, d) _ hJ2 hkl
      have hI2 : IterIs (w1.alloc (.cells #[.int .i64 c, .int .i64 d] 24)) W.heap.size b E (l1 ++ l2) (some ((c, d), v)) := hI1.walks (KeepsWalks.alloc _ _)
      clear hl hs1
      (try dsimp only at hy)
      gi_wp2
      refine hR.mono ?_
      rintro e W3 (⟨rfl, hJ3, hk3⟩ | ⟨rfl, hJ3⟩)
      rotate_left
      · gi_wp2
        refine bodyPost_ret (results_none rfl _ _ _) rfl ?_
        exact ⟨⟨_, rfl⟩, Or.inr ⟨_, trivial, hJ3⟩⟩
      gi_wp2
      have hI3 := hI2.walks hk3
      have hs3 := hk3.size
      go_roundw
      case rel =>
        refine ⟨l1 ++ l2, _, ks ++ [(c, d)], hI3, ?_, hJ3, by have := hg1.size; simp at hs3; omega⟩
        refine List.Perm.trans ?_ HP.out
        rw [HL.out]
        simp only [List.map_append, List.map_cons, List.append_assoc, List.singleton_append]
        exact List.Perm.append_left _ List.perm_middle.symm
      case measure => rw [hI3.itLeft, hI.itLeft, HL.out]; simp
/-- maps.Keys: the map is boxed, the function value captures the box. -/
theorem keys_in (F : Fence) (n : Nat) (hf : F.fn 118) (hro : F.round = none) (mb : Option Nat) (w : World) :
    CallsIn F n Tryz.prog 118 #[.map mb] w fun e w' => e = .returned (.func (.func 152) #[] #[.pointer (some ⟨w.heap.size, 0, none⟩)]) ∧ w' = w.alloc (.cells #[.map mb] 100) := by
  refine callsIn_of_wp Tryz.func118 rfl hf ?_ hro
  simp only [Tryz.ntmps118, List.size_toArray, List.length_cons, List.length_nil, Nat.reduceAdd, Nat.reduceSub, Array.replicate_succ, Array.replicate_zero, List.push_toArray, List.append_toArray, List.nil_append, List.cons_append]
  gi_wp2
  go_ret
  exact ⟨rfl, rfl⟩
/-- What it hands back gives the keys, each once, in some order. -/
theorem keys_stops (F : Fence) (n : Nat) (hf : F.fn 152) (hro : F.round = none) (hn : 1 ≤ n) (Bm b : Nat) (E : List (Ad × Value)) (w : World) (hBm : Bm < w.heap.size) (hm : w.cell? ⟨Bm, 0, none⟩ = some (.map (some b))) (hown : MapIs w b E) :
    SeqStopsK F n Tryz.prog 152 #[.pointer (some ⟨Bm, 0, none⟩)] (fun x : Ad => #[adW x]) KeepsWalks (fun ks => ks.Perm (E.map (·.1))) (fun _ => True) E.length w := fun l J Jx W hW hJ _ hY h0 =>
  keys1_in F n hf hro hn l Bm b E J Jx hY W hJ ((hW.cell (p := ⟨Bm, 0, none⟩) hBm).trans hm) (hown.of_heap (hW.block b hown.lt)) h0
end Go.Proofs.YtdoeejhdenifpaaGreatDoor
namespace Go.Proofs.YtdoeejhdenifpaaGreatDoor
open Go.RowKit Go.Sort Go.Maps Go.Shelf
attribute [local go_sem] Oper.semAt_some

/-! ### slices.AppendSeq, slices.Collect, slices.SortedFunc -/
theorem OwnL.own_from {α : Type} {enc : α → List Value} {X Y : World} {base : Nat} {e : TypeId} {size : Nat} {v : Value} {l : List α} {row : Option Nat} (h : OwnL X base e size enc v l) (hg : X.grownBy Y row) (hr : ∀ r, row = some r → ∃ o : Obj, X.heap[r]? = some o ∧ o.isCells = false) : OwnL Y base e size enc v l := by
  refine World.ownsRow.kept h hg ?_
  rcases h.2 with ⟨rfl, _⟩ | ⟨g, cap, cur, rfl, _, hgb, _⟩
  · exact .inl rfl
  · refine .inr fun e' => ?_
    obtain ⟨o, ho, hc⟩ := hr g (by simpa [Value.ownBlock] using e'.symm)
    rw [hgb] at ho; cases ho; cases hc
theorem infoAd : (Tryz.prog.info? 24).map (fun i => (i.zero, i.size, i.bytes)) = some (some (.agg #[.int .i64 0, .int .i64 0]), 2, 16) := by kernel_rfl
set_option maxRecDepth 100000 in
set_option maxHeartbeats 4000000 in
theorem appendSeq_in (g : Nat) (lb : Array Value) (eg : ∀ args w, (callFunc g args).run Tryz.prog w = .ok (.enter g args) w) (S Sp : List Ad → Prop) (N : Nat) (hN : N ≤ 8192) (n : Nat) (hn : 2 ≤ n) (w : World) (hseq : SeqStopsK Fence.wide (n - 1) Tryz.prog g lb (fun x : Ad => #[adW x]) KeepsWalks S Sp N w) :
    CallsIn Fence.wide n Tryz.prog 165 #[.slice none 0 0, .func (.func g) #[] lb] w fun e w' => ∃ (v : Value) (ks : List Ad), e = .returned v ∧ S ks ∧ OwnL w' w.heap.size 24 2 adC v ks ∧ Below w.heap.size w w' := by
  obtain ⟨i0, hi, hz0, hz1, hz2⟩ := info_parts infoAd
  refine callsIn_of_wp_marks Tryz.func165 rfl trivial ?_ rfl
  simp only [Tryz.ntmps165, List.size_toArray, List.length_cons, List.length_nil, Nat.reduceAdd, Nat.reduceSub, Array.replicate_succ, Array.replicate_zero, List.push_toArray, List.append_toArray, List.nil_append, List.cons_append]
  gi_wp2
  obtain ⟨W0, hW0⟩ : ∃ W0, w.alloc (.cells #[.slice none 0 0] 80) = W0 := ⟨_, rfl⟩
  have bS : Boxed W0 w.heap.size 80 (.slice none 0 0) := by rw [← hW0]; exact Boxed.new w _ _
  have hB0 : Below w.heap.size w W0 := by rw [← hW0]; exact (Below.refl _ w).alloc (Nat.le_refl _) _
  have hsz : W0.heap.size = w.heap.size + 1 := by rw [← hW0]; simp
  rw [hW0]
  clear hW0
  refine wpIn_rangeFunc_ownH (F := Fence.wide) rfl (by omega) (gf := g) (lb := lb) rfl trivial eg hseq walksK_t walksK_b hB0 (fun _ => rfl)
    (fun pre W => (∃ v, Boxed W w.heap.size 80 v ∧ OwnL W w.heap.size 24 2 adC v pre) ∧ Below w.heap.size w W)
    (fun _ _ _ => False)
    (OwnFrom.and (fun s X Y row hs hg hr => by
      obtain ⟨v, hv, ho⟩ := hs
      exact ⟨v, boxed_own w.heap.size 80 (fun (_ : Unit) => v) () X Y row hv hg (fun r e => (hr r e).2), ho.own_from hg (fun r e => (hr r e).2)⟩) (ownFrom_below (Nat.le_refl _) (by omega)))
    (fun _ _ _ _ _ hs _ _ => hs)
    ⟨⟨_, bS, World.ownsRow_nil _ _ _ _⟩, hB0⟩
    (fun x a' W => ∃ Bx, W.heap[Bx]? = some (.cells #[.int .i64 x.1, .int .i64 x.2] 24 (0, 0)) ∧ a' = { tmps := #[.slice none 0 0, .func (.func g) #[] lb, .pointer (some ⟨w.heap.size, 0, none⟩), undef, .slice none 0 0, .pointer (some ⟨Bx, 0, none⟩), .func (.func g) #[] lb, .agg #[.int .i64 x.1, .int .i64 x.2], undef, undef, undef, undef, undef], defers := [] })
    (fun x a' _ X Y row hs hg hr => by
      obtain ⟨Bx, h1, h2⟩ := hs
      refine ⟨Bx, (hg.block Bx (Array.getElem?_eq_some_iff.1 h1).1 (fun e => ?_)).trans h1, h2⟩
      obtain ⟨_, o, ho, hc⟩ := hr Bx e.symm
      rw [h1] at ho; cases ho; cases hc)
    ?assign ?body ?done ?stop
  case assign =>
    rintro l pre x W K ⟨⟨v, hv, ho⟩, hB⟩ hK
    gi_wp2
    exact hK _ _ ((KeepsOthers.alloc _ _).from _) (KeepsWalks.alloc _ _) ⟨⟨v, hv.alloc _, ho.alloc _⟩, hB.alloc hB.size _⟩ ⟨W.heap.size, World.alloc_heap_new W _, rfl⟩
  case body =>
    rintro l pre x a' W hl ⟨r, hr⟩ ⟨⟨v, hv, ho⟩, hB⟩ ⟨Bx, hBx, rfl⟩ hlt
    have hc0 : W.cell? ⟨Bx, 0, none⟩ = some (.int .i64 x.1) := by simp [World.cell?, hBx]
    have hc1 : W.cell? ⟨Bx, 1, none⟩ = some (.int .i64 x.2) := by simp [World.cell?, hBx]
    have hcv := hv.cell
    have hle := hB.size
    gi_wp2_with (first
      | (gi_at_builtin; refine wpListIn_append_own _ rfl _ _ 80 rfl w.heap.size 24 i0 _ 2 16 Tryz.underlying80 hi hz0 hz1 hz2 rfl (by decide) _ _ _ rfl (World.ownsRow.alloc (w := W) ho _) ⟨W.heap.size, 0, none⟩ 1 1 [.int .i64 x.1, .int .i64 x.2] rfl rfl (news_at W [.int .i64 x.1, .int .i64 x.2] 24 rfl) (adC_one x) (by unfold maxLen; omega) (by omega) (by simp; omega) ?_; intro v' w1 hown' hgrow _; obtain ⟨g', cap', rfl⟩ := ownsRow_succ hown'; obtain ⟨hv1, hv2, hr2, hk2, hb2⟩ := hv.appended (by decide) ho hle (Nat.le_refl _) hown' hgrow; have hc1' := hv1.cell; have hf1 := hv1.frozen)
      | gi_in)
    exact ⟨hk2.from _, ⟨hk2.size, fun k o hk hw => hk2.same k o hk (Obj.not_cells_of_walk hw)⟩, ⟨_, hv2, by unfold OwnL; simpa [adC] using hr2⟩, hB.trans hb2⟩
  case done =>
    rintro D xs W hD hS ⟨⟨v, hv, ho⟩, hB⟩ hK
    have hcv := hv.cell
    gi_wp2
    refine ⟨by simp, .inl ⟨_, _, rfl, run_takeDeferred hK, ?_⟩⟩
    exact ⟨_, results_tmp rfl _ _ _, v, xs, rfl, hS, ho.own_from (grownBy_putObj' W D _) (fun r e => by cases e; exact ⟨_, hK, rfl⟩), hB.trans (belowK_b (w := w) (Nat.le_refl _) W D _ _ (by omega) hK rfl rfl)⟩
  case stop =>
    rintro D c pre W hD hS hF
    exact hF.elim
set_option maxRecDepth 100000 in
set_option maxHeartbeats 2000000 in
theorem collect_in (g : Nat) (lb : Array Value) (eg : ∀ args w, (callFunc g args).run Tryz.prog w = .ok (.enter g args) w) (S Sp : List Ad → Prop) (N : Nat) (hN : N ≤ 8192) (n : Nat) (hn : 3 ≤ n) (w : World) (hseq : SeqStopsK Fence.wide (n - 1 - 1) Tryz.prog g lb (fun x : Ad => #[adW x]) KeepsWalks S Sp N w) :
    CallsIn Fence.wide n Tryz.prog 150 #[.func (.func g) #[] lb] w fun e w' => ∃ (v : Value) (ks : List Ad), e = .returned v ∧ S ks ∧ OwnL w' w.heap.size 24 2 adC v ks ∧ Below w.heap.size w w' := by
  refine callsIn_of_wp Tryz.func150 rfl trivial ?_ rfl
  simp only [Tryz.ntmps150, List.size_toArray, List.length_cons, List.length_nil, Nat.reduceAdd, Nat.reduceSub, Array.replicate_succ, Array.replicate_zero, List.push_toArray, List.append_toArray, List.nil_append, List.cons_append]
  have h1 : 1 ≤ n := by omega
  have hf : Fence.wide.fn 165 := trivial
  gi_wp2_with (gi_at_call 165; refine (appendSeq_in g lb eg S Sp N hN (n - 1) (by omega) w hseq).mono ?_; rintro e w' ⟨v, ks, rfl, hS, ho, hb⟩)
  go_ret
  exact ⟨v, ks, rfl, hS, ho, hb⟩
set_option maxRecDepth 100000 in
set_option maxHeartbeats 2000000 in
theorem sortedFunc_in (g : Nat) (lb : Array Value) (eg : ∀ args w, (callFunc g args).run Tryz.prog w = .ok (.enter g args) w) (S Sp : List Ad → Prop) (N : Nat) (hN : N ≤ 8192) (hSN : ∀ ks, S ks → ks.length ≤ 8192) (n : Nat) (hn : 4 ≤ n) (w : World) (hseq : SeqStopsK Fence.wide (n - 1 - 1 - 1) Tryz.prog g lb (fun x : Ad => #[adW x]) KeepsWalks S Sp N w) :
    CallsIn Fence.wide n Tryz.prog 117 #[.func (.func g) #[] lb, .func (.func 119) #[] #[]] w fun e w' => ∃ (v : Value) (ks : List Ad), e = .returned v ∧ S ks ∧ OwnL w' w.heap.size 24 2 adC v (sortL adLt ks) ∧ Below w.heap.size w w' := by
  refine callsIn_of_wp Tryz.func117 rfl trivial ?_ rfl
  simp only [Tryz.ntmps117, List.size_toArray, List.length_cons, List.length_nil, Nat.reduceAdd, Nat.reduceSub, Array.replicate_succ, Array.replicate_zero, List.push_toArray, List.append_toArray, List.nil_append, List.cons_append]
  have h1 : 1 ≤ n := by omega
  have hf : Fence.wide.fn 150 := trivial
  have hf2 : Fence.wide.fn 151 := trivial
  gi_wp2_with (gi_at_call 150; refine (collect_in g lb eg S Sp N hN (n - 1) (by omega) w hseq).mono ?_; rintro e w1 ⟨v, ks, rfl, hS, ho, hb⟩)
  have hl := hSN ks hS
  have hcs := callsIn_wide (n := n - 1).2 (sortAd_own ho (by omega))
  gi_wp2_with (gi_at_call 151; refine hcs.mono ?_; rintro e w2 ⟨rfl, ho2, hg2⟩)
  go_ret
  exact ⟨v, ks, rfl, hS, ho2, Below.grown hb hg2 hb.size (fun k hk => (World.ownsRow.lt ho k hk).1)⟩
end Go.Proofs.YtdoeejhdenifpaaGreatDoor
namespace Go.Proofs.YtdoeejhdenifpaaGreatDoor
open Go.RowKit Go.Sort Go.Maps Go.Shelf

/-! ### what a round over a grid must keep -/
/-- A (2 * e): cells of type e are kept too; A (2 * k + 1): the map at block k need not be. -/
def keptO (A : Nat → Bool) (k : Nat) : Obj → Bool
  | .cells _ e _ => e == 24 || e == 99 || e == 29 || A (2 * e)
  | .map _ _ => !A (2 * k + 1)
  | o => o.isWalk
structure KeepsT (A : Nat → Bool) (W W' : World) : Prop where
  size : W.heap.size ≤ W'.heap.size
  same : ∀ (k : Nat) (o : Obj), W.heap[k]? = some o → keptO A k o = true → W'.heap[k]? = some o
theorem KeepsT.refl (A : Nat → Bool) (W : World) : KeepsT A W W := ⟨Nat.le_refl _, fun _ _ h _ => h⟩
theorem KeepsT.trans {A : Nat → Bool} {X Y Z : World} (h : KeepsT A X Y) (k : KeepsT A Y Z) : KeepsT A X Z := ⟨Nat.le_trans h.size k.size, fun i o hi ho => k.same i o (h.same i o hi ho) ho⟩
theorem KeepsT.of_xt {A : Nat → Bool} {W W' : World} (h : Xt W W') : KeepsT A W W' := ⟨h.size, fun k _o hk _ => (h.block k (Array.getElem?_eq_some_iff.1 hk).1).trans hk⟩
theorem KeepsT.of_grown {A : Nat → Bool} {W W' : World} {row : Option Nat} (h : W.grownBy W' row) (hr : ∀ j o, row = some j → W.heap[j]? = some o → keptO A j o = false) : KeepsT A W W' :=
  ⟨h.size, fun k o hk ho => (h.block k (Array.getElem?_eq_some_iff.1 hk).1 (fun e => by rw [hr k o e.symm hk] at ho; cases ho)).trans hk⟩
theorem MapIs.keptT {A : Nat → Bool} {w w' : World} {b : Nat} {E : List (Ad × Value)} (h : MapIs w b E) (hk : KeepsT A w w') (hA : A (2 * b + 1) = false) : MapIs w' b E := by
  obtain ⟨es, clock, h1, h2⟩ := h
  exact ⟨es, clock, hk.same b _ h1 (by simp [keptO, hA]), h2⟩
theorem OwnL.keptT {A : Nat → Bool} {w w' : World} {B : Nat} {v : Value} {l : List Ad} (h : OwnL w B 24 2 adC v l) (hk : KeepsT A w w') : OwnL w' B 24 2 adC v l := by
  refine ⟨h.1, ?_⟩
  rcases h.2 with q | ⟨g, cap, cur, q1, q2, q3, q4⟩
  · exact Or.inl q
  · exact Or.inr ⟨g, cap, cur, q1, q2, hk.same g _ q3 (by simp [keptO]), q4⟩
theorem Xt.grownN {W W' : World} (h : Xt W W') : W.grownBy W' none := ⟨h.os, h.tape, h.output, h.size, fun k hk _ => h.block k hk⟩
/-- What the iterator over a grid stands on, between two rounds. -/
structure ItSt (A : Nat → Bool) (n₀ : Nat) (w0 : World) (wf : Nat) (wl : Array Value) (Bw mb kb : Nat) (E : List (Ad × Value)) (v : Value) (keys : List Ad) (wr : World) : Prop where
  below : Below n₀ w0 wr
  want : wr.heap[Bw]? = some (.cells #[.func (.func wf) #[] wl] 99 (0, 0))
  was : MapIs wr mb E
  keys : OwnL wr kb 24 2 adC v keys
  free : A (2 * mb + 1) = false
theorem ItSt.step {A : Nat → Bool} {n₀ : Nat} {w0 : World} {wf : Nat} {wl : Array Value} {Bw mb kb : Nat} {E : List (Ad × Value)} {v : Value} {keys : List Ad} {wr wr' : World} (h : ItSt A n₀ w0 wf wl Bw mb kb E v keys wr) (hb : Below n₀ wr wr') (hk : KeepsT A wr wr') : ItSt A n₀ w0 wf wl Bw mb kb E v keys wr' :=
  ⟨h.below.trans hb, hk.same _ _ h.want (by simp [keptO]), h.was.keptT hk h.free, h.keys.keptT hk, h.free⟩
theorem ItSt.xt {A : Nat → Bool} {n₀ : Nat} {w0 : World} {wf : Nat} {wl : Array Value} {Bw mb kb : Nat} {E : List (Ad × Value)} {v : Value} {keys : List Ad} {wr wr' : World} (h : ItSt A n₀ w0 wf wl Bw mb kb E v keys wr) (hn : n₀ ≤ w0.heap.size) (hx : Xt wr wr') : ItSt A n₀ w0 wf wl Bw mb kb E v keys wr' :=
  h.step (hx.mono (Nat.le_trans hn h.below.size)) (KeepsT.of_xt hx)
/-- An entry as it is told: its cell, its content, where its copy's list lies. -/
abbrev TE := Ad × ContT × Option Addr
abbrev teV (x : TE) : Array Value := #[adW x.1, copyCV x.2.1 x.2.2]
/-- What is known of what is told: its copy's nodes lie in blocks that have been laid since V. -/
def toldT (V : World) (x : TE) (w : World) : Prop := Xt V w ∧ smallT x.2.1.t ∧ ∃ n, ArgsS (fun b => V.heap.size ≤ b) w n (.slice x.2.2 x.2.1.t.args.length x.2.1.t.args.length) (copyL x.2.1.t.args)
/-- The same; and the grid has it. -/
def toldM (M : GM) (V : World) (x : TE) (w : World) : Prop := toldT V x w ∧ (x.1, x.2.1) ∈ M.map (fun y => (y.1, y.2.1))
theorem rowCells_own {X Y : World} {row : Option Nat} {B : Nat} {cs : Array Value} {T : TypeId} {fz : Nat × Nat} (h : X.heap[B]? = some (.cells cs T fz)) (hg : X.grownBy Y row) (hr : ∀ r, row = some r → ∃ o : Obj, X.heap[r]? = some o ∧ o.isCells = false) : Y.heap[B]? = some (.cells cs T fz) := by
  refine (hg.block B (Array.getElem?_eq_some_iff.1 h).1 (fun e => ?_)).trans h
  obtain ⟨o, ho, hc⟩ := hr B e.symm
  rw [h] at ho; cases ho; cases hc
theorem cellsIn_walk {w w' : World} {row : Option Nat} (hg : w.grownBy w' row) (hr : ∀ r, row = some r → ∃ o : Obj, w.heap[r]? = some o ∧ o.isCells = false) : CellsIn w w' := fun b o u hu => by
  refine (World.cell?_of_block (w := w) (a := ⟨b, o, none⟩) (hg.block b (World.block_lt_of_cell? w _ hu) (fun e => ?_))).trans hu
  obtain ⟨ob, h1, h2⟩ := hr b e.symm
  simp only [World.cell?, h1] at hu
  cases ob <;> simp_all [Obj.isCells]
theorem keepsFrom_xt {w w' : World} (hx : Xt w w') (B : Nat) : KeepsFrom B w w' := ⟨hx.size, fun k _ _ hk _ => (hx.block k (Array.getElem?_eq_some_iff.1 hk).1).trans hk⟩
end Go.Proofs.YtdoeejhdenifpaaGreatDoor
/- A slice of one's own, opened. -/
namespace Go.Proofs.YtdoeejhdenifpaaGreatDoor
open Go.RowKit Go.Sort Go.Maps Go.Shelf

theorem OwnL.slice {α : Type} {w : World} {B : Nat} {T : TypeId} {k : Nat} {enc : α → List Value} {v : Value} {l : List α} (h : OwnL w B T k enc v l) {n : Nat} (hn : l.length = n) : ∃ a c, v = .slice a n c ∧ n ≤ c ∧ c ≤ 9223372036854775807 := by
  rcases h.2 with ⟨rfl, h0⟩ | ⟨g, cap, cur, rfl, _, _, h1, h2, _⟩
  · exact ⟨none, 0, by rw [← hn, h0], by omega, by omega⟩
  · exact ⟨_, cap, by rw [← hn], by omega, by simp only [maxLen] at h2; omega⟩
theorem keys_at {w : World} {B : Nat} {va : Option Addr} {n vc : Nat} {l : List Ad} (h : OwnL w B 24 2 adC (.slice va n vc) l) {i : Nat} {x : Ad} (hx : l[i]? = some x) : ∃ b off, va = some ⟨b, off, none⟩ ∧ w.cell? ⟨b, off + i * 2, none⟩ = some (.int .i64 x.1) ∧ w.cell? ⟨b, off + i * 2 + 1, none⟩ = some (.int .i64 x.2) := by
  obtain ⟨a, cap, e, _, _, hc⟩ := OwnL.sl h adC_len
  cases e
  obtain ⟨b, off, rfl, hcell⟩ := hc (by intro e; subst e; simp at hx)
  exact ⟨b, off, rfl, hcell i x hx 0 _ rfl, hcell i x hx 1 _ rfl⟩
end Go.Proofs.YtdoeejhdenifpaaGreatDoor
