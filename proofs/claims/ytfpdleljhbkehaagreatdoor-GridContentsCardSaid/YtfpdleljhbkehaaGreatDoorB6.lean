import Derived.Test.YtfpdleljhbkehaaGreatDoorV19
import Derived.Test.YtfpdleljhbkehaaGreatDoorB7
import Derived.Test.YtfpdleljhbkehaaGreatDoorV17
import Derived.Deep.Cut
/- grid.Copy, telling that its lists are its owner's (made by mkv19.py). -/
namespace Go.Proofs.YtfpdleljhbkehaaGreatDoor
open Go.RowKit Go.Sort

def GCopyO (c : ContT) (n : Nat) (w : World) (e : Ending) (w' : World) : Prop := ∃ a', e = .returned (copyCV c a') ∧ OwnIn (fun b => w.heap.size ≤ b) w' n (.slice a' c.t.args.length c.t.args.length) (copyL c.t.args) ∧ Xt w w'
set_option maxRecDepth 100000 in
set_option maxHeartbeats 4000000 in
theorem gcopyO_any (n : Nat) (c : ContT) (a : Option Addr) (cap : Nat) (w : World) (hsm : smallT c.t) (hin : ArgsIn w n (.slice a c.t.args.length cap) c.t.args) :
    Calls Tryz.prog 12 #[contV c a c.t.args.length cap] w (GCopyO c n w) := by
  have HSM := Lib.hid hsm
  have HIN := Lib.hid hin
  have HF := Lib.hid (fcopyO_any n)
  obtain ⟨B, hB⟩ : ∃ B, w.heap.size = B := ⟨_, rfl⟩
  obtain ⟨w0, hw0⟩ : ∃ w0, w.alloc (.cells #[.int .i64 c.kind, .int .i64 c.v.kind, .float .f64 c.v.x, .string c.v.s, .bool c.v.b, .int .i64 c.v.f, .int .i64 c.t.kind, .int .i64 c.t.op, .float .f64 c.t.x, .string c.t.s, .bool c.t.b, .int .i64 c.t.f, .int .i64 c.t.ref.a.1, .int .i64 c.t.ref.a.2, .bool c.t.ref.cf, .bool c.t.ref.rf, .int .i64 c.t.to.a.1, .int .i64 c.t.to.a.2, .bool c.t.to.cf, .bool c.t.to.rf, .slice a c.t.args.length cap] 33) = w0 := ⟨_, rfl⟩
  have hs0 : w0.heap.size = B + 1 := by rw [← hw0, ← hB]; simp
  have hb0 : w0.heap[B]? = some (.cells #[.int .i64 c.kind, .int .i64 c.v.kind, .float .f64 c.v.x, .string c.v.s, .bool c.v.b, .int .i64 c.v.f, .int .i64 c.t.kind, .int .i64 c.t.op, .float .f64 c.t.x, .string c.t.s, .bool c.t.b, .int .i64 c.t.f, .int .i64 c.t.ref.a.1, .int .i64 c.t.ref.a.2, .bool c.t.ref.cf, .bool c.t.ref.rf, .int .i64 c.t.to.a.1, .int .i64 c.t.to.a.2, .bool c.t.to.cf, .bool c.t.to.rf, .slice a c.t.args.length cap] 33 (0, 0)) := by rw [← hw0, ← hB]; exact (MapKept.heap_alloc w _).1
  have hx0 : Xt w w0 := by rw [← hw0]; exact (Xt.refl w).alloc _
  obtain ⟨wS, hwS⟩ : ∃ wS, w0.alloc (.cells #[.int .i64 0, .int .i64 0, .float .f64 0, .string ⟨#[]⟩, .bool false, .int .i64 0, .int .i64 0, .int .i64 0, .float .f64 0, .string ⟨#[]⟩, .bool false, .int .i64 0, .int .i64 0, .int .i64 0, .bool false, .bool false, .int .i64 0, .int .i64 0, .bool false, .bool false, .slice none 0 0] 33) = wS := ⟨_, rfl⟩
  have hxS : Xt w wS := by rw [← hwS]; exact hx0.alloc _
  have hbS : wS.heap[B]? = some (.cells #[.int .i64 c.kind, .int .i64 c.v.kind, .float .f64 c.v.x, .string c.v.s, .bool c.v.b, .int .i64 c.v.f, .int .i64 c.t.kind, .int .i64 c.t.op, .float .f64 c.t.x, .string c.t.s, .bool c.t.b, .int .i64 c.t.f, .int .i64 c.t.ref.a.1, .int .i64 c.t.ref.a.2, .bool c.t.ref.cf, .bool c.t.ref.rf, .int .i64 c.t.to.a.1, .int .i64 c.t.to.a.2, .bool c.t.to.cf, .bool c.t.to.rf, .slice a c.t.args.length cap] 33 (0, 0)) := by rw [← hwS]; exact (Below.heap_alloc w0 _ B (by omega)).trans hb0
  have hrS : wS.heap[B + 1]? = some (.cells #[.int .i64 0, .int .i64 0, .float .f64 0, .string ⟨#[]⟩, .bool false, .int .i64 0, .int .i64 0, .int .i64 0, .float .f64 0, .string ⟨#[]⟩, .bool false, .int .i64 0, .int .i64 0, .int .i64 0, .bool false, .bool false, .int .i64 0, .int .i64 0, .bool false, .bool false, .slice none 0 0] 33 (0, 0)) := by rw [← hwS, ← hs0]; exact (MapKept.heap_alloc w0 _).1
  have hsS : B + 1 < wS.heap.size := (Array.getElem?_eq_some_iff.1 hrS).1
  have HB := Lib.hid hB
  have HXS := Lib.hid hxS
  have HBS := Lib.hid hbS
  have HRS := Lib.hid hrS
  obtain ⟨c0, c1, c2, c3, c4, c5, c6, c7, c8, c9, c10, c11, c12, c13, c14, c15, c16, c17, c18, c19, c20⟩ := cells21 hbS
  clear hsm hin hxS hbS hrS hx0 hb0
  generalize hQ : GCopyO c n w = Q
  go_enter Tryz.func12, Tryz.ntmps12
  have hHs : w.heap.size = B := hB
  go_wp2_with (refine (OfNumber_any _ _).mono ?_; rintro e w1 ⟨rfl, hg1⟩
               have hb1 := (hg1.below.block B (by omega)).trans HBS.out
               have hr1 := (hg1.below.block (B + 1) hsS).trans HRS.out
               have hx1 := hg1.xt
               obtain ⟨d0, d1, d2, d3, d4, d5, d6, d7, d8, d9, d10, d11, d12, d13, d14, d15, d16, d17, d18, d19, d20⟩ := cells21 hb1
               obtain ⟨f0, f1, f2, f3, f4, f5, f6, f7, f8, f9, f10, f11, f12, f13, f14, f15, f16, f17, f18, f19, f20⟩ := frozen21 hb1)
  obtain ⟨w2, hw2⟩ : ∃ w2, w1.setCell ⟨B, 2, none⟩ (.float .f64 (oneX c.v.x)) = w2 := ⟨_, rfl⟩
  rw [hw2]
  have hb2 : w2.heap[B]? = some (.cells #[.int .i64 c.kind, .int .i64 c.v.kind, .float .f64 (oneX c.v.x), .string c.v.s, .bool c.v.b, .int .i64 c.v.f, .int .i64 c.t.kind, .int .i64 c.t.op, .float .f64 c.t.x, .string c.t.s, .bool c.t.b, .int .i64 c.t.f, .int .i64 c.t.ref.a.1, .int .i64 c.t.ref.a.2, .bool c.t.ref.cf, .bool c.t.ref.rf, .int .i64 c.t.to.a.1, .int .i64 c.t.to.a.2, .bool c.t.to.cf, .bool c.t.to.rf, .slice a c.t.args.length cap] 33 (0, 0)) := by rw [← hw2]; have := setCell_row hb1 2 (.float .f64 (oneX c.v.x)); simpa using this
  have hr2 : w2.heap[B + 1]? = some (.cells #[.int .i64 0, .int .i64 0, .float .f64 0, .string ⟨#[]⟩, .bool false, .int .i64 0, .int .i64 0, .int .i64 0, .float .f64 0, .string ⟨#[]⟩, .bool false, .int .i64 0, .int .i64 0, .int .i64 0, .bool false, .bool false, .int .i64 0, .int .i64 0, .bool false, .bool false, .slice none 0 0] 33 (0, 0)) := by rw [← hw2]; exact (Below.heap_setCell _ _ _ _ (by show B + 1 ≠ B; omega)).trans hr1
  have hx2 : Xt w w2 := by rw [← hw2]; exact (HXS.out.trans hx1).grownB (setCell_grown _ _ _ _) (fun m hm => by cases hm; omega)
  have hs2 : B + 1 < w2.heap.size := (Array.getElem?_eq_some_iff.1 hr2).1
  clear c0 c1 c2 c3 c4 c5 c6 c7 c8 c9 c10 c11 c12 c13 c14 c15 c16 c17 c18 c19 c20 d0 d1 d2 d3 d4 d5 d6 d7 d8 d9 d10 d11 d12 d13 d14 d15 d16 d17 d18 d19 d20 f0 f1 f2 f3 f4 f5 f6 f7 f8 f9 f10 f11 f12 f13 f14 f15 f16 f17 f18 f19 f20 hb1 hr1 hg1 hx1 hw2
  refine (HF.out c.t a cap w2 HSM.out (HIN.out.xt hx2)).mono ?_
  rintro e w3 ⟨a', rfl, hA, hx3⟩
  have hb3 := (hx3.block B (by omega)).trans hb2
  have hr3 := (hx3.block (B + 1) hs2).trans hr2
  have HX3 := Lib.hid hx3
  have HA := Lib.hid hA
  have HX2 := Lib.hid hx2
  obtain ⟨w4, hw4⟩ : ∃ w4, w3.setCells B 6 [.int .i64 c.t.kind, .int .i64 c.t.op, .float .f64 (oneX c.t.x), .string c.t.s, .bool c.t.b, .int .i64 c.t.f, .int .i64 c.t.ref.a.1, .int .i64 c.t.ref.a.2, .bool c.t.ref.cf, .bool c.t.ref.rf, .int .i64 c.t.to.a.1, .int .i64 c.t.to.a.2, .bool c.t.to.cf, .bool c.t.to.rf, .slice a' c.t.args.length c.t.args.length] = w4 := ⟨_, rfl⟩
  have hg4 : w3.grownBy w4 (some B) := by rw [← hw4]; exact setCells_grown B _ 6 w3
  have hb4 := fill15at6 (u0 := .int .i64 c.t.kind) (u1 := .int .i64 c.t.op) (u2 := .float .f64 (oneX c.t.x)) (u3 := .string c.t.s) (u4 := .bool c.t.b) (u5 := .int .i64 c.t.f) (u6 := .int .i64 c.t.ref.a.1) (u7 := .int .i64 c.t.ref.a.2) (u8 := .bool c.t.ref.cf) (u9 := .bool c.t.ref.rf) (u10 := .int .i64 c.t.to.a.1) (u11 := .int .i64 c.t.to.a.2) (u12 := .bool c.t.to.cf) (u13 := .bool c.t.to.rf) (u14 := .slice a' c.t.args.length c.t.args.length) hb3
  rw [hw4] at hb4
  have hr4 := (hg4.block (B + 1) (Array.getElem?_eq_some_iff.1 hr3).1 (by simp)).trans hr3
  obtain ⟨w5, hw5⟩ : ∃ w5, w4.setRow (B + 1) #[.int .i64 c.kind, .int .i64 c.v.kind, .float .f64 (oneX c.v.x), .string c.v.s, .bool c.v.b, .int .i64 c.v.f, .int .i64 c.t.kind, .int .i64 c.t.op, .float .f64 (oneX c.t.x), .string c.t.s, .bool c.t.b, .int .i64 c.t.f, .int .i64 c.t.ref.a.1, .int .i64 c.t.ref.a.2, .bool c.t.ref.cf, .bool c.t.ref.rf, .int .i64 c.t.to.a.1, .int .i64 c.t.to.a.2, .bool c.t.to.cf, .bool c.t.to.rf, .slice a' c.t.args.length c.t.args.length] = w5 := ⟨_, rfl⟩
  have hg5 : w4.grownBy w5 (some (B + 1)) := by rw [← hw5]; exact setRow_grown _ _ _
  have hr5 : w5.heap[B + 1]? = some (.cells #[.int .i64 c.kind, .int .i64 c.v.kind, .float .f64 (oneX c.v.x), .string c.v.s, .bool c.v.b, .int .i64 c.v.f, .int .i64 c.t.kind, .int .i64 c.t.op, .float .f64 (oneX c.t.x), .string c.t.s, .bool c.t.b, .int .i64 c.t.f, .int .i64 c.t.ref.a.1, .int .i64 c.t.ref.a.2, .bool c.t.ref.cf, .bool c.t.ref.rf, .int .i64 c.t.to.a.1, .int .i64 c.t.to.a.2, .bool c.t.to.cf, .bool c.t.to.rf, .slice a' c.t.args.length c.t.args.length] 33 (0, 0)) := by rw [← hw5]; exact setRow_heap w4 (B + 1) _ _ _ _ hr4
  have HG4 := Lib.hid hg4
  have HG5 := Lib.hid hg5
  have HR5 := Lib.hid hr5
  have hs3 : B + 1 < w3.heap.size := (Array.getElem?_eq_some_iff.1 hr3).1
  have hth := Lib.hid (there_row hb3 6 15 (by simp))
  have HW4 := Lib.hid hw4
  have HW5 := Lib.hid hw5
  have HB4 := Lib.hid hb4
  have HR4 := Lib.hid hr4
  clear hb2 hr2 hx2 hb3 hr3 hx3 hA hw4 hb4 hr4 hw5 hg4 hg5 hr5
  go_wp2_with (first
    | (refine wpList_store_mid (P := Tryz.prog) rfl 31 _ _ rfl B 6 #[.int .i64 c.t.kind, .int .i64 c.t.op, .float .f64 (oneX c.t.x), .string c.t.s, .bool c.t.b, .int .i64 c.t.f, .int .i64 c.t.ref.a.1, .int .i64 c.t.ref.a.2, .bool c.t.ref.cf, .bool c.t.ref.rf, .int .i64 c.t.to.a.1, .int .i64 c.t.to.a.2, .bool c.t.to.cf, .bool c.t.to.rf, .slice a' c.t.args.length c.t.args.length] rfl rfl hth.out (by kernel_rfl) (by simp [Value.oneCell']) ?_; rw [HW4.out])
    | (refine wpList_load_row (P := Tryz.prog) rfl 33 _ rfl B rfl 33 _ (0, 0) _ HB4.out Tryz.underlying33 rfl (by kernel_rfl) ?_)
    | (refine wpList_store_row (P := Tryz.prog) rfl 33 _ _ rfl (B + 1) #[.int .i64 c.kind, .int .i64 c.v.kind, .float .f64 (oneX c.v.x), .string c.v.s, .bool c.v.b, .int .i64 c.v.f, .int .i64 c.t.kind, .int .i64 c.t.op, .float .f64 (oneX c.t.x), .string c.t.s, .bool c.t.b, .int .i64 c.t.f, .int .i64 c.t.ref.a.1, .int .i64 c.t.ref.a.2, .bool c.t.ref.cf, .bool c.t.ref.rf, .int .i64 c.t.to.a.1, .int .i64 c.t.to.a.2, .bool c.t.to.cf, .bool c.t.to.rf, .slice a' c.t.args.length c.t.args.length] rfl rfl 33 _ HR4.out (by kernel_rfl) rfl (by simp [Value.oneCell']) ?_; rw [HW5.out]))
  (try simp only [Exit.inBlock, Exit.then])
  refine bodyPost_ret (results_cell_row rfl _ _ (B + 1) _ _ _ _ rfl HR5.out Tryz.underlying33 rfl (by kernel_rfl)) rfl ?_
  rw [← hQ]
  refine ⟨a', by rw [copyCV_eq], HA.out.keep (fun b hb hlt => ?_) (fun b hb hlt => ?_), ?_⟩
  · have := HX2.out.sz; omega
  · have : B + 1 < b := by omega
    exact ((HG5.out.block b (by have := HG4.out.size; omega) (fun e => by cases e; omega)).trans (HG4.out.block b hlt (fun e => by cases e; omega)))
  · exact ((HX2.out.trans HX3.out).grownB HG4.out (fun m hm => by cases hm; omega)).grownB HG5.out (fun m hm => by cases hm; omega)
end Go.Proofs.YtfpdleljhbkehaaGreatDoor
/- OfNumber, Own and Copy of a content, by the document (made by mkv21.py). -/
namespace Go.Proofs.YtfpdleljhbkehaaGreatDoor
open Go.RowKit Go.Sort

theorem ofNumber14_any (x : Nat) (w : World) : Calls Tryz.prog 42 #[.float .f64 x] w fun e w' => e = .returned (.agg #[.int .i64 1, .float .f64 (oneX x), .string ⟨#[]⟩, .bool false, .int .i64 0]) ∧ Gr w w' := by
  have H1 := Lib.hid (bits14_any x)
  have H2 := Lib.hid (number14_any (oneX x))
  generalize oneX x = ox at H1 H2 ⊢
  go_enter Tryz.func42, Tryz.ntmps42
  go_wp2_with (first | (refine (H1.out _).mono ?_; clear H1; rintro e w' ⟨rfl, rfl⟩) | (refine (H2.out _).mono ?_; rintro e w' ⟨rfl, rfl⟩))
  refine bodyPost_ret (results_cell_row rfl _ _ w.heap.size _ _ _ _ rfl (MapKept.heap_alloc w _).1 Tryz.underlying24 rfl (by kernel_rfl)) rfl ⟨rfl, (Gr.refl _).alloc _⟩
set_option maxRecDepth 100000 in
set_option maxHeartbeats 4000000 in
theorem gown_any (n : Nat) (c : ContT) (a : Option Addr) (cap : Nat) (w : World) (hsm : smallT c.t) (hin : ArgsIn w n (.slice a c.t.args.length cap) c.t.args) :
    Calls Tryz.prog 11 #[contV c a c.t.args.length cap] w fun e w' => ∃ a' c', e = .returned (contV c a' c.t.args.length c') ∧ OwnIn (fun b => w.heap.size ≤ b) w' n (.slice a' c.t.args.length c') c.t.args ∧ Xt w w' := by
  have HSM := Lib.hid hsm
  have HIN := Lib.hid hin
  have HF := Lib.hid (ownNode_any n)
  obtain ⟨B, hB⟩ : ∃ B, w.heap.size = B := ⟨_, rfl⟩
  obtain ⟨w0, hw0⟩ : ∃ w0, w.alloc (.cells #[.int .i64 c.kind, .int .i64 c.v.kind, .float .f64 c.v.x, .string c.v.s, .bool c.v.b, .int .i64 c.v.f, .int .i64 c.t.kind, .int .i64 c.t.op, .float .f64 c.t.x, .string c.t.s, .bool c.t.b, .int .i64 c.t.f, .int .i64 c.t.ref.a.1, .int .i64 c.t.ref.a.2, .bool c.t.ref.cf, .bool c.t.ref.rf, .int .i64 c.t.to.a.1, .int .i64 c.t.to.a.2, .bool c.t.to.cf, .bool c.t.to.rf, .slice a c.t.args.length cap] 33) = w0 := ⟨_, rfl⟩
  have hs0 : w0.heap.size = B + 1 := by rw [← hw0, ← hB]; simp
  have hb0 : w0.heap[B]? = some (.cells #[.int .i64 c.kind, .int .i64 c.v.kind, .float .f64 c.v.x, .string c.v.s, .bool c.v.b, .int .i64 c.v.f, .int .i64 c.t.kind, .int .i64 c.t.op, .float .f64 c.t.x, .string c.t.s, .bool c.t.b, .int .i64 c.t.f, .int .i64 c.t.ref.a.1, .int .i64 c.t.ref.a.2, .bool c.t.ref.cf, .bool c.t.ref.rf, .int .i64 c.t.to.a.1, .int .i64 c.t.to.a.2, .bool c.t.to.cf, .bool c.t.to.rf, .slice a c.t.args.length cap] 33 (0, 0)) := by rw [← hw0, ← hB]; exact (MapKept.heap_alloc w _).1
  have hx0 : Xt w w0 := by rw [← hw0]; exact (Xt.refl w).alloc _
  obtain ⟨wS, hwS⟩ : ∃ wS, w0.alloc (.cells #[.int .i64 0, .int .i64 0, .float .f64 0, .string ⟨#[]⟩, .bool false, .int .i64 0, .int .i64 0, .int .i64 0, .float .f64 0, .string ⟨#[]⟩, .bool false, .int .i64 0, .int .i64 0, .int .i64 0, .bool false, .bool false, .int .i64 0, .int .i64 0, .bool false, .bool false, .slice none 0 0] 33) = wS := ⟨_, rfl⟩
  have hxS : Xt w wS := by rw [← hwS]; exact hx0.alloc _
  have hbS : wS.heap[B]? = some (.cells #[.int .i64 c.kind, .int .i64 c.v.kind, .float .f64 c.v.x, .string c.v.s, .bool c.v.b, .int .i64 c.v.f, .int .i64 c.t.kind, .int .i64 c.t.op, .float .f64 c.t.x, .string c.t.s, .bool c.t.b, .int .i64 c.t.f, .int .i64 c.t.ref.a.1, .int .i64 c.t.ref.a.2, .bool c.t.ref.cf, .bool c.t.ref.rf, .int .i64 c.t.to.a.1, .int .i64 c.t.to.a.2, .bool c.t.to.cf, .bool c.t.to.rf, .slice a c.t.args.length cap] 33 (0, 0)) := by rw [← hwS]; exact (Below.heap_alloc w0 _ B (by omega)).trans hb0
  have hrS : wS.heap[B + 1]? = some (.cells #[.int .i64 0, .int .i64 0, .float .f64 0, .string ⟨#[]⟩, .bool false, .int .i64 0, .int .i64 0, .int .i64 0, .float .f64 0, .string ⟨#[]⟩, .bool false, .int .i64 0, .int .i64 0, .int .i64 0, .bool false, .bool false, .int .i64 0, .int .i64 0, .bool false, .bool false, .slice none 0 0] 33 (0, 0)) := by rw [← hwS, ← hs0]; exact (MapKept.heap_alloc w0 _).1
  have hs2 : B + 1 < wS.heap.size := (Array.getElem?_eq_some_iff.1 hrS).1
  have HB := Lib.hid hB
  have HBS := Lib.hid hbS
  have HRS := Lib.hid hrS
  obtain ⟨c0, c1, c2, c3, c4, c5, c6, c7, c8, c9, c10, c11, c12, c13, c14, c15, c16, c17, c18, c19, c20⟩ := cells21 hbS
  have HXS := Lib.hid hxS
  clear hsm hin hbS hrS hx0 hb0 hxS
  go_enter Tryz.func11, Tryz.ntmps11
  have hHs : w.heap.size = B := hB
  go_wp2_with fail
  refine (HF.out c.t a cap wS HSM.out (HIN.out.xt HXS.out)).mono ?_
  rintro e w3 ⟨a', c', rfl, hA, hx3⟩
  have hb3 := (hx3.block B (by omega)).trans HBS.out
  have hr3 := (hx3.block (B + 1) hs2).trans HRS.out
  have HX3 := Lib.hid hx3
  have HA := Lib.hid hA
  obtain ⟨w4, hw4⟩ : ∃ w4, w3.setCells B 6 [.int .i64 c.t.kind, .int .i64 c.t.op, .float .f64 c.t.x, .string c.t.s, .bool c.t.b, .int .i64 c.t.f, .int .i64 c.t.ref.a.1, .int .i64 c.t.ref.a.2, .bool c.t.ref.cf, .bool c.t.ref.rf, .int .i64 c.t.to.a.1, .int .i64 c.t.to.a.2, .bool c.t.to.cf, .bool c.t.to.rf, .slice a' c.t.args.length c'] = w4 := ⟨_, rfl⟩
  have hg4 : w3.grownBy w4 (some B) := by rw [← hw4]; exact setCells_grown B _ 6 w3
  have hb4 := fill15at6 (u0 := .int .i64 c.t.kind) (u1 := .int .i64 c.t.op) (u2 := .float .f64 c.t.x) (u3 := .string c.t.s) (u4 := .bool c.t.b) (u5 := .int .i64 c.t.f) (u6 := .int .i64 c.t.ref.a.1) (u7 := .int .i64 c.t.ref.a.2) (u8 := .bool c.t.ref.cf) (u9 := .bool c.t.ref.rf) (u10 := .int .i64 c.t.to.a.1) (u11 := .int .i64 c.t.to.a.2) (u12 := .bool c.t.to.cf) (u13 := .bool c.t.to.rf) (u14 := .slice a' c.t.args.length c') hb3
  rw [hw4] at hb4
  have hr4 := (hg4.block (B + 1) (Array.getElem?_eq_some_iff.1 hr3).1 (by simp)).trans hr3
  obtain ⟨w5, hw5⟩ : ∃ w5, w4.setRow (B + 1) #[.int .i64 c.kind, .int .i64 c.v.kind, .float .f64 c.v.x, .string c.v.s, .bool c.v.b, .int .i64 c.v.f, .int .i64 c.t.kind, .int .i64 c.t.op, .float .f64 c.t.x, .string c.t.s, .bool c.t.b, .int .i64 c.t.f, .int .i64 c.t.ref.a.1, .int .i64 c.t.ref.a.2, .bool c.t.ref.cf, .bool c.t.ref.rf, .int .i64 c.t.to.a.1, .int .i64 c.t.to.a.2, .bool c.t.to.cf, .bool c.t.to.rf, .slice a' c.t.args.length c'] = w5 := ⟨_, rfl⟩
  have hg5 : w4.grownBy w5 (some (B + 1)) := by rw [← hw5]; exact setRow_grown _ _ _
  have hr5 : w5.heap[B + 1]? = some (.cells #[.int .i64 c.kind, .int .i64 c.v.kind, .float .f64 c.v.x, .string c.v.s, .bool c.v.b, .int .i64 c.v.f, .int .i64 c.t.kind, .int .i64 c.t.op, .float .f64 c.t.x, .string c.t.s, .bool c.t.b, .int .i64 c.t.f, .int .i64 c.t.ref.a.1, .int .i64 c.t.ref.a.2, .bool c.t.ref.cf, .bool c.t.ref.rf, .int .i64 c.t.to.a.1, .int .i64 c.t.to.a.2, .bool c.t.to.cf, .bool c.t.to.rf, .slice a' c.t.args.length c'] 33 (0, 0)) := by rw [← hw5]; exact setRow_heap w4 _ _ _ _ _ hr4
  have HG4 := Lib.hid hg4
  have HG5 := Lib.hid hg5
  have HR5 := Lib.hid hr5
  have hs3 : B + 1 < w3.heap.size := (Array.getElem?_eq_some_iff.1 hr3).1
  have hth := Lib.hid (there_row hb3 6 15 (by simp))
  have HW4 := Lib.hid hw4
  have HW5 := Lib.hid hw5
  have HB4 := Lib.hid hb4
  have HR4 := Lib.hid hr4
  clear hb3 hr3 hx3 hA hw4 hb4 hr4 hw5 hg4 hg5 hr5 c0 c1 c2 c3 c4 c5 c6 c7 c8 c9 c10 c11 c12 c13 c14 c15 c16 c17 c18 c19 c20
  go_wp2_with (first
    | (refine wpList_store_mid (P := Tryz.prog) rfl 31 _ _ rfl B 6 #[.int .i64 c.t.kind, .int .i64 c.t.op, .float .f64 c.t.x, .string c.t.s, .bool c.t.b, .int .i64 c.t.f, .int .i64 c.t.ref.a.1, .int .i64 c.t.ref.a.2, .bool c.t.ref.cf, .bool c.t.ref.rf, .int .i64 c.t.to.a.1, .int .i64 c.t.to.a.2, .bool c.t.to.cf, .bool c.t.to.rf, .slice a' c.t.args.length c'] rfl rfl hth.out (by kernel_rfl) (by simp [Value.oneCell']) ?_; rw [HW4.out])
    | (refine wpList_load_row (P := Tryz.prog) rfl 33 _ rfl (B) rfl 33 _ (0, 0) _ HB4.out Tryz.underlying33 rfl (by kernel_rfl) ?_)
    | (refine wpList_store_row (P := Tryz.prog) rfl 33 _ _ rfl (B + 1) #[.int .i64 c.kind, .int .i64 c.v.kind, .float .f64 c.v.x, .string c.v.s, .bool c.v.b, .int .i64 c.v.f, .int .i64 c.t.kind, .int .i64 c.t.op, .float .f64 c.t.x, .string c.t.s, .bool c.t.b, .int .i64 c.t.f, .int .i64 c.t.ref.a.1, .int .i64 c.t.ref.a.2, .bool c.t.ref.cf, .bool c.t.ref.rf, .int .i64 c.t.to.a.1, .int .i64 c.t.to.a.2, .bool c.t.to.cf, .bool c.t.to.rf, .slice a' c.t.args.length c'] rfl rfl 33 _ HR4.out (by kernel_rfl) rfl (by simp [Value.oneCell']) ?_; rw [HW5.out]))
  (try simp only [Exit.inBlock, Exit.then])
  refine bodyPost_ret (results_cell_row rfl _ _ (B + 1) _ _ _ _ rfl HR5.out Tryz.underlying33 rfl (by kernel_rfl)) rfl ?_
  refine ⟨a', c', rfl, HA.out.keep (fun b hb hlt => ?_) (fun b hb hlt => ?_), ?_⟩
  · have := HXS.out.sz; omega
  · have : B + 1 < b := by omega
    exact (HG5.out.block b (by have := HG4.out.size; omega) (fun e => by cases e; omega)).trans (HG4.out.block b hlt (fun e => by cases e; omega))
  · exact ((HXS.out.trans HX3.out).grownB HG4.out (fun m hm => by cases hm; omega)).grownB HG5.out (fun m hm => by cases hm; omega)
theorem copy12_val (n : Nat) (t : NodeT) (a : Option Addr) (cap : Nat) (w : World) (hsm : smallT t) (hin : ArgsIn w n (.slice a t.args.length cap) t.args) :
    Calls Tryz.prog 43 #[nodeV t a t.args.length cap] w fun e w' => ∃ a' c', e = .returned (.agg #[.int .i64 t.kind, .int .i64 t.op, .float .f64 (oneX t.x), .string t.s, .bool t.b, .int .i64 t.f, .int .i64 t.ref.a.1, .int .i64 t.ref.a.2, .bool t.ref.cf, .bool t.ref.rf, .int .i64 t.to.a.1, .int .i64 t.to.a.2, .bool t.to.cf, .bool t.to.rf, .slice a' t.args.length c']) ∧ OwnIn (fun b => w.heap.size ≤ b) w' n (.slice a' t.args.length c') (copyL t.args) ∧ Xt w w' := by
  refine (copy12_any n t a cap w hsm hin).mono ?_
  rintro e w' ⟨a', c', rfl, hA, hx⟩
  refine ⟨a', c', ?_, ?_, hx⟩
  · obtain ⟨k, op, x, s, bb, f, r, q, args⟩ := t
    simp only [copyT, NodeT.kind, NodeT.op, NodeT.x, NodeT.s, NodeT.b, NodeT.f, NodeT.ref, NodeT.to, NodeT.args, copyL_map, List.length_map]
    rfl
  · obtain ⟨k, op, x, s, bb, f, r, q, args⟩ := t
    simpa only [copyT, NodeT.args, copyL_map, List.length_map] using hA
set_option maxRecDepth 100000 in
set_option maxHeartbeats 8000000 in
theorem gcopy17_any (n : Nat) (c : ContT) (a : Option Addr) (cap : Nat) (w : World) (hsm : smallT c.t) (hin : ArgsIn w n (.slice a c.t.args.length cap) c.t.args) :
    Calls Tryz.prog 13 #[contV c a c.t.args.length cap] w fun e w' => ∃ a' c', e = .returned (contV (copyC c) a' c.t.args.length c') ∧ OwnIn (fun b => w.heap.size ≤ b) w' n (.slice a' c.t.args.length c') (copyL c.t.args) ∧ Xt w w' := by
  have HSM := Lib.hid hsm
  have HIN := Lib.hid hin
  have HO := Lib.hid (gown_any n c a cap)
  have HF := Lib.hid (copy12_val n)
  obtain ⟨B, hB⟩ : ∃ B, w.heap.size = B := ⟨_, rfl⟩
  obtain ⟨w0, hw0⟩ : ∃ w0, w.alloc (.cells #[.int .i64 c.kind, .int .i64 c.v.kind, .float .f64 c.v.x, .string c.v.s, .bool c.v.b, .int .i64 c.v.f, .int .i64 c.t.kind, .int .i64 c.t.op, .float .f64 c.t.x, .string c.t.s, .bool c.t.b, .int .i64 c.t.f, .int .i64 c.t.ref.a.1, .int .i64 c.t.ref.a.2, .bool c.t.ref.cf, .bool c.t.ref.rf, .int .i64 c.t.to.a.1, .int .i64 c.t.to.a.2, .bool c.t.to.cf, .bool c.t.to.rf, .slice a c.t.args.length cap] 33) = w0 := ⟨_, rfl⟩
  have hs0 : w0.heap.size = B + 1 := by rw [← hw0, ← hB]; simp
  have hb0 : w0.heap[B]? = some (.cells #[.int .i64 c.kind, .int .i64 c.v.kind, .float .f64 c.v.x, .string c.v.s, .bool c.v.b, .int .i64 c.v.f, .int .i64 c.t.kind, .int .i64 c.t.op, .float .f64 c.t.x, .string c.t.s, .bool c.t.b, .int .i64 c.t.f, .int .i64 c.t.ref.a.1, .int .i64 c.t.ref.a.2, .bool c.t.ref.cf, .bool c.t.ref.rf, .int .i64 c.t.to.a.1, .int .i64 c.t.to.a.2, .bool c.t.to.cf, .bool c.t.to.rf, .slice a c.t.args.length cap] 33 (0, 0)) := by rw [← hw0, ← hB]; exact (MapKept.heap_alloc w _).1
  have hx0 : Xt w w0 := by rw [← hw0]; exact (Xt.refl w).alloc _
  obtain ⟨wS, hwS⟩ : ∃ wS, w0.alloc (.cells #[.int .i64 0, .int .i64 0, .float .f64 0, .string ⟨#[]⟩, .bool false, .int .i64 0, .int .i64 0, .int .i64 0, .float .f64 0, .string ⟨#[]⟩, .bool false, .int .i64 0, .int .i64 0, .int .i64 0, .bool false, .bool false, .int .i64 0, .int .i64 0, .bool false, .bool false, .slice none 0 0] 33) = wS := ⟨_, rfl⟩
  have hxS : Xt w wS := by rw [← hwS]; exact hx0.alloc _
  have hbS : wS.heap[B]? = some (.cells #[.int .i64 c.kind, .int .i64 c.v.kind, .float .f64 c.v.x, .string c.v.s, .bool c.v.b, .int .i64 c.v.f, .int .i64 c.t.kind, .int .i64 c.t.op, .float .f64 c.t.x, .string c.t.s, .bool c.t.b, .int .i64 c.t.f, .int .i64 c.t.ref.a.1, .int .i64 c.t.ref.a.2, .bool c.t.ref.cf, .bool c.t.ref.rf, .int .i64 c.t.to.a.1, .int .i64 c.t.to.a.2, .bool c.t.to.cf, .bool c.t.to.rf, .slice a c.t.args.length cap] 33 (0, 0)) := by rw [← hwS]; exact (Below.heap_alloc w0 _ B (by omega)).trans hb0
  have hrS : wS.heap[B + 1]? = some (.cells #[.int .i64 0, .int .i64 0, .float .f64 0, .string ⟨#[]⟩, .bool false, .int .i64 0, .int .i64 0, .int .i64 0, .float .f64 0, .string ⟨#[]⟩, .bool false, .int .i64 0, .int .i64 0, .int .i64 0, .bool false, .bool false, .int .i64 0, .int .i64 0, .bool false, .bool false, .slice none 0 0] 33 (0, 0)) := by rw [← hwS, ← hs0]; exact (MapKept.heap_alloc w0 _).1
  have hs2 : B + 1 < wS.heap.size := (Array.getElem?_eq_some_iff.1 hrS).1
  have HB := Lib.hid hB
  have HBS := Lib.hid hbS
  have HRS := Lib.hid hrS
  have HXS := Lib.hid hxS
  clear hsm hin hbS hrS hx0 hb0 hxS
  go_enter Tryz.func13, Tryz.ntmps13
  have hHs : w.heap.size = B := hB
  go_wp2_with (first
    | (refine wpList_load_row (P := Tryz.prog) rfl 33 _ rfl (B) rfl 33 _ (0, 0) _ HBS.out Tryz.underlying33 rfl (by kernel_rfl) ?_))
  refine (HO.out wS HSM.out (HIN.out.xt HXS.out)).mono ?_
  rintro e w1 ⟨a1, k1, rfl, _, hx1⟩
  obtain ⟨X, hX⟩ : ∃ X, w1.heap.size = X := ⟨_, rfl⟩
  have hXB : B + 1 < X := by have := hx1.sz; omega
  obtain ⟨w2, hw2⟩ : ∃ w2, w1.alloc (.cells #[.int .i64 0, .int .i64 0, .float .f64 0, .string ⟨#[]⟩, .bool false, .int .i64 0, .int .i64 0, .int .i64 0, .float .f64 0, .string ⟨#[]⟩, .bool false, .int .i64 0, .int .i64 0, .int .i64 0, .bool false, .bool false, .int .i64 0, .int .i64 0, .bool false, .bool false, .slice none 0 0] 33) = w2 := ⟨_, rfl⟩
  have hX2 : w2.heap[X]? = some (.cells #[.int .i64 0, .int .i64 0, .float .f64 0, .string ⟨#[]⟩, .bool false, .int .i64 0, .int .i64 0, .int .i64 0, .float .f64 0, .string ⟨#[]⟩, .bool false, .int .i64 0, .int .i64 0, .int .i64 0, .bool false, .bool false, .int .i64 0, .int .i64 0, .bool false, .bool false, .slice none 0 0] 33 (0, 0)) := by rw [← hw2, ← hX]; exact (MapKept.heap_alloc w1 _).1
  obtain ⟨w3, hw3⟩ : ∃ w3, w2.setRow X #[.int .i64 c.kind, .int .i64 c.v.kind, .float .f64 c.v.x, .string c.v.s, .bool c.v.b, .int .i64 c.v.f, .int .i64 c.t.kind, .int .i64 c.t.op, .float .f64 c.t.x, .string c.t.s, .bool c.t.b, .int .i64 c.t.f, .int .i64 c.t.ref.a.1, .int .i64 c.t.ref.a.2, .bool c.t.ref.cf, .bool c.t.ref.rf, .int .i64 c.t.to.a.1, .int .i64 c.t.to.a.2, .bool c.t.to.cf, .bool c.t.to.rf, .slice a1 c.t.args.length k1] = w3 := ⟨_, rfl⟩
  have hg3 : w2.grownBy w3 (some X) := by rw [← hw3]; exact setRow_grown _ _ _
  have hx3 : Xt w1 w3 := by
    have : Xt w1 w2 := by rw [← hw2]; exact (Xt.refl w1).alloc _
    exact this.grownB hg3 (fun m hm => by cases hm; omega)
  have hX3 : w3.heap[X]? = some (.cells #[.int .i64 c.kind, .int .i64 c.v.kind, .float .f64 c.v.x, .string c.v.s, .bool c.v.b, .int .i64 c.v.f, .int .i64 c.t.kind, .int .i64 c.t.op, .float .f64 c.t.x, .string c.t.s, .bool c.t.b, .int .i64 c.t.f, .int .i64 c.t.ref.a.1, .int .i64 c.t.ref.a.2, .bool c.t.ref.cf, .bool c.t.ref.rf, .int .i64 c.t.to.a.1, .int .i64 c.t.to.a.2, .bool c.t.to.cf, .bool c.t.to.rf, .slice a1 c.t.args.length k1] 33 (0, 0)) := by rw [← hw3]; exact setRow_heap w2 _ _ _ _ _ hX2
  have HX2 := Lib.hid hX2
  have HW3 := Lib.hid hw3
  dsimp only
  refine ‹∀ (a : Act) (w : World), _ → _› _ _ ?_
  refine wpList_step (fun K hK => ?_)
  go_simp
  refine hK _ _ ?_
  clear hK K
  try rw [hX]
  try rw [hw2]
  (refine wpList_store_row (P := Tryz.prog) rfl 33 _ _ rfl (X) #[.int .i64 c.kind, .int .i64 c.v.kind, .float .f64 c.v.x, .string c.v.s, .bool c.v.b, .int .i64 c.v.f, .int .i64 c.t.kind, .int .i64 c.t.op, .float .f64 c.t.x, .string c.t.s, .bool c.t.b, .int .i64 c.t.f, .int .i64 c.t.ref.a.1, .int .i64 c.t.ref.a.2, .bool c.t.ref.cf, .bool c.t.ref.rf, .int .i64 c.t.to.a.1, .int .i64 c.t.to.a.2, .bool c.t.to.cf, .bool c.t.to.rf, .slice a1 c.t.args.length k1] rfl rfl 33 _ HX2.out (by kernel_rfl) rfl (by simp [Value.oneCell']) ?_; rw [HW3.out])
  have hb3 : w3.heap[B]? = some (.cells #[.int .i64 c.kind, .int .i64 c.v.kind, .float .f64 c.v.x, .string c.v.s, .bool c.v.b, .int .i64 c.v.f, .int .i64 c.t.kind, .int .i64 c.t.op, .float .f64 c.t.x, .string c.t.s, .bool c.t.b, .int .i64 c.t.f, .int .i64 c.t.ref.a.1, .int .i64 c.t.ref.a.2, .bool c.t.ref.cf, .bool c.t.ref.rf, .int .i64 c.t.to.a.1, .int .i64 c.t.to.a.2, .bool c.t.to.cf, .bool c.t.to.rf, .slice a c.t.args.length cap] 33 (0, 0)) := (hx3.block B (by omega)).trans ((hx1.block B (by omega)).trans HBS.out)
  have hr3 : w3.heap[B + 1]? = some (.cells #[.int .i64 0, .int .i64 0, .float .f64 0, .string ⟨#[]⟩, .bool false, .int .i64 0, .int .i64 0, .int .i64 0, .float .f64 0, .string ⟨#[]⟩, .bool false, .int .i64 0, .int .i64 0, .int .i64 0, .bool false, .bool false, .int .i64 0, .int .i64 0, .bool false, .bool false, .slice none 0 0] 33 (0, 0)) := (hx3.block (B + 1) (by omega)).trans ((hx1.block (B + 1) hs2).trans HRS.out)
  have hxw3 : Xt w w3 := (HXS.out.trans hx1).trans hx3
  have HX3 := Lib.hid hX3
  have HR3 := Lib.hid hr3
  have HB3 := Lib.hid hb3
  have HXW3 := Lib.hid hxw3
  have hs3 : X < w3.heap.size := (Array.getElem?_eq_some_iff.1 hX3).1
  obtain ⟨c0, c1, c2, c3, c4, c5, c6, c7, c8, c9, c10, c11, c12, c13, c14, c15, c16, c17, c18, c19, c20⟩ := cells21 hb3
  obtain ⟨f0, f1, f2, f3, f4, f5, f6, f7, f8, f9, f10, f11, f12, f13, f14, f15, f16, f17, f18, f19, f20⟩ := frozen21 hX3
  clear hX3 hb3 hr3 hxw3 hx1 hx3 hX2 hw2 hg3 hw3
  go_upto_region 2 with fail
  go_wp2_with fail
  refine (ofNumber14_any _ _).mono ?_
  rintro e w4 ⟨rfl, hg4⟩
  have HG4 := Lib.hid hg4
  clear hg4 c0 c1 c2 c3 c4 c5 c6 c7 c8 c9 c10 c11 c12 c13 c14 c15 c16 c17 c18 c19 c20 f0 f1 f2 f3 f4 f5 f6 f7 f8 f9 f10 f11 f12 f13 f14 f15 f16 f17 f18 f19 f20
  go_upto_region 3 with fail
  obtain ⟨w5, hw5⟩ : ∃ w5, w4.alloc (.cells #[.int .i64 1, .float .f64 (oneX c.v.x), .string ⟨#[]⟩, .bool false, .int .i64 0] 24) = w5 := ⟨_, rfl⟩
  rw [hw5]
  have hx5 : Xt w3 w5 := by rw [← hw5]; exact HG4.out.xt.alloc _
  have hX5 : w5.heap[X]? = some (.cells #[.int .i64 c.kind, .int .i64 c.v.kind, .float .f64 c.v.x, .string c.v.s, .bool c.v.b, .int .i64 c.v.f, .int .i64 c.t.kind, .int .i64 c.t.op, .float .f64 c.t.x, .string c.t.s, .bool c.t.b, .int .i64 c.t.f, .int .i64 c.t.ref.a.1, .int .i64 c.t.ref.a.2, .bool c.t.ref.cf, .bool c.t.ref.rf, .int .i64 c.t.to.a.1, .int .i64 c.t.to.a.2, .bool c.t.to.cf, .bool c.t.to.rf, .slice a1 c.t.args.length k1] 33 (0, 0)) := (hx5.block X hs3).trans HX3.out
  have hY5 : w5.cell? ⟨w4.heap.size, 1, none⟩ = some (.float .f64 (oneX c.v.x)) := by rw [← hw5, World.cell?_alloc_new]; rfl
  obtain ⟨d0, d1, d2, d3, d4, d5, d6, d7, d8, d9, d10, d11, d12, d13, d14, d15, d16, d17, d18, d19, d20⟩ := cells21 hX5
  obtain ⟨g0, g1, g2, g3, g4, g5, g6, g7, g8, g9, g10, g11, g12, g13, g14, g15, g16, g17, g18, g19, g20⟩ := frozen21 hX5
  clear hw5
  obtain ⟨w6, hw6⟩ : ∃ w6, w5.setCell ⟨X, 2, none⟩ (.float .f64 (oneX c.v.x)) = w6 := ⟨_, rfl⟩
  have hg6 : w5.grownBy w6 (some X) := by rw [← hw6]; exact setCell_grown _ _ _ _
  have hX6 : w6.heap[X]? = some (.cells #[.int .i64 c.kind, .int .i64 c.v.kind, .float .f64 (oneX c.v.x), .string c.v.s, .bool c.v.b, .int .i64 c.v.f, .int .i64 c.t.kind, .int .i64 c.t.op, .float .f64 c.t.x, .string c.t.s, .bool c.t.b, .int .i64 c.t.f, .int .i64 c.t.ref.a.1, .int .i64 c.t.ref.a.2, .bool c.t.ref.cf, .bool c.t.ref.rf, .int .i64 c.t.to.a.1, .int .i64 c.t.to.a.2, .bool c.t.to.cf, .bool c.t.to.rf, .slice a1 c.t.args.length k1] 33 (0, 0)) := by rw [← hw6]; exact setCell_row hX5 2 _
  have hs5 : X < w5.heap.size := (Array.getElem?_eq_some_iff.1 hX5).1
  have hb6 : w6.heap[B]? = some (.cells #[.int .i64 c.kind, .int .i64 c.v.kind, .float .f64 c.v.x, .string c.v.s, .bool c.v.b, .int .i64 c.v.f, .int .i64 c.t.kind, .int .i64 c.t.op, .float .f64 c.t.x, .string c.t.s, .bool c.t.b, .int .i64 c.t.f, .int .i64 c.t.ref.a.1, .int .i64 c.t.ref.a.2, .bool c.t.ref.cf, .bool c.t.ref.rf, .int .i64 c.t.to.a.1, .int .i64 c.t.to.a.2, .bool c.t.to.cf, .bool c.t.to.rf, .slice a c.t.args.length cap] 33 (0, 0)) := (hg6.block B (by omega) (by simp; omega)).trans ((hx5.block B (by omega)).trans HB3.out)
  have hr6 : w6.heap[B + 1]? = some (.cells #[.int .i64 0, .int .i64 0, .float .f64 0, .string ⟨#[]⟩, .bool false, .int .i64 0, .int .i64 0, .int .i64 0, .float .f64 0, .string ⟨#[]⟩, .bool false, .int .i64 0, .int .i64 0, .int .i64 0, .bool false, .bool false, .int .i64 0, .int .i64 0, .bool false, .bool false, .slice none 0 0] 33 (0, 0)) := (hg6.block (B + 1) (by omega) (by simp; omega)).trans ((hx5.block (B + 1) (by omega)).trans HR3.out)
  have hxw6 : Xt w w6 := (HXW3.out.trans hx5).grownB hg6 (fun m hm => by cases hm; omega)
  have HX6 := Lib.hid hX6
  have HB6 := Lib.hid hb6
  have HR6 := Lib.hid hr6
  have HXW6 := Lib.hid hxw6
  have hs6 : X < w6.heap.size := (Array.getElem?_eq_some_iff.1 hX6).1
  clear hX5
  go_upto_region 4 with fail
  try rw [hw6]
  clear hw6 d0 d1 d2 d3 d4 d5 d6 d7 d8 d9 d10 d11 d12 d13 d14 d15 d16 d17 d18 d19 d20 g0 g1 g2 g3 g4 g5 g6 g7 g8 g9 g10 g11 g12 g13 g14 g15 g16 g17 g18 g19 g20
  obtain ⟨e0, e1, e2, e3, e4, e5, e6, e7, e8, e9, e10, e11, e12, e13, e14, e15, e16, e17, e18, e19, e20⟩ := cells21 hb6
  clear hX6 hb6 hr6 hg6 hx5 hxw6
  go_wp2_with fail
  refine (HF.out c.t a cap w6 HSM.out (HIN.out.xt HXW6.out)).mono ?_
  rintro e w7 ⟨a', c', rfl, hA, hx7⟩
  have hX7 := (hx7.block X hs6).trans HX6.out
  have hr7 := (hx7.block (B + 1) (by omega)).trans HR6.out
  have HX7 := Lib.hid hx7
  have HA := Lib.hid hA
  obtain ⟨w8, hw8⟩ : ∃ w8, w7.setCells X 6 [.int .i64 c.t.kind, .int .i64 c.t.op, .float .f64 (oneX c.t.x), .string c.t.s, .bool c.t.b, .int .i64 c.t.f, .int .i64 c.t.ref.a.1, .int .i64 c.t.ref.a.2, .bool c.t.ref.cf, .bool c.t.ref.rf, .int .i64 c.t.to.a.1, .int .i64 c.t.to.a.2, .bool c.t.to.cf, .bool c.t.to.rf, .slice a' c.t.args.length c'] = w8 := ⟨_, rfl⟩
  have hg8 : w7.grownBy w8 (some X) := by rw [← hw8]; exact setCells_grown X _ 6 w7
  have hX8 := fill15at6 (u0 := .int .i64 c.t.kind) (u1 := .int .i64 c.t.op) (u2 := .float .f64 (oneX c.t.x)) (u3 := .string c.t.s) (u4 := .bool c.t.b) (u5 := .int .i64 c.t.f) (u6 := .int .i64 c.t.ref.a.1) (u7 := .int .i64 c.t.ref.a.2) (u8 := .bool c.t.ref.cf) (u9 := .bool c.t.ref.rf) (u10 := .int .i64 c.t.to.a.1) (u11 := .int .i64 c.t.to.a.2) (u12 := .bool c.t.to.cf) (u13 := .bool c.t.to.rf) (u14 := .slice a' c.t.args.length c') hX7
  rw [hw8] at hX8
  have hr8 := (hg8.block (B + 1) (Array.getElem?_eq_some_iff.1 hr7).1 (by simp; omega)).trans hr7
  obtain ⟨w9, hw9⟩ : ∃ w9, w8.setRow (B + 1) #[.int .i64 c.kind, .int .i64 c.v.kind, .float .f64 (oneX c.v.x), .string c.v.s, .bool c.v.b, .int .i64 c.v.f, .int .i64 c.t.kind, .int .i64 c.t.op, .float .f64 (oneX c.t.x), .string c.t.s, .bool c.t.b, .int .i64 c.t.f, .int .i64 c.t.ref.a.1, .int .i64 c.t.ref.a.2, .bool c.t.ref.cf, .bool c.t.ref.rf, .int .i64 c.t.to.a.1, .int .i64 c.t.to.a.2, .bool c.t.to.cf, .bool c.t.to.rf, .slice a' c.t.args.length c'] = w9 := ⟨_, rfl⟩
  have hg9 : w8.grownBy w9 (some (B + 1)) := by rw [← hw9]; exact setRow_grown _ _ _
  have hr9 : w9.heap[B + 1]? = some (.cells #[.int .i64 c.kind, .int .i64 c.v.kind, .float .f64 (oneX c.v.x), .string c.v.s, .bool c.v.b, .int .i64 c.v.f, .int .i64 c.t.kind, .int .i64 c.t.op, .float .f64 (oneX c.t.x), .string c.t.s, .bool c.t.b, .int .i64 c.t.f, .int .i64 c.t.ref.a.1, .int .i64 c.t.ref.a.2, .bool c.t.ref.cf, .bool c.t.ref.rf, .int .i64 c.t.to.a.1, .int .i64 c.t.to.a.2, .bool c.t.to.cf, .bool c.t.to.rf, .slice a' c.t.args.length c'] 33 (0, 0)) := by rw [← hw9]; exact setRow_heap w8 _ _ _ _ _ hr8
  have HG8 := Lib.hid hg8
  have HG9 := Lib.hid hg9
  have HR9 := Lib.hid hr9
  have hth := Lib.hid (there_row hX7 6 15 (by simp))
  have HW8 := Lib.hid hw8
  have HW9 := Lib.hid hw9
  have HX8 := Lib.hid hX8
  have HR8 := Lib.hid hr8
  have hs7 : X < w7.heap.size := (Array.getElem?_eq_some_iff.1 hX7).1
  clear hX7 hr7 hx7 hA hw8 hX8 hr8 hw9 hg8 hg9 hr9 e0 e1 e2 e3 e4 e5 e6 e7 e8 e9 e10 e11 e12 e13 e14 e15 e16 e17 e18 e19 e20
  go_wp2_with (first
    | (refine wpList_store_mid (P := Tryz.prog) rfl 31 _ _ rfl X 6 #[.int .i64 c.t.kind, .int .i64 c.t.op, .float .f64 (oneX c.t.x), .string c.t.s, .bool c.t.b, .int .i64 c.t.f, .int .i64 c.t.ref.a.1, .int .i64 c.t.ref.a.2, .bool c.t.ref.cf, .bool c.t.ref.rf, .int .i64 c.t.to.a.1, .int .i64 c.t.to.a.2, .bool c.t.to.cf, .bool c.t.to.rf, .slice a' c.t.args.length c'] rfl rfl hth.out (by kernel_rfl) (by simp [Value.oneCell']) ?_; rw [HW8.out])
    | (refine wpList_load_row (P := Tryz.prog) rfl 33 _ rfl (X) rfl 33 _ (0, 0) _ HX8.out Tryz.underlying33 rfl (by kernel_rfl) ?_)
    | (refine wpList_store_row (P := Tryz.prog) rfl 33 _ _ rfl (B + 1) #[.int .i64 c.kind, .int .i64 c.v.kind, .float .f64 (oneX c.v.x), .string c.v.s, .bool c.v.b, .int .i64 c.v.f, .int .i64 c.t.kind, .int .i64 c.t.op, .float .f64 (oneX c.t.x), .string c.t.s, .bool c.t.b, .int .i64 c.t.f, .int .i64 c.t.ref.a.1, .int .i64 c.t.ref.a.2, .bool c.t.ref.cf, .bool c.t.ref.rf, .int .i64 c.t.to.a.1, .int .i64 c.t.to.a.2, .bool c.t.to.cf, .bool c.t.to.rf, .slice a' c.t.args.length c'] rfl rfl 33 _ HR8.out (by kernel_rfl) rfl (by simp [Value.oneCell']) ?_; rw [HW9.out]))
  (try simp only [Exit.inBlock, Exit.then])
  refine bodyPost_ret (results_cell_row rfl _ _ (B + 1) _ _ _ _ rfl HR9.out Tryz.underlying33 rfl (by kernel_rfl)) rfl ?_
  refine ⟨a', c', ?_, ?_, ?_⟩
  · have e1 : (copyT c.t).kind = c.t.kind ∧ (copyT c.t).op = c.t.op ∧ (copyT c.t).x = oneX c.t.x ∧ (copyT c.t).s = c.t.s ∧ (copyT c.t).b = c.t.b ∧ (copyT c.t).f = c.t.f ∧ (copyT c.t).ref = c.t.ref ∧ (copyT c.t).to = c.t.to := by cases c.t; simp [copyT, NodeT.kind, NodeT.op, NodeT.x, NodeT.s, NodeT.b, NodeT.f, NodeT.ref, NodeT.to]
    obtain ⟨k0, k1', k2, k3, k4, k5, k6, k7⟩ := e1
    show Ending.returned (Value.agg _) = Ending.returned (Value.agg _)
    simp only [copyC, k0, k1', k2, k3, k4, k5, k6, k7]
  · refine HA.out.keep (fun b hb hlt => by have := HXW6.out.sz; omega) (fun b hb hlt => ?_)
    exact (HG9.out.block b (by have := HG8.out.size; omega) (fun e => by cases e; omega)).trans (HG8.out.block b hlt (fun e => by cases e; omega))
  · exact ((HXW6.out.trans HX7.out).grownB HG8.out (fun m hm => by cases hm; omega)).grownB HG9.out (fun m hm => by cases hm; omega)
end Go.Proofs.YtfpdleljhbkehaaGreatDoor
