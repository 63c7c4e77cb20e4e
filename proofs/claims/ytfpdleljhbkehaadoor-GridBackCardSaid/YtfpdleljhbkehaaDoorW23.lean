import Derived.Test.YtfpdleljhbkehaaDoorD8
import Derived.Test.YtfpdleljhbkehaaDoorW21
import Derived.Test.YtfpdleljhbkehaaDoorW22
namespace Go.Proofs.YtfpdleljhbkehaaDoor
open Go.RowKit Go.Sort

/-! ### grid.Copy (made by mkgcopy.py) -/
def GCopyR (c : ContT) (n : Nat) (w : World) (e : Ending) (w' : World) : Prop := ∃ a', e = .returned (copyCV c a') ∧ ArgsS (fun b => w.heap.size ≤ b) w' n (.slice a' c.t.args.length c.t.args.length) (copyL c.t.args) ∧ Xt w w'
@[go_sem] theorem run_field_x (k f : Int) (x : Nat) (s : ByteArray) (b : Bool) (w : World) : (Instr.field 24 (.agg #[.int .i64 k, .float .f64 x, .string s, .bool b, .int .i64 f]) 1).run Tryd.prog w = .ok (.float .f64 x) w := by
  have u := run_underlying Tryd.underlying24
  have u2 := run_underlying Tryd.underlying22
  simp [Instr.field, u, part, asAgg]
set_option maxRecDepth 100000 in
set_option maxHeartbeats 4000000 in
theorem gcopy_any (n : Nat) (c : ContT) (a : Option Addr) (cap : Nat) (w : World) (hsm : smallT c.t) (hin : ArgsIn w n (.slice a c.t.args.length cap) c.t.args) :
    Calls Tryd.prog 29 #[contV c a c.t.args.length cap] w (GCopyR c n w) := by
  have HSM := Lib.hid hsm
  have HIN := Lib.hid hin
  have HF := Lib.hid (fcopy_any n)
  obtain ⟨B, hB⟩ : ∃ B, w.heap.size = B := ⟨_, rfl⟩
  obtain ⟨w0, hw0⟩ : ∃ w0, w.alloc (.cells #[.int .i64 c.kind, .int .i64 c.v.kind, .float .f64 c.v.x, .string c.v.s, .bool c.v.b, .int .i64 c.v.f, .int .i64 c.t.kind, .int .i64 c.t.op, .float .f64 c.t.x, .string c.t.s, .bool c.t.b, .int .i64 c.t.f, .int .i64 c.t.ref.a.1, .int .i64 c.t.ref.a.2, .bool c.t.ref.cf, .bool c.t.ref.rf, .int .i64 c.t.to.a.1, .int .i64 c.t.to.a.2, .bool c.t.to.cf, .bool c.t.to.rf, .slice a c.t.args.length cap] 33) = w0 := ⟨_, rfl⟩
  have hs0 : w0.heap.size = B + 1 := by rw [← hw0, ← hB]; simp
  have hb0 : w0.heap[B]? = some (.cells #[.int .i64 c.kind, .int .i64 c.v.kind, .float .f64 c.v.x, .string c.v.s, .bool c.v.b, .int .i64 c.v.f, .int .i64 c.t.kind, .int .i64 c.t.op, .float .f64 c.t.x, .string c.t.s, .bool c.t.b, .int .i64 c.t.f, .int .i64 c.t.ref.a.1, .int .i64 c.t.ref.a.2, .bool c.t.ref.cf, .bool c.t.ref.rf, .int .i64 c.t.to.a.1, .int .i64 c.t.to.a.2, .bool c.t.to.cf, .bool c.t.to.rf, .slice a c.t.args.length cap] 33 (0, 0)) := by rw [← hw0, ← hB]; exact (MapKept.heap_alloc w _).1
  have hx0 : Xt w w0 := by rw [← hw0]; exact (Xt.refl w).alloc _
  obtain ⟨wS, hwS⟩ : ∃ wS, w0.alloc (.cells #[.int .i64 0, .int .i64 0, .float .f64 0, .string ⟨#[]⟩, .bool false, .int .i64 0, .int .i64 0, .int .i64 0, .float .f64 0, .string ⟨#[]⟩, .bool false, .int .i64 0, .int .i64 0, .int .i64 0, .bool false, .bool false, .int .i64 0, .int .i64 0, .bool false, .bool false, .slice none 0 0] 33) = wS := ⟨_, rfl⟩
  have hxS : Xt w wS := by rw [← hwS]; exact hx0.alloc _
  have hbS : wS.heap[B]? = some (.cells #[.int .i64 c.kind, .int .i64 c.v.kind, .float .f64 c.v.x, .string c.v.s, .bool c.v.b, .int .i64 c.v.f, .int .i64 c.t.kind, .int .i64 c.t.op, .float .f64 c.t.x, .string c.t.s, .bool c.t.b, .int .i64 c.t.f, .int .i64 c.t.ref.a.1, .int .i64 c.t.ref.a.2, .bool c.t.ref.cf, .bool c.t.ref.rf, .int .i64 c.t.to.a.1, .int .i64 c.t.to.a.2, .bool c.t.to.cf, .bool c.t.to.rf, .slice a c.t.args.length cap] 33 (0, 0)) := by rw [← hwS]; exact (Below.heap_alloc w0 _ B (by omega)).trans hb0
  have hrS : wS.heap[B + 1]? = some (.cells #[.int .i64 0, .int .i64 0, .float .f64 0, .string ⟨#[]⟩, .bool false, .int .i64 0, .int .i64 0, .int .i64 0, .float .f64 0, .string ⟨#[]⟩, .bool false, .int .i64 0, .int .i64 0, .int .i64 0, .bool false, .bool false, .int .i64 0, .int .i64 0, .bool false, .bool false, .slice none 0 0] 33 (0, 0)) := by rw [← hwS, ← hs0]; exact (MapKept.heap_alloc w0 _).1
  have hsS : B + 1 < wS.heap.size := (Array.getElem?_eq_some_iff.1 hrS).1
  have HB := Lib.hid hB
  have HXS := Lib.hid hxS
  have HBS := Lib.hid hbS
  have HRS := Lib.hid hrS
  obtain ⟨c0, c1, c2, c3, c4, c5, c6, c7, c8, c9, c10, c11, c12, c13, c14, c15, c16, c17, c18, c19, c20⟩ := cells21 hbS
  clear hsm hin hxS hbS hrS hx0 hb0
  generalize hQ : GCopyR c n w = Q
  go_enter Tryd.func29, Tryd.ntmps29
  have hHs : w.heap.size = B := hB
  go_wp2_with (refine (OfNumber_any _ _).mono ?_; rintro e w1 ⟨rfl, hg1⟩
               have hb1 := (hg1.below.block B (by omega)).trans HBS.out
               have hr1 := (hg1.below.block (B + 1) hsS).trans HRS.out
               have hx1 := hg1.xt
               obtain ⟨d0, d1, d2, d3, d4, d5, d6, d7, d8, d9, d10, d11, d12, d13, d14, d15, d16, d17, d18, d19, d20⟩ := cells21 hb1
               obtain ⟨f0, f1, f2, f3, f4, f5, f6, f7, f8, f9, f10, f11, f12, f13, f14, f15, f16, f17, f18, f19, f20⟩ := frozen21 hb1)
  obtain ⟨w2, hw2⟩ : ∃ w2, w1.setCell ⟨B, 2, none⟩ (.float .f64 (oneX c.v.x)) = w2 := ⟨_, rfl⟩
  rw [hw2]
  have hb2 : w2.heap[B]? = some (.cells #[.int .i64 c.kind, .int .i64 c.v.kind, .float .f64 (oneX c.v.x), .string c.v.s, .bool c.v.b, .int .i64 c.v.f, .int .i64 c.t.kind, .int .i64 c.t.op, .float .f64 c.t.x, .string c.t.s, .bool c.t.b, .int .i64 c.t.f, .int .i64 c.t.ref.a.1, .int .i64 c.t.ref.a.2, .bool c.t.ref.cf, .bool c.t.ref.rf, .int .i64 c.t.to.a.1, .int .i64 c.t.to.a.2, .bool c.t.to.cf, .bool c.t.to.rf, .slice a c.t.args.length cap] 33 (0, 0)) := by rw [← hw2]; have := setCell_row hb1 2 (.float .f64 (oneX c.v.x)); simpa using this
  have hr2 : w2.heap[B + 1]? = some (.cells #[.int .i64 0, .int .i64 0, .float .f64 0, .string ⟨#[]⟩, .bool false, .int .i64 0, .int .i64 0, .int .i64 0, .float .f64 0, .string ⟨#[]⟩, .bool false, .int .i64 0, .int .i64 0, .int .i64 0, .bool false, .bool false, .int .i64 0, .int .i64 0, .bool false, .bool false, .slice none 0 0] 33 (0, 0)) := by rw [← hw2]; exact (Below.heap_setCell _ _ _ _ (by show B + 1 ≠ B; omega)).trans hr1
  have hx2 : Xt w w2 := by rw [← hw2]; exact (HXS.out.trans hx1).grownB (setCell_grown _ _ _ _) (fun m hm => by cases hm; omega)
  have hs2 : B + 1 < w2.heap.size := (Array.getElem?_eq_some_iff.1 hr2).1
  clear c0 c1 c2 c3 c4 c5 c6 c7 c8 c9 c10 c11 c12 c13 c14 c15 c16 c17 c18 c19 c20 d0 d1 d2 d3 d4 d5 d6 d7 d8 d9 d10 d11 d12 d13 d14 d15 d16 d17 d18 d19 d20 f0 f1 f2 f3 f4 f5 f6 f7 f8 f9 f10 f11 f12 f13 f14 f15 f16 f17 f18 f19 f20 hb1 hr1 hg1 hx1 hw2
  refine (HF.out c.t a cap w2 HSM.out (HIN.out.xt hx2)).mono ?_
  rintro e w3 ⟨a', rfl, hA, hx3⟩
  have hb3 := (hx3.block B (by omega)).trans hb2
  have hr3 := (hx3.block (B + 1) hs2).trans hr2
  have HX3 := Lib.hid hx3
  have HA := Lib.hid hA
  have HX2 := Lib.hid hx2
  obtain ⟨w4, hw4⟩ : ∃ w4, w3.setCells B 6 [.int .i64 c.t.kind, .int .i64 c.t.op, .float .f64 (oneX c.t.x), .string c.t.s, .bool c.t.b, .int .i64 c.t.f, .int .i64 c.t.ref.a.1, .int .i64 c.t.ref.a.2, .bool c.t.ref.cf, .bool c.t.ref.rf, .int .i64 c.t.to.a.1, .int .i64 c.t.to.a.2, .bool c.t.to.cf, .bool c.t.to.rf, .slice a' c.t.args.length c.t.args.length] = w4 := ⟨_, rfl⟩
  have hg4 : w3.grownBy w4 (some B) := by rw [← hw4]; exact setCells_grown B _ 6 w3
  have hb4 := fill15at6 (u0 := .int .i64 c.t.kind) (u1 := .int .i64 c.t.op) (u2 := .float .f64 (oneX c.t.x)) (u3 := .string c.t.s) (u4 := .bool c.t.b) (u5 := .int .i64 c.t.f) (u6 := .int .i64 c.t.ref.a.1) (u7 := .int .i64 c.t.ref.a.2) (u8 := .bool c.t.ref.cf) (u9 := .bool c.t.ref.rf) (u10 := .int .i64 c.t.to.a.1) (u11 := .int .i64 c.t.to.a.2) (u12 := .bool c.t.to.cf) (u13 := .bool c.t.to.rf) (u14 := .slice a' c.t.args.length c.t.args.length) hb3
  rw [hw4] at hb4
  have hr4 := (hg4.block (B + 1) (Array.getElem?_eq_some_iff.1 hr3).1 (by simp)).trans hr3
  obtain ⟨w5, hw5⟩ : ∃ w5, w4.setRow (B + 1) #[.int .i64 c.kind, .int .i64 c.v.kind, .float .f64 (oneX c.v.x), .string c.v.s, .bool c.v.b, .int .i64 c.v.f, .int .i64 c.t.kind, .int .i64 c.t.op, .float .f64 (oneX c.t.x), .string c.t.s, .bool c.t.b, .int .i64 c.t.f, .int .i64 c.t.ref.a.1, .int .i64 c.t.ref.a.2, .bool c.t.ref.cf, .bool c.t.ref.rf, .int .i64 c.t.to.a.1, .int .i64 c.t.to.a.2, .bool c.t.to.cf, .bool c.t.to.rf, .slice a' c.t.args.length c.t.args.length] = w5 := ⟨_, rfl⟩
  have hg5 : w4.grownBy w5 (some (B + 1)) := by rw [← hw5]; exact setRow_grown _ _ _
  have hr5 : w5.heap[B + 1]? = some (.cells #[.int .i64 c.kind, .int .i64 c.v.kind, .float .f64 (oneX c.v.x), .string c.v.s, .bool c.v.b, .int .i64 c.v.f, .int .i64 c.t.kind, .int .i64 c.t.op, .float .f64 (oneX c.t.x), .string c.t.s, .bool c.t.b, .int .i64 c.t.f, .int .i64 c.t.ref.a.1, .int .i64 c.t.ref.a.2, .bool c.t.ref.cf, .bool c.t.ref.rf, .int .i64 c.t.to.a.1, .int .i64 c.t.to.a.2, .bool c.t.to.cf, .bool c.t.to.rf, .slice a' c.t.args.length c.t.args.length] 33 (0, 0)) := by rw [← hw5]; exact setRow_heap w4 (B + 1) _ _ _ _ hr4
  have HG4 := Lib.hid hg4
  have HG5 := Lib.hid hg5
  have HR5 := Lib.hid hr5
  have hs3 : B + 1 < w3.heap.size := (Array.getElem?_eq_some_iff.1 hr3).1
  have hth := Lib.hid (there_row hb3 6 15 (by simp))
  have HW4 := Lib.hid hw4
  have HW5 := Lib.hid hw5
  have HB4 := Lib.hid hb4
  have HR4 := Lib.hid hr4
  clear hb2 hr2 hx2 hb3 hr3 hx3 hA hw4 hb4 hr4 hw5 hg4 hg5 hr5
  go_wp2_with (first
    | (refine wpList_store_mid (P := Tryd.prog) rfl 31 _ _ rfl B 6 #[.int .i64 c.t.kind, .int .i64 c.t.op, .float .f64 (oneX c.t.x), .string c.t.s, .bool c.t.b, .int .i64 c.t.f, .int .i64 c.t.ref.a.1, .int .i64 c.t.ref.a.2, .bool c.t.ref.cf, .bool c.t.ref.rf, .int .i64 c.t.to.a.1, .int .i64 c.t.to.a.2, .bool c.t.to.cf, .bool c.t.to.rf, .slice a' c.t.args.length c.t.args.length] rfl rfl hth.out (by kernel_rfl) (by simp [Value.oneCell']) ?_; rw [HW4.out])
    | (refine wpList_load_row (P := Tryd.prog) rfl 33 _ rfl B rfl 33 _ (0, 0) _ HB4.out Tryd.underlying33 rfl (by kernel_rfl) ?_)
    | (refine wpList_store_row (P := Tryd.prog) rfl 33 _ _ rfl (B + 1) #[.int .i64 c.kind, .int .i64 c.v.kind, .float .f64 (oneX c.v.x), .string c.v.s, .bool c.v.b, .int .i64 c.v.f, .int .i64 c.t.kind, .int .i64 c.t.op, .float .f64 (oneX c.t.x), .string c.t.s, .bool c.t.b, .int .i64 c.t.f, .int .i64 c.t.ref.a.1, .int .i64 c.t.ref.a.2, .bool c.t.ref.cf, .bool c.t.ref.rf, .int .i64 c.t.to.a.1, .int .i64 c.t.to.a.2, .bool c.t.to.cf, .bool c.t.to.rf, .slice a' c.t.args.length c.t.args.length] rfl rfl 33 _ HR4.out (by kernel_rfl) rfl (by simp [Value.oneCell']) ?_; rw [HW5.out]))
  (try simp only [Exit.inBlock, Exit.then])
  refine bodyPost_ret (results_cell_row rfl _ _ (B + 1) _ _ _ _ rfl HR5.out Tryd.underlying33 rfl (by kernel_rfl)) rfl ?_
  rw [← hQ]
  refine ⟨a', by rw [copyCV_eq], HA.out.keep (fun b hb hlt => ?_) (fun b o hb hlt => ?_), ?_⟩
  · have := HX2.out.sz; omega
  · have : B + 1 < b := by omega
    exact World.cell?_of_block (w := w3) (a := ⟨b, o, none⟩) ((HG5.out.block b (by have := HG4.out.size; omega) (fun e => by cases e; omega)).trans (HG4.out.block b hlt (fun e => by cases e; omega)))
  · exact ((HX2.out.trans HX3.out).grownB HG4.out (fun m hm => by cases hm; omega)).grownB HG5.out (fun m hm => by cases hm; omega)
end Go.Proofs.YtfpdleljhbkehaaDoor
