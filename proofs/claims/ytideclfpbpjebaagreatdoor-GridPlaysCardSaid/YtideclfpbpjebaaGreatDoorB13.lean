import Derived.Test.YtideclfpbpjebaaGreatDoorB9
import Derived.Deep.RegionHeld3
import Derived.Test.YtideclfpbpjebaaGreatDoorB12
import Derived.Test.YtideclfpbpjebaaGreatDoorB11
namespace Go.Proofs.YtideclfpbpjebaaGreatDoor
section
open Go.RowKit Go.Sort

/-! ### grid.Copy (made by mkgcopy.py) -/
def GCopyR (c : ContT) (n : Nat) (w : World) (e : Ending) (w' : World) : Prop := ∃ a', e = .returned (copyCV c a') ∧ ArgsS (fun b => w.heap.size ≤ b) w' n (.slice a' c.t.args.length c.t.args.length) (copyL c.t.args) ∧ Xt w w'
@[go_sem] theorem run_field_x (k f : Int) (x : Nat) (s : ByteArray) (b : Bool) (w : World) : (Instr.field 39 (.agg #[.int .i64 k, .float .f64 x, .string s, .bool b, .int .i64 f]) 1).run Tryz.prog w = .ok (.float .f64 x) w := by
  have u := run_underlying Tryz.underlying39
  have u2 := run_underlying Tryz.underlying37
  simp [Instr.field, u, part, asAgg]
set_option maxRecDepth 100000 in
set_option maxHeartbeats 4000000 in
theorem gcopy_any (n : Nat) (c : ContT) (a : Option Addr) (cap : Nat) (w : World) (hsm : smallT c.t) (hin : ArgsIn w n (.slice a c.t.args.length cap) c.t.args) :
    Calls Tryz.prog 38 #[contV c a c.t.args.length cap] w (GCopyR c n w) := by
  have HSM := Lib.hid hsm
  have HIN := Lib.hid hin
  have HF := Lib.hid (fcopy_any n)
  obtain ⟨B, hB⟩ : ∃ B, w.heap.size = B := ⟨_, rfl⟩
  obtain ⟨w0, hw0⟩ : ∃ w0, w.alloc (.cells #[.int .i64 c.kind, .int .i64 c.v.kind, .float .f64 c.v.x, .string c.v.s, .bool c.v.b, .int .i64 c.v.f, .int .i64 c.t.kind, .int .i64 c.t.op, .float .f64 c.t.x, .string c.t.s, .bool c.t.b, .int .i64 c.t.f, .int .i64 c.t.ref.a.1, .int .i64 c.t.ref.a.2, .bool c.t.ref.cf, .bool c.t.ref.rf, .int .i64 c.t.to.a.1, .int .i64 c.t.to.a.2, .bool c.t.to.cf, .bool c.t.to.rf, .slice a c.t.args.length cap] 46) = w0 := ⟨_, rfl⟩
  have hs0 : w0.heap.size = B + 1 := by rw [← hw0, ← hB]; simp
  have hb0 : w0.heap[B]? = some (.cells #[.int .i64 c.kind, .int .i64 c.v.kind, .float .f64 c.v.x, .string c.v.s, .bool c.v.b, .int .i64 c.v.f, .int .i64 c.t.kind, .int .i64 c.t.op, .float .f64 c.t.x, .string c.t.s, .bool c.t.b, .int .i64 c.t.f, .int .i64 c.t.ref.a.1, .int .i64 c.t.ref.a.2, .bool c.t.ref.cf, .bool c.t.ref.rf, .int .i64 c.t.to.a.1, .int .i64 c.t.to.a.2, .bool c.t.to.cf, .bool c.t.to.rf, .slice a c.t.args.length cap] 46 (0, 0)) := by rw [← hw0, ← hB]; exact (MapKept.heap_alloc w _).1
  have hx0 : Xt w w0 := by rw [← hw0]; exact (Xt.refl w).alloc _
  obtain ⟨wS, hwS⟩ : ∃ wS, w0.alloc (.cells #[.int .i64 0, .int .i64 0, .float .f64 0, .string ⟨#[]⟩, .bool false, .int .i64 0, .int .i64 0, .int .i64 0, .float .f64 0, .string ⟨#[]⟩, .bool false, .int .i64 0, .int .i64 0, .int .i64 0, .bool false, .bool false, .int .i64 0, .int .i64 0, .bool false, .bool false, .slice none 0 0] 46) = wS := ⟨_, rfl⟩
  have hxS : Xt w wS := by rw [← hwS]; exact hx0.alloc _
  have hbS : wS.heap[B]? = some (.cells #[.int .i64 c.kind, .int .i64 c.v.kind, .float .f64 c.v.x, .string c.v.s, .bool c.v.b, .int .i64 c.v.f, .int .i64 c.t.kind, .int .i64 c.t.op, .float .f64 c.t.x, .string c.t.s, .bool c.t.b, .int .i64 c.t.f, .int .i64 c.t.ref.a.1, .int .i64 c.t.ref.a.2, .bool c.t.ref.cf, .bool c.t.ref.rf, .int .i64 c.t.to.a.1, .int .i64 c.t.to.a.2, .bool c.t.to.cf, .bool c.t.to.rf, .slice a c.t.args.length cap] 46 (0, 0)) := by rw [← hwS]; exact (Below.heap_alloc w0 _ B (by omega)).trans hb0
  have hrS : wS.heap[B + 1]? = some (.cells #[.int .i64 0, .int .i64 0, .float .f64 0, .string ⟨#[]⟩, .bool false, .int .i64 0, .int .i64 0, .int .i64 0, .float .f64 0, .string ⟨#[]⟩, .bool false, .int .i64 0, .int .i64 0, .int .i64 0, .bool false, .bool false, .int .i64 0, .int .i64 0, .bool false, .bool false, .slice none 0 0] 46 (0, 0)) := by rw [← hwS, ← hs0]; exact (MapKept.heap_alloc w0 _).1
  have hsS : B + 1 < wS.heap.size := (Array.getElem?_eq_some_iff.1 hrS).1
  have HB := Lib.hid hB
  have HXS := Lib.hid hxS
  have HBS := Lib.hid hbS
  have HRS := Lib.hid hrS
  obtain ⟨c0, c1, c2, c3, c4, c5, c6, c7, c8, c9, c10, c11, c12, c13, c14, c15, c16, c17, c18, c19, c20⟩ := cells21 hbS
  clear hsm hin hxS hbS hrS hx0 hb0
  generalize hQ : GCopyR c n w = Q
  go_enter Tryz.func38, Tryz.ntmps38
  have hHs : w.heap.size = B := hB
  go_wp2_with (refine (OfNumber_any _ _).mono ?_; rintro e w1 ⟨rfl, hg1⟩
               have hb1 := (hg1.below.block B (by omega)).trans HBS.out
               have hr1 := (hg1.below.block (B + 1) hsS).trans HRS.out
               have hx1 := hg1.xt
               obtain ⟨d0, d1, d2, d3, d4, d5, d6, d7, d8, d9, d10, d11, d12, d13, d14, d15, d16, d17, d18, d19, d20⟩ := cells21 hb1
               obtain ⟨f0, f1, f2, f3, f4, f5, f6, f7, f8, f9, f10, f11, f12, f13, f14, f15, f16, f17, f18, f19, f20⟩ := frozen21 hb1)
  obtain ⟨w2, hw2⟩ : ∃ w2, w1.setCell ⟨B, 2, none⟩ (.float .f64 (oneX c.v.x)) = w2 := ⟨_, rfl⟩
  rw [hw2]
  have hb2 : w2.heap[B]? = some (.cells #[.int .i64 c.kind, .int .i64 c.v.kind, .float .f64 (oneX c.v.x), .string c.v.s, .bool c.v.b, .int .i64 c.v.f, .int .i64 c.t.kind, .int .i64 c.t.op, .float .f64 c.t.x, .string c.t.s, .bool c.t.b, .int .i64 c.t.f, .int .i64 c.t.ref.a.1, .int .i64 c.t.ref.a.2, .bool c.t.ref.cf, .bool c.t.ref.rf, .int .i64 c.t.to.a.1, .int .i64 c.t.to.a.2, .bool c.t.to.cf, .bool c.t.to.rf, .slice a c.t.args.length cap] 46 (0, 0)) := by rw [← hw2]; have := setCell_row hb1 2 (.float .f64 (oneX c.v.x)); simpa using this
  have hr2 : w2.heap[B + 1]? = some (.cells #[.int .i64 0, .int .i64 0, .float .f64 0, .string ⟨#[]⟩, .bool false, .int .i64 0, .int .i64 0, .int .i64 0, .float .f64 0, .string ⟨#[]⟩, .bool false, .int .i64 0, .int .i64 0, .int .i64 0, .bool false, .bool false, .int .i64 0, .int .i64 0, .bool false, .bool false, .slice none 0 0] 46 (0, 0)) := by rw [← hw2]; exact (Below.heap_setCell _ _ _ _ (by show B + 1 ≠ B; omega)).trans hr1
  have hx2 : Xt w w2 := by rw [← hw2]; exact (HXS.out.trans hx1).grownB (setCell_grown _ _ _ _) (fun m hm => by cases hm; omega)
  have hs2 : B + 1 < w2.heap.size := (Array.getElem?_eq_some_iff.1 hr2).1
  clear c0 c1 c2 c3 c4 c5 c6 c7 c8 c9 c10 c11 c12 c13 c14 c15 c16 c17 c18 c19 c20 d0 d1 d2 d3 d4 d5 d6 d7 d8 d9 d10 d11 d12 d13 d14 d15 d16 d17 d18 d19 d20 f0 f1 f2 f3 f4 f5 f6 f7 f8 f9 f10 f11 f12 f13 f14 f15 f16 f17 f18 f19 f20 hb1 hr1 hg1 hx1 hw2
  refine (HF.out c.t a cap w2 HSM.out (HIN.out.xt hx2)).mono ?_
  rintro e w3 ⟨a', rfl, hA, hx3⟩
  have hb3 := (hx3.block B (by omega)).trans hb2
  have hr3 := (hx3.block (B + 1) hs2).trans hr2
  have HX3 := Lib.hid hx3
  have HA := Lib.hid hA
  have HX2 := Lib.hid hx2
  obtain ⟨w4, hw4⟩ : ∃ w4, w3.setCells B 6 [.int .i64 c.t.kind, .int .i64 c.t.op, .float .f64 (oneX c.t.x), .string c.t.s, .bool c.t.b, .int .i64 c.t.f, .int .i64 c.t.ref.a.1, .int .i64 c.t.ref.a.2, .bool c.t.ref.cf, .bool c.t.ref.rf, .int .i64 c.t.to.a.1, .int .i64 c.t.to.a.2, .bool c.t.to.cf, .bool c.t.to.rf, .slice a' c.t.args.length c.t.args.length] = w4 := ⟨_, rfl⟩
  have hg4 : w3.grownBy w4 (some B) := by rw [← hw4]; exact setCells_grown B _ 6 w3
  have hb4 := fill15at6 (u0 := .int .i64 c.t.kind) (u1 := .int .i64 c.t.op) (u2 := .float .f64 (oneX c.t.x)) (u3 := .string c.t.s) (u4 := .bool c.t.b) (u5 := .int .i64 c.t.f) (u6 := .int .i64 c.t.ref.a.1) (u7 := .int .i64 c.t.ref.a.2) (u8 := .bool c.t.ref.cf) (u9 := .bool c.t.ref.rf) (u10 := .int .i64 c.t.to.a.1) (u11 := .int .i64 c.t.to.a.2) (u12 := .bool c.t.to.cf) (u13 := .bool c.t.to.rf) (u14 := .slice a' c.t.args.length c.t.args.length) hb3
  rw [hw4] at hb4
  have hr4 := (hg4.block (B + 1) (Array.getElem?_eq_some_iff.1 hr3).1 (by simp)).trans hr3
  obtain ⟨w5, hw5⟩ : ∃ w5, w4.setRow (B + 1) #[.int .i64 c.kind, .int .i64 c.v.kind, .float .f64 (oneX c.v.x), .string c.v.s, .bool c.v.b, .int .i64 c.v.f, .int .i64 c.t.kind, .int .i64 c.t.op, .float .f64 (oneX c.t.x), .string c.t.s, .bool c.t.b, .int .i64 c.t.f, .int .i64 c.t.ref.a.1, .int .i64 c.t.ref.a.2, .bool c.t.ref.cf, .bool c.t.ref.rf, .int .i64 c.t.to.a.1, .int .i64 c.t.to.a.2, .bool c.t.to.cf, .bool c.t.to.rf, .slice a' c.t.args.length c.t.args.length] = w5 := ⟨_, rfl⟩
  have hg5 : w4.grownBy w5 (some (B + 1)) := by rw [← hw5]; exact setRow_grown _ _ _
  have hr5 : w5.heap[B + 1]? = some (.cells #[.int .i64 c.kind, .int .i64 c.v.kind, .float .f64 (oneX c.v.x), .string c.v.s, .bool c.v.b, .int .i64 c.v.f, .int .i64 c.t.kind, .int .i64 c.t.op, .float .f64 (oneX c.t.x), .string c.t.s, .bool c.t.b, .int .i64 c.t.f, .int .i64 c.t.ref.a.1, .int .i64 c.t.ref.a.2, .bool c.t.ref.cf, .bool c.t.ref.rf, .int .i64 c.t.to.a.1, .int .i64 c.t.to.a.2, .bool c.t.to.cf, .bool c.t.to.rf, .slice a' c.t.args.length c.t.args.length] 46 (0, 0)) := by rw [← hw5]; exact setRow_heap w4 (B + 1) _ _ _ _ hr4
  have HG4 := Lib.hid hg4
  have HG5 := Lib.hid hg5
  have HR5 := Lib.hid hr5
  have hs3 : B + 1 < w3.heap.size := (Array.getElem?_eq_some_iff.1 hr3).1
  have hth := Lib.hid (there_row hb3 6 15 (by simp))
  have HW4 := Lib.hid hw4
  have HW5 := Lib.hid hw5
  have HB4 := Lib.hid hb4
  have HR4 := Lib.hid hr4
  clear hb2 hr2 hx2 hb3 hr3 hx3 hA hw4 hb4 hr4 hw5 hg4 hg5 hr5
  go_wp2_with (first
    | (refine wpList_store_mid (P := Tryz.prog) rfl 44 _ _ rfl B 6 #[.int .i64 c.t.kind, .int .i64 c.t.op, .float .f64 (oneX c.t.x), .string c.t.s, .bool c.t.b, .int .i64 c.t.f, .int .i64 c.t.ref.a.1, .int .i64 c.t.ref.a.2, .bool c.t.ref.cf, .bool c.t.ref.rf, .int .i64 c.t.to.a.1, .int .i64 c.t.to.a.2, .bool c.t.to.cf, .bool c.t.to.rf, .slice a' c.t.args.length c.t.args.length] rfl rfl hth.out (by kernel_rfl) (by simp [Value.oneCell']) ?_; rw [HW4.out])
    | (refine wpList_load_row (P := Tryz.prog) rfl 46 _ rfl B rfl 46 _ (0, 0) _ HB4.out Tryz.underlying46 rfl (by kernel_rfl) ?_)
    | (refine wpList_store_row (P := Tryz.prog) rfl 46 _ _ rfl (B + 1) #[.int .i64 c.kind, .int .i64 c.v.kind, .float .f64 (oneX c.v.x), .string c.v.s, .bool c.v.b, .int .i64 c.v.f, .int .i64 c.t.kind, .int .i64 c.t.op, .float .f64 (oneX c.t.x), .string c.t.s, .bool c.t.b, .int .i64 c.t.f, .int .i64 c.t.ref.a.1, .int .i64 c.t.ref.a.2, .bool c.t.ref.cf, .bool c.t.ref.rf, .int .i64 c.t.to.a.1, .int .i64 c.t.to.a.2, .bool c.t.to.cf, .bool c.t.to.rf, .slice a' c.t.args.length c.t.args.length] rfl rfl 46 _ HR4.out (by kernel_rfl) rfl (by simp [Value.oneCell']) ?_; rw [HW5.out]))
  (try simp only [Exit.inBlock, Exit.then])
  refine bodyPost_ret (results_cell_row rfl _ _ (B + 1) _ _ _ _ rfl HR5.out Tryz.underlying46 rfl (by kernel_rfl)) rfl ?_
  rw [← hQ]
  refine ⟨a', by rw [copyCV_eq], HA.out.keep (fun b hb hlt => ?_) (fun b o hb hlt => ?_), ?_⟩
  · have := HX2.out.sz; omega
  · have : B + 1 < b := by omega
    exact World.cell?_of_block (w := w3) (a := ⟨b, o, none⟩) ((HG5.out.block b (by have := HG4.out.size; omega) (fun e => by cases e; omega)).trans (HG4.out.block b hlt (fun e => by cases e; omega)))
  · exact ((HX2.out.trans HX3.out).grownB HG4.out (fun m hm => by cases hm; omega)).grownB HG5.out (fun m hm => by cases hm; omega)

def GCopyO (c : ContT) (n : Nat) (w : World) (e : Ending) (w' : World) : Prop := ∃ a', e = .returned (copyCV c a') ∧ OwnIn (fun b => w.heap.size ≤ b) w' n (.slice a' c.t.args.length c.t.args.length) (copyL c.t.args) ∧ Xt w w'
set_option maxRecDepth 100000 in
set_option maxHeartbeats 4000000 in
theorem gcopyO_any (n : Nat) (c : ContT) (a : Option Addr) (cap : Nat) (w : World) (hsm : smallT c.t) (hin : ArgsIn w n (.slice a c.t.args.length cap) c.t.args) :
    Calls Tryz.prog 38 #[contV c a c.t.args.length cap] w (GCopyO c n w) := by
  have HSM := Lib.hid hsm
  have HIN := Lib.hid hin
  have HF := Lib.hid (fcopyO_any n)
  obtain ⟨B, hB⟩ : ∃ B, w.heap.size = B := ⟨_, rfl⟩
  obtain ⟨w0, hw0⟩ : ∃ w0, w.alloc (.cells #[.int .i64 c.kind, .int .i64 c.v.kind, .float .f64 c.v.x, .string c.v.s, .bool c.v.b, .int .i64 c.v.f, .int .i64 c.t.kind, .int .i64 c.t.op, .float .f64 c.t.x, .string c.t.s, .bool c.t.b, .int .i64 c.t.f, .int .i64 c.t.ref.a.1, .int .i64 c.t.ref.a.2, .bool c.t.ref.cf, .bool c.t.ref.rf, .int .i64 c.t.to.a.1, .int .i64 c.t.to.a.2, .bool c.t.to.cf, .bool c.t.to.rf, .slice a c.t.args.length cap] 46) = w0 := ⟨_, rfl⟩
  have hs0 : w0.heap.size = B + 1 := by rw [← hw0, ← hB]; simp
  have hb0 : w0.heap[B]? = some (.cells #[.int .i64 c.kind, .int .i64 c.v.kind, .float .f64 c.v.x, .string c.v.s, .bool c.v.b, .int .i64 c.v.f, .int .i64 c.t.kind, .int .i64 c.t.op, .float .f64 c.t.x, .string c.t.s, .bool c.t.b, .int .i64 c.t.f, .int .i64 c.t.ref.a.1, .int .i64 c.t.ref.a.2, .bool c.t.ref.cf, .bool c.t.ref.rf, .int .i64 c.t.to.a.1, .int .i64 c.t.to.a.2, .bool c.t.to.cf, .bool c.t.to.rf, .slice a c.t.args.length cap] 46 (0, 0)) := by rw [← hw0, ← hB]; exact (MapKept.heap_alloc w _).1
  have hx0 : Xt w w0 := by rw [← hw0]; exact (Xt.refl w).alloc _
  obtain ⟨wS, hwS⟩ : ∃ wS, w0.alloc (.cells #[.int .i64 0, .int .i64 0, .float .f64 0, .string ⟨#[]⟩, .bool false, .int .i64 0, .int .i64 0, .int .i64 0, .float .f64 0, .string ⟨#[]⟩, .bool false, .int .i64 0, .int .i64 0, .int .i64 0, .bool false, .bool false, .int .i64 0, .int .i64 0, .bool false, .bool false, .slice none 0 0] 46) = wS := ⟨_, rfl⟩
  have hxS : Xt w wS := by rw [← hwS]; exact hx0.alloc _
  have hbS : wS.heap[B]? = some (.cells #[.int .i64 c.kind, .int .i64 c.v.kind, .float .f64 c.v.x, .string c.v.s, .bool c.v.b, .int .i64 c.v.f, .int .i64 c.t.kind, .int .i64 c.t.op, .float .f64 c.t.x, .string c.t.s, .bool c.t.b, .int .i64 c.t.f, .int .i64 c.t.ref.a.1, .int .i64 c.t.ref.a.2, .bool c.t.ref.cf, .bool c.t.ref.rf, .int .i64 c.t.to.a.1, .int .i64 c.t.to.a.2, .bool c.t.to.cf, .bool c.t.to.rf, .slice a c.t.args.length cap] 46 (0, 0)) := by rw [← hwS]; exact (Below.heap_alloc w0 _ B (by omega)).trans hb0
  have hrS : wS.heap[B + 1]? = some (.cells #[.int .i64 0, .int .i64 0, .float .f64 0, .string ⟨#[]⟩, .bool false, .int .i64 0, .int .i64 0, .int .i64 0, .float .f64 0, .string ⟨#[]⟩, .bool false, .int .i64 0, .int .i64 0, .int .i64 0, .bool false, .bool false, .int .i64 0, .int .i64 0, .bool false, .bool false, .slice none 0 0] 46 (0, 0)) := by rw [← hwS, ← hs0]; exact (MapKept.heap_alloc w0 _).1
  have hsS : B + 1 < wS.heap.size := (Array.getElem?_eq_some_iff.1 hrS).1
  have HB := Lib.hid hB
  have HXS := Lib.hid hxS
  have HBS := Lib.hid hbS
  have HRS := Lib.hid hrS
  obtain ⟨c0, c1, c2, c3, c4, c5, c6, c7, c8, c9, c10, c11, c12, c13, c14, c15, c16, c17, c18, c19, c20⟩ := cells21 hbS
  clear hsm hin hxS hbS hrS hx0 hb0
  generalize hQ : GCopyO c n w = Q
  go_enter Tryz.func38, Tryz.ntmps38
  have hHs : w.heap.size = B := hB
  go_wp2_with (refine (OfNumber_any _ _).mono ?_; rintro e w1 ⟨rfl, hg1⟩
               have hb1 := (hg1.below.block B (by omega)).trans HBS.out
               have hr1 := (hg1.below.block (B + 1) hsS).trans HRS.out
               have hx1 := hg1.xt
               obtain ⟨d0, d1, d2, d3, d4, d5, d6, d7, d8, d9, d10, d11, d12, d13, d14, d15, d16, d17, d18, d19, d20⟩ := cells21 hb1
               obtain ⟨f0, f1, f2, f3, f4, f5, f6, f7, f8, f9, f10, f11, f12, f13, f14, f15, f16, f17, f18, f19, f20⟩ := frozen21 hb1)
  obtain ⟨w2, hw2⟩ : ∃ w2, w1.setCell ⟨B, 2, none⟩ (.float .f64 (oneX c.v.x)) = w2 := ⟨_, rfl⟩
  rw [hw2]
  have hb2 : w2.heap[B]? = some (.cells #[.int .i64 c.kind, .int .i64 c.v.kind, .float .f64 (oneX c.v.x), .string c.v.s, .bool c.v.b, .int .i64 c.v.f, .int .i64 c.t.kind, .int .i64 c.t.op, .float .f64 c.t.x, .string c.t.s, .bool c.t.b, .int .i64 c.t.f, .int .i64 c.t.ref.a.1, .int .i64 c.t.ref.a.2, .bool c.t.ref.cf, .bool c.t.ref.rf, .int .i64 c.t.to.a.1, .int .i64 c.t.to.a.2, .bool c.t.to.cf, .bool c.t.to.rf, .slice a c.t.args.length cap] 46 (0, 0)) := by rw [← hw2]; have := setCell_row hb1 2 (.float .f64 (oneX c.v.x)); simpa using this
  have hr2 : w2.heap[B + 1]? = some (.cells #[.int .i64 0, .int .i64 0, .float .f64 0, .string ⟨#[]⟩, .bool false, .int .i64 0, .int .i64 0, .int .i64 0, .float .f64 0, .string ⟨#[]⟩, .bool false, .int .i64 0, .int .i64 0, .int .i64 0, .bool false, .bool false, .int .i64 0, .int .i64 0, .bool false, .bool false, .slice none 0 0] 46 (0, 0)) := by rw [← hw2]; exact (Below.heap_setCell _ _ _ _ (by show B + 1 ≠ B; omega)).trans hr1
  have hx2 : Xt w w2 := by rw [← hw2]; exact (HXS.out.trans hx1).grownB (setCell_grown _ _ _ _) (fun m hm => by cases hm; omega)
  have hs2 : B + 1 < w2.heap.size := (Array.getElem?_eq_some_iff.1 hr2).1
  clear c0 c1 c2 c3 c4 c5 c6 c7 c8 c9 c10 c11 c12 c13 c14 c15 c16 c17 c18 c19 c20 d0 d1 d2 d3 d4 d5 d6 d7 d8 d9 d10 d11 d12 d13 d14 d15 d16 d17 d18 d19 d20 f0 f1 f2 f3 f4 f5 f6 f7 f8 f9 f10 f11 f12 f13 f14 f15 f16 f17 f18 f19 f20 hb1 hr1 hg1 hx1 hw2
  refine (HF.out c.t a cap w2 HSM.out (HIN.out.xt hx2)).mono ?_
  rintro e w3 ⟨a', rfl, hA, hx3⟩
  have hb3 := (hx3.block B (by omega)).trans hb2
  have hr3 := (hx3.block (B + 1) hs2).trans hr2
  have HX3 := Lib.hid hx3
  have HA := Lib.hid hA
  have HX2 := Lib.hid hx2
  obtain ⟨w4, hw4⟩ : ∃ w4, w3.setCells B 6 [.int .i64 c.t.kind, .int .i64 c.t.op, .float .f64 (oneX c.t.x), .string c.t.s, .bool c.t.b, .int .i64 c.t.f, .int .i64 c.t.ref.a.1, .int .i64 c.t.ref.a.2, .bool c.t.ref.cf, .bool c.t.ref.rf, .int .i64 c.t.to.a.1, .int .i64 c.t.to.a.2, .bool c.t.to.cf, .bool c.t.to.rf, .slice a' c.t.args.length c.t.args.length] = w4 := ⟨_, rfl⟩
  have hg4 : w3.grownBy w4 (some B) := by rw [← hw4]; exact setCells_grown B _ 6 w3
  have hb4 := fill15at6 (u0 := .int .i64 c.t.kind) (u1 := .int .i64 c.t.op) (u2 := .float .f64 (oneX c.t.x)) (u3 := .string c.t.s) (u4 := .bool c.t.b) (u5 := .int .i64 c.t.f) (u6 := .int .i64 c.t.ref.a.1) (u7 := .int .i64 c.t.ref.a.2) (u8 := .bool c.t.ref.cf) (u9 := .bool c.t.ref.rf) (u10 := .int .i64 c.t.to.a.1) (u11 := .int .i64 c.t.to.a.2) (u12 := .bool c.t.to.cf) (u13 := .bool c.t.to.rf) (u14 := .slice a' c.t.args.length c.t.args.length) hb3
  rw [hw4] at hb4
  have hr4 := (hg4.block (B + 1) (Array.getElem?_eq_some_iff.1 hr3).1 (by simp)).trans hr3
  obtain ⟨w5, hw5⟩ : ∃ w5, w4.setRow (B + 1) #[.int .i64 c.kind, .int .i64 c.v.kind, .float .f64 (oneX c.v.x), .string c.v.s, .bool c.v.b, .int .i64 c.v.f, .int .i64 c.t.kind, .int .i64 c.t.op, .float .f64 (oneX c.t.x), .string c.t.s, .bool c.t.b, .int .i64 c.t.f, .int .i64 c.t.ref.a.1, .int .i64 c.t.ref.a.2, .bool c.t.ref.cf, .bool c.t.ref.rf, .int .i64 c.t.to.a.1, .int .i64 c.t.to.a.2, .bool c.t.to.cf, .bool c.t.to.rf, .slice a' c.t.args.length c.t.args.length] = w5 := ⟨_, rfl⟩
  have hg5 : w4.grownBy w5 (some (B + 1)) := by rw [← hw5]; exact setRow_grown _ _ _
  have hr5 : w5.heap[B + 1]? = some (.cells #[.int .i64 c.kind, .int .i64 c.v.kind, .float .f64 (oneX c.v.x), .string c.v.s, .bool c.v.b, .int .i64 c.v.f, .int .i64 c.t.kind, .int .i64 c.t.op, .float .f64 (oneX c.t.x), .string c.t.s, .bool c.t.b, .int .i64 c.t.f, .int .i64 c.t.ref.a.1, .int .i64 c.t.ref.a.2, .bool c.t.ref.cf, .bool c.t.ref.rf, .int .i64 c.t.to.a.1, .int .i64 c.t.to.a.2, .bool c.t.to.cf, .bool c.t.to.rf, .slice a' c.t.args.length c.t.args.length] 46 (0, 0)) := by rw [← hw5]; exact setRow_heap w4 (B + 1) _ _ _ _ hr4
  have HG4 := Lib.hid hg4
  have HG5 := Lib.hid hg5
  have HR5 := Lib.hid hr5
  have hs3 : B + 1 < w3.heap.size := (Array.getElem?_eq_some_iff.1 hr3).1
  have hth := Lib.hid (there_row hb3 6 15 (by simp))
  have HW4 := Lib.hid hw4
  have HW5 := Lib.hid hw5
  have HB4 := Lib.hid hb4
  have HR4 := Lib.hid hr4
  clear hb2 hr2 hx2 hb3 hr3 hx3 hA hw4 hb4 hr4 hw5 hg4 hg5 hr5
  go_wp2_with (first
    | (refine wpList_store_mid (P := Tryz.prog) rfl 44 _ _ rfl B 6 #[.int .i64 c.t.kind, .int .i64 c.t.op, .float .f64 (oneX c.t.x), .string c.t.s, .bool c.t.b, .int .i64 c.t.f, .int .i64 c.t.ref.a.1, .int .i64 c.t.ref.a.2, .bool c.t.ref.cf, .bool c.t.ref.rf, .int .i64 c.t.to.a.1, .int .i64 c.t.to.a.2, .bool c.t.to.cf, .bool c.t.to.rf, .slice a' c.t.args.length c.t.args.length] rfl rfl hth.out (by kernel_rfl) (by simp [Value.oneCell']) ?_; rw [HW4.out])
    | (refine wpList_load_row (P := Tryz.prog) rfl 46 _ rfl B rfl 46 _ (0, 0) _ HB4.out Tryz.underlying46 rfl (by kernel_rfl) ?_)
    | (refine wpList_store_row (P := Tryz.prog) rfl 46 _ _ rfl (B + 1) #[.int .i64 c.kind, .int .i64 c.v.kind, .float .f64 (oneX c.v.x), .string c.v.s, .bool c.v.b, .int .i64 c.v.f, .int .i64 c.t.kind, .int .i64 c.t.op, .float .f64 (oneX c.t.x), .string c.t.s, .bool c.t.b, .int .i64 c.t.f, .int .i64 c.t.ref.a.1, .int .i64 c.t.ref.a.2, .bool c.t.ref.cf, .bool c.t.ref.rf, .int .i64 c.t.to.a.1, .int .i64 c.t.to.a.2, .bool c.t.to.cf, .bool c.t.to.rf, .slice a' c.t.args.length c.t.args.length] rfl rfl 46 _ HR4.out (by kernel_rfl) rfl (by simp [Value.oneCell']) ?_; rw [HW5.out]))
  (try simp only [Exit.inBlock, Exit.then])
  refine bodyPost_ret (results_cell_row rfl _ _ (B + 1) _ _ _ _ rfl HR5.out Tryz.underlying46 rfl (by kernel_rfl)) rfl ?_
  rw [← hQ]
  refine ⟨a', by rw [copyCV_eq], HA.out.keep (fun b hb hlt => ?_) (fun b hb hlt => ?_), ?_⟩
  · have := HX2.out.sz; omega
  · have : B + 1 < b := by omega
    exact ((HG5.out.block b (by have := HG4.out.size; omega) (fun e => by cases e; omega)).trans (HG4.out.block b hlt (fun e => by cases e; omega)))
  · exact ((HX2.out.trans HX3.out).grownB HG4.out (fun m hm => by cases hm; omega)).grownB HG5.out (fun m hm => by cases hm; omega)

/-! ### the grid's map (made by mkget.py) -/
theorem stoodAd : Tryz.prog.stoodInHeld 36 = false := by kernel_rfl
theorem undAd : Tryz.prog.underlying 36 = some (.struct (Tryz.prog.fieldsOf 36)) := by kernel_rfl
theorem eqAd (w : World) (a b : Ad) : (Op.equal 36 (adV a) (adV b)).run Tryz.prog w = .ok (decide (a = b)) w := by
  obtain ⟨a1, a2⟩ := a
  obtain ⟨b1, b2⟩ := b
  have h := run_equalIn_struct (P := Tryz.prog) w 9999 36 #[.int .i64 a1, .int .i64 a2] #[.int .i64 b1, .int .i64 b2] undAd stoodAd
  simp only [Op.equal, Op.maxDepth, adV]
  rw [show (10000 : Nat) = 9999 + 1 from rfl, h]
  simp only [Program.fieldsOf, Tryz.underlying36]
  go_simp
  by_cases h1 : a1 = b1 <;> by_cases h2 : a2 = b2 <;> simp [h1, h2]
theorem checkAd (w : World) (em : Bool) (a : Ad) : (Instr.checkKey em 10000 36 (adV a)).run Tryz.prog w = .ok () w := by
  rw [show (10000 : Nat) = 9998 + 1 + 1 from rfl, Instr.checkKey]
  simp only [adV, Sem.run_bind, run_underlying Tryz.underlying36, Result.andThen_ok]
  go_simp
  have h3 : ∀ n W, (Instr.checkKey em 9999 3 (Value.int IntKind.i64 n)).run Tryz.prog W = .ok () W := fun n W => MapKept.run_checkKey (P := Tryz.prog) (w := W) Tryz.underlying3 (by simp [MapKept.IsKey]) em 9998
  simp only [h3, Result.andThen_ok]
theorem adrKey : AdrKey Tryz.prog 36 := ⟨⟨_, Tryz.underlying36⟩, checkAd, eqAd⟩

/-- The content of none. -/
def zeroC : ContT := ⟨0, ⟨0, 0, ⟨#[]⟩, false, 0⟩, .mk 0 0 0 ⟨#[]⟩ false 0 ⟨(0, 0), false, false⟩ ⟨(0, 0), false, false⟩ []⟩
theorem zeroCon (w : World) : (zeroValue 46).run Tryz.prog w = .ok (contV zeroC none 0 0) w := by kernel_rfl
theorem GridIs.look {w : World} {gb mb : Nat} {M : GM} (h : GridIs w gb mb M) (a : Ad) : ∃ E, MapIs w mb E ∧ (∀ a, lk a E = (lkM a M).map ceV) ∧ (lk a E).getD (contV zeroC none 0 0) = ceV ((lkM a M).getD (zeroC, none)) := by
  obtain ⟨E, hm, he⟩ := h.map
  refine ⟨E, hm, he, ?_⟩
  rw [he a]
  cases lkM a M <;> rfl
theorem GridIs.lookIn {w : World} {gb mb : Nat} {M : GM} (h : GridIs w gb mb M) (a : Ad) : ceIn w ((lkM a M).getD (zeroC, none)) := by
  cases hl : lkM a M with
  | none => exact ⟨by simp [zeroC, smallT, smallL], 0, ⟨rfl, none, 0, rfl, by simp⟩⟩
  | some x => exact h.args _ (lkM_mem hl)
set_option maxRecDepth 100000 in
theorem gnew_any (w : World) : Calls Tryz.prog 5 #[] w fun e w' => e = .returned (.pointer (some ⟨w.heap.size + 1, 0, none⟩)) ∧ GridIs w' (w.heap.size + 1) w.heap.size [] ∧ Gr w w' := by
  have hmm := @run_makeMap Tryz.prog
  go_enter Tryz.func5, Tryz.ntmps5
  go_wp2
  go_ret
  refine ⟨rfl, ⟨by simp, ⟨[], ?_, fun a => rfl⟩, List.Pairwise.nil, (fun x hx => by cases hx), by simp⟩, ((Gr.refl _).alloc _).alloc _⟩
  rw [MapIs_alloc _ _ _ _ (by simp)]; exact MapIs.made w
theorem glen_any (gb mb : Nat) (M : GM) (w : World) (h : GridIs w gb mb M) : Calls Tryz.prog 15 #[.pointer (some ⟨gb, 0, none⟩)] w fun e w' => e = .returned (.int .i64 M.length) ∧ w = w' := by
  have hc := h.cell
  obtain ⟨E, hm, he⟩ := h.map
  have hl : ∀ ty, (Builtin.len_ #[66] ty #[.map (some mb)]).run Tryz.prog w = .ok (.int .i64 M.length) w := fun ty => by rw [← h.len hm he]; exact hm.len Tryz.underlying66
  clear hm he h
  go_enter Tryz.func15, Tryz.ntmps15
  go_wp2
  go_ret
  exact ⟨rfl, rfl⟩
set_option maxRecDepth 100000 in
set_option maxHeartbeats 4000000 in
theorem ggetO_any (gb mb : Nat) (M : GM) (a : Ad) (w : World) (h : GridIs w gb mb M) : Calls Tryz.prog 13 #[.pointer (some ⟨gb, 0, none⟩), .agg #[.int .i64 a.1, .int .i64 a.2]] w fun e w' =>
    ∃ n a', e = .returned (copyCV ((lkM a M).getD (zeroC, none)).1 a') ∧ OwnIn (fun b => w.heap.size ≤ b) w' n (.slice a' ((lkM a M).getD (zeroC, none)).1.t.args.length ((lkM a M).getD (zeroC, none)).1.t.args.length) (copyL ((lkM a M).getD (zeroC, none)).1.t.args) ∧ Xt w w' := by
  obtain ⟨w0, hw0, hb0, hs0, c0, c1⟩ := box1 w a.1 a.2 36
  have hx0 : Xt w w0 := by rw [← hw0]; exact (Xt.refl _).alloc _
  obtain ⟨hsm, n, hin⟩ := h.lookIn a
  obtain ⟨E, hm, he, hlk⟩ := h.look a
  generalize (lkM a M).getD (zeroC, none) = x at hsm hin hlk ⊢
  obtain ⟨x, xa⟩ := x
  obtain ⟨wS, hwS⟩ : ∃ wS, w0.alloc (.cells #[.int .i64 0, .int .i64 0, .float .f64 0, .string ⟨#[]⟩, .bool false, .int .i64 0, .int .i64 0, .int .i64 0, .float .f64 0, .string ⟨#[]⟩, .bool false, .int .i64 0, .int .i64 0, .int .i64 0, .bool false, .bool false, .int .i64 0, .int .i64 0, .bool false, .bool false, .slice none 0 0] 46) = wS := ⟨_, rfl⟩
  have hxS : Xt w wS := by rw [← hwS]; exact hx0.alloc _
  have hrS : wS.heap[w.heap.size + 1]? = some (.cells #[.int .i64 0, .int .i64 0, .float .f64 0, .string ⟨#[]⟩, .bool false, .int .i64 0, .int .i64 0, .int .i64 0, .float .f64 0, .string ⟨#[]⟩, .bool false, .int .i64 0, .int .i64 0, .int .i64 0, .bool false, .bool false, .int .i64 0, .int .i64 0, .bool false, .bool false, .slice none 0 0] 46 (0, 0)) := by rw [← hwS, ← hs0]; exact (MapKept.heap_alloc w0 _).1
  have hl : (Instr.lookup 66 (.map (some mb)) (.agg #[.int .i64 a.1, .int .i64 a.2]) false).run Tryz.prog wS.drew = .ok (contV x xa x.t.args.length x.t.args.length) wS.drew := by
    have := (hm.of_heap (hxS.block mb hm.lt) : MapIs wS mb E).lookup (w := wS.drew) (P := Tryz.prog) (t := 66) (k := 36) (e := 46) adrKey Tryz.underlying66 zeroCon a
    rw [hlk] at this; exact this
  have hc := h.cell
  have hcS := ((hxS.cells).1 gb 0 h.lt.1).trans hc
  have d0 : wS.cell? ⟨w.heap.size, 0, none⟩ = some (.int .i64 a.1) := by rw [← hwS]; exact (World.cell?_of_block (w := w0) (a := ⟨w.heap.size, 0, none⟩) (Below.heap_alloc w0 _ _ (by show w.heap.size < _; omega))).trans c0
  have d1 : wS.cell? ⟨w.heap.size, 1, none⟩ = some (.int .i64 a.2) := by rw [← hwS]; exact (World.cell?_of_block (w := w0) (a := ⟨w.heap.size, 1, none⟩) (Below.heap_alloc w0 _ _ (by show w.heap.size < _; omega))).trans c1
  have HXS := Lib.hid hxS
  have HRS := Lib.hid hrS
  have HGC := Lib.hid (gcopyO_any n x xa x.t.args.length wS.drew hsm (hin.xt hxS.drew))
  clear hm he hlk hb0 hx0 hxS hrS hsm hin h
  go_enter Tryz.func13, Tryz.ntmps13
  go_wp2_with fail
  refine wp_region_still_tail 6 (by kernel_rfl) (by kernel_rfl) ?_
  change wpStill _ _ (World.drew _) _ _ _
  simp only [List.take_succ_cons, List.take_zero, List.drop_succ_cons, List.drop_zero]
  still_step
  still_step
  still_step
  still_step
  still_step
  still_step
  refine wpStill_nil ?_
  change wpList _ _ _ _ _ (World.drew _)
  refine wpList_step (fun K hK => ?_)
  go_simp
  refine HGC.out.mono ?_
  rintro e w5 ⟨a', rfl, hA, hx5⟩
  refine hK _ _ ?_
  clear hK K
  have hr5 := (hx5.block (w.heap.size + 1) ((Array.getElem?_eq_some_iff.1 HRS.out).1)).trans HRS.out
  obtain ⟨w6, hw6⟩ : ∃ w6, w5.setRow (w.heap.size + 1) (copyCV x a').cells = w6 := ⟨_, rfl⟩
  have hg6 : w5.grownBy w6 (some (w.heap.size + 1)) := by rw [← hw6]; exact setRow_grown _ _ _
  have hr6 : w6.heap[w.heap.size + 1]? = some (.cells (copyCV x a').cells 46 (0, 0)) := by rw [← hw6]; exact setRow_heap w5 _ _ _ _ _ hr5
  refine wpList_store_row (P := Tryz.prog) rfl 46 _ _ rfl (w.heap.size + 1) (copyCV x a').cells rfl rfl 46 _ hr5 (by kernel_rfl) rfl (by rw [copyCV_eq]; simp [Value.cells, Value.oneCell']) ?_
  rw [hw6]
  have HR6 := Lib.hid hr6
  have HG6 := Lib.hid hg6
  have HX5 := Lib.hid hx5
  have HA := Lib.hid hA
  clear hr5 hw6 hg6 hr6 hx5 hA
  go_wp2_with fail
  (try simp only [Exit.inBlock, Exit.then])
  refine bodyPost_ret (results_cell_row rfl _ _ (w.heap.size + 1) _ _ _ _ rfl HR6.out Tryz.underlying46 rfl (by kernel_rfl)) rfl ?_
  have hsz : w.heap.size + 1 < wS.heap.size := (Array.getElem?_eq_some_iff.1 HRS.out).1
  have hdr : wS.drew.heap.size = wS.heap.size := rfl
  refine ⟨n, a', rfl, HA.out.keep (fun b hb hlt => ?_) (fun b hb hlt => ?_), ?_⟩
  · omega
  · exact HG6.out.block b hlt (fun e => by cases e; omega)
  · exact ((HXS.out.drew).trans HX5.out).grownB HG6.out (fun m hm => by cases hm; omega)
theorem gget_any (gb mb : Nat) (M : GM) (a : Ad) (w : World) (h : GridIs w gb mb M) : Calls Tryz.prog 13 #[.pointer (some ⟨gb, 0, none⟩), .agg #[.int .i64 a.1, .int .i64 a.2]] w fun e w' =>
    ∃ n a', e = .returned (copyCV ((lkM a M).getD (zeroC, none)).1 a') ∧ ArgsS (fun b => w.heap.size ≤ b) w' n (.slice a' ((lkM a M).getD (zeroC, none)).1.t.args.length ((lkM a M).getD (zeroC, none)).1.t.args.length) (copyL ((lkM a M).getD (zeroC, none)).1.t.args) ∧ Xt w w' :=
  (ggetO_any gb mb M a w h).mono fun _ _ ⟨n, a', e, hA, hx⟩ => ⟨n, a', e, hA.argsS, hx⟩

/-! ### Put (made by mkput.py) -/
def fullB (M : GM) (a : Ad) : Bool := !(lkM a M).isSome && decide (4096 ≤ M.length)
def putCode (M : GM) (a : Ad) (c : ContT) : Int := if gvalidB c = false then 1 else if validB a.1 a.2 = false then 20 else if (c.kind == 0) = true then 0 else if fullB M a = true then 41 else 0
def putTo (M : GM) (a : Ad) (c : ContT) (x : Option Addr) : GM := if gvalidB c = false then M else if validB a.1 a.2 = false then M else if (c.kind == 0) = true then delM a M else if fullB M a = true then M else setM a (copyC c, x) M
def PutR (w : World) (gb mb : Nat) (M : GM) (a : Ad) (c : ContT) (e : Ending) (w' : World) : Prop := ∃ x, e = .returned (.int .i64 (putCode M a c)) ∧ GridIs w' gb mb (putTo M a c x) ∧ w.grownBy w' (some mb)
mutual
theorem smallT_copy : ∀ t, smallT t → smallT (copyT t)
  | .mk k op x s b f r q args, h => by simp only [copyT, smallT] at h ⊢; exact ⟨by rw [copyL_map]; simpa using h.1, smallL_copy args h.2⟩
theorem smallL_copy : ∀ l, smallL l → smallL (copyL l)
  | [], h => h
  | t :: l, h => by simp only [copyL, smallL] at h ⊢; exact ⟨smallT_copy t h.1, smallL_copy l h.2⟩
end
/-- What holds in each world of a Put. -/
structure PutW (w w3 : World) (gb mb : Nat) (E : List (Ad × Value)) (a : Ad) (c : ContT) (ca : Option Addr) (cap : Nat) : Prop where
  xt : Xt w w3
  at_ : w3.heap[w.heap.size]? = some (.cells #[.int .i64 a.1, .int .i64 a.2] 36 (0, 0))
  con : w3.heap[w.heap.size + 1]? = some (.cells #[.int .i64 c.kind, .int .i64 c.v.kind, .float .f64 c.v.x, .string c.v.s, .bool c.v.b, .int .i64 c.v.f, .int .i64 c.t.kind, .int .i64 c.t.op, .float .f64 c.t.x, .string c.t.s, .bool c.t.b, .int .i64 c.t.f, .int .i64 c.t.ref.a.1, .int .i64 c.t.ref.a.2, .bool c.t.ref.cf, .bool c.t.ref.rf, .int .i64 c.t.to.a.1, .int .i64 c.t.to.a.2, .bool c.t.to.cf, .bool c.t.to.rf, .slice ca c.t.args.length cap] 46 (0, 0))
  cell : w3.cell? ⟨gb, 0, none⟩ = some (.map (some mb))
  map : MapIs w3 mb E
theorem PutW.step {w w3 w4 : World} {gb mb : Nat} {E : List (Ad × Value)} {a : Ad} {c : ContT} {ca : Option Addr} {cap : Nat} (h : PutW w w3 gb mb E a c ca cap) (hx : Xt w3 w4) : PutW w w4 gb mb E a c ca cap :=
  ⟨h.xt.trans hx, (hx.block _ (Array.getElem?_eq_some_iff.1 h.at_).1).trans h.at_, (hx.block _ (Array.getElem?_eq_some_iff.1 h.con).1).trans h.con, hx.cellsIn _ _ _ h.cell, h.map.of_heap (hx.block mb h.map.lt)⟩
theorem PutW.ad {w w3 : World} {gb mb : Nat} {E : List (Ad × Value)} {a : Ad} {c : ContT} {ca : Option Addr} {cap : Nat} (h : PutW w w3 gb mb E a c ca cap) : w3.cell? ⟨w.heap.size, 0, none⟩ = some (.int .i64 a.1) ∧ w3.cell? ⟨w.heap.size, 1, none⟩ = some (.int .i64 a.2) := by
  have := h.at_
  constructor <;> simp [World.cell?, this]
theorem PutW.kind {w w3 : World} {gb mb : Nat} {E : List (Ad × Value)} {a : Ad} {c : ContT} {ca : Option Addr} {cap : Nat} (h : PutW w w3 gb mb E a c ca cap) : w3.cell? ⟨w.heap.size + 1, 0, none⟩ = some (.int .i64 c.kind) := by
  have := h.con
  simp [World.cell?, this]
theorem put_start {w : World} {gb mb : Nat} {M : GM} (h : GridIs w gb mb M) (a : Ad) (c : ContT) (ca : Option Addr) (cap : Nat) : ∃ E, (∀ a, lk a E = (lkM a M).map ceV) ∧ ∃ w1, (w.alloc (.cells #[.int .i64 a.1, .int .i64 a.2] 36)).alloc (.cells #[.int .i64 c.kind, .int .i64 c.v.kind, .float .f64 c.v.x, .string c.v.s, .bool c.v.b, .int .i64 c.v.f, .int .i64 c.t.kind, .int .i64 c.t.op, .float .f64 c.t.x, .string c.t.s, .bool c.t.b, .int .i64 c.t.f, .int .i64 c.t.ref.a.1, .int .i64 c.t.ref.a.2, .bool c.t.ref.cf, .bool c.t.ref.rf, .int .i64 c.t.to.a.1, .int .i64 c.t.to.a.2, .bool c.t.to.cf, .bool c.t.to.rf, .slice ca c.t.args.length cap] 46) = w1 ∧ PutW w w1 gb mb E a c ca cap := by
  obtain ⟨E, hm, he⟩ := h.map
  refine ⟨E, he, _, rfl, ?_⟩
  have hx : Xt w ((w.alloc (.cells #[.int .i64 a.1, .int .i64 a.2] 36)).alloc (.cells #[.int .i64 c.kind, .int .i64 c.v.kind, .float .f64 c.v.x, .string c.v.s, .bool c.v.b, .int .i64 c.v.f, .int .i64 c.t.kind, .int .i64 c.t.op, .float .f64 c.t.x, .string c.t.s, .bool c.t.b, .int .i64 c.t.f, .int .i64 c.t.ref.a.1, .int .i64 c.t.ref.a.2, .bool c.t.ref.cf, .bool c.t.ref.rf, .int .i64 c.t.to.a.1, .int .i64 c.t.to.a.2, .bool c.t.to.cf, .bool c.t.to.rf, .slice ca c.t.args.length cap] 46)) := ((Xt.refl w).alloc _).alloc _
  refine ⟨hx, ?_, ?_, hx.cellsIn _ _ _ h.cell, hm.of_heap (hx.block mb hm.lt)⟩
  · exact (Below.heap_alloc _ _ _ (by simp)).trans (MapKept.heap_alloc w _).1
  · have := (MapKept.heap_alloc (w.alloc (.cells #[.int .i64 a.1, .int .i64 a.2] 36)) (.cells #[.int .i64 c.kind, .int .i64 c.v.kind, .float .f64 c.v.x, .string c.v.s, .bool c.v.b, .int .i64 c.v.f, .int .i64 c.t.kind, .int .i64 c.t.op, .float .f64 c.t.x, .string c.t.s, .bool c.t.b, .int .i64 c.t.f, .int .i64 c.t.ref.a.1, .int .i64 c.t.ref.a.2, .bool c.t.ref.cf, .bool c.t.ref.rf, .int .i64 c.t.to.a.1, .int .i64 c.t.to.a.2, .bool c.t.to.cf, .bool c.t.to.rf, .slice ca c.t.args.length cap] 46)).1
    simpa using this
set_option maxRecDepth 100000 in
set_option maxHeartbeats 4000000 in
theorem gput_inv (n : Nat) (gb mb : Nat) (M : GM) (a : Ad) (c : ContT) (ca : Option Addr) (cap : Nat) (w : World) (h : GridIs w gb mb M) (hok : c.ok) (hT : Tabs w) (hsm : smallT c.t) (hin : ArgsIn w n (.slice ca c.t.args.length cap) c.t.args) (hb : gvalidB c = false) : Calls Tryz.prog 10 #[.pointer (some ⟨gb, 0, none⟩), .agg #[.int .i64 a.1, .int .i64 a.2], contV c ca c.t.args.length cap] w fun e w' => e = .returned (.int .i64 1) ∧ Xt w w' := by
  have H := Lib.hid h
  obtain ⟨E, he, w1, hw1, hP1⟩ := put_start h a c ca cap
  have HE := Lib.hid he
  have HP1 := Lib.hid hP1
  have HLM : Hid (E.length = M.length) := Lib.hid ((H.out.xt hP1.xt).len hP1.map he)
  have HIN := Lib.hid hin
  have HSM := Lib.hid hsm
  have HV := Lib.hid (gvalid_any n c ca cap w1 hok (hT.xt hP1.xt) (hin.xt hP1.xt))
  clear h he hP1 hin hsm hok hT
  have HB := Lib.hid hb
  clear hb
  go_enter Tryz.func10, Tryz.ntmps10
  go_wp2_with (first
    | (refine HV.out.mono ?_; rintro e w2 ⟨rfl, hx2⟩; rw [HB.out]; have HP2 := Lib.hid (HP1.out.step hx2); have hc2 := HP2.out.cell; obtain ⟨d0, d1⟩ := HP2.out.ad;  clear hx2)
    | (refine BigFrame.wpList_want (by rfl) (fun K hK => wp_load_row 46 _ rfl (w.heap.size + 1) rfl 46 _ (0, 0) _ HP1.out.con Tryz.underlying46 rfl (by kernel_rfl) (hK _ _ ?_)); clear hK K))
  go_ret
  exact ⟨rfl, HP2.out.xt⟩
set_option maxRecDepth 100000 in
set_option maxHeartbeats 4000000 in
theorem gput_ad (n : Nat) (gb mb : Nat) (M : GM) (a : Ad) (c : ContT) (ca : Option Addr) (cap : Nat) (w : World) (h : GridIs w gb mb M) (hok : c.ok) (hT : Tabs w) (hsm : smallT c.t) (hin : ArgsIn w n (.slice ca c.t.args.length cap) c.t.args) (hb : gvalidB c = true) (hb2 : validB a.1 a.2 = false) : Calls Tryz.prog 10 #[.pointer (some ⟨gb, 0, none⟩), .agg #[.int .i64 a.1, .int .i64 a.2], contV c ca c.t.args.length cap] w fun e w' => e = .returned (.int .i64 20) ∧ Xt w w' := by
  have H := Lib.hid h
  obtain ⟨E, he, w1, hw1, hP1⟩ := put_start h a c ca cap
  have HE := Lib.hid he
  have HP1 := Lib.hid hP1
  have HLM : Hid (E.length = M.length) := Lib.hid ((H.out.xt hP1.xt).len hP1.map he)
  have HIN := Lib.hid hin
  have HSM := Lib.hid hsm
  have HV := Lib.hid (gvalid_any n c ca cap w1 hok (hT.xt hP1.xt) (hin.xt hP1.xt))
  clear h he hP1 hin hsm hok hT
  have HB := Lib.hid hb
  have HB2 := Lib.hid hb2
  clear hb hb2
  go_enter Tryz.func10, Tryz.ntmps10
  go_wp2_with (first
    | (refine HV.out.mono ?_; rintro e w2 ⟨rfl, hx2⟩; rw [HB.out]; have HP2 := Lib.hid (HP1.out.step hx2); have hc2 := HP2.out.cell; obtain ⟨d0, d1⟩ := HP2.out.ad;  clear hx2)
    | (refine (valid_gr a.1 a.2 w2).mono ?_; rintro e w3 ⟨rfl, hg3⟩; rw [HB2.out]; have HP3 := Lib.hid (HP2.out.step hg3.xt); have hc3 := HP3.out.cell; obtain ⟨p0, p1⟩ := HP3.out.ad; have k3 := HP3.out.kind; clear hg3)
    | (refine BigFrame.wpList_want (by rfl) (fun K hK => wp_load_row 46 _ rfl (w.heap.size + 1) rfl 46 _ (0, 0) _ HP1.out.con Tryz.underlying46 rfl (by kernel_rfl) (hK _ _ ?_)); clear hK K))
  go_ret
  exact ⟨rfl, HP3.out.xt⟩
set_option maxRecDepth 100000 in
set_option maxHeartbeats 4000000 in
theorem gput_del (n : Nat) (gb mb : Nat) (M : GM) (a : Ad) (c : ContT) (ca : Option Addr) (cap : Nat) (w : World) (h : GridIs w gb mb M) (hok : c.ok) (hT : Tabs w) (hsm : smallT c.t) (hin : ArgsIn w n (.slice ca c.t.args.length cap) c.t.args) (hb : gvalidB c = true) (hb2 : validB a.1 a.2 = true) (hk : (c.kind == 0) = true) : Calls Tryz.prog 10 #[.pointer (some ⟨gb, 0, none⟩), .agg #[.int .i64 a.1, .int .i64 a.2], contV c ca c.t.args.length cap] w fun e w' => e = .returned (.int .i64 0) ∧ GridIs w' gb mb (delM a M) ∧ w.grownBy w' (some mb) := by
  have H := Lib.hid h
  obtain ⟨E, he, w1, hw1, hP1⟩ := put_start h a c ca cap
  have HE := Lib.hid he
  have HP1 := Lib.hid hP1
  have HLM : Hid (E.length = M.length) := Lib.hid ((H.out.xt hP1.xt).len hP1.map he)
  have HIN := Lib.hid hin
  have HSM := Lib.hid hsm
  have HV := Lib.hid (gvalid_any n c ca cap w1 hok (hT.xt hP1.xt) (hin.xt hP1.xt))
  clear h he hP1 hin hsm hok hT
  have HB := Lib.hid hb
  have HB2 := Lib.hid hb2
  clear hb hb2
  go_enter Tryz.func10, Tryz.ntmps10
  go_wp2_with (first
    | (refine HV.out.mono ?_; rintro e w2 ⟨rfl, hx2⟩; rw [HB.out]; have HP2 := Lib.hid (HP1.out.step hx2); have hc2 := HP2.out.cell; obtain ⟨d0, d1⟩ := HP2.out.ad;  clear hx2)
    | (refine (valid_gr a.1 a.2 w2).mono ?_; rintro e w3 ⟨rfl, hg3⟩; rw [HB2.out]; have HP3 := Lib.hid (HP2.out.step hg3.xt); have hc3 := HP3.out.cell; obtain ⟨p0, p1⟩ := HP3.out.ad; have k3 := HP3.out.kind; clear hg3)
    | (refine BigFrame.wpList_want (by rfl) (fun K hK => wp_load_row 46 _ rfl (w.heap.size + 1) rfl 46 _ (0, 0) _ HP1.out.con Tryz.underlying46 rfl (by kernel_rfl) (hK _ _ ?_)); clear hK K))
  refine wp_region_still_tail 5 (by kernel_rfl) (by kernel_rfl) ?_
  change wpStill _ _ (World.drew _) _ _ _
  simp only [List.take_succ_cons, List.take_zero, List.drop_succ_cons, List.drop_zero]
  still_step
  still_step
  still_step
  still_step
  still_step
  refine wpStill_nil ?_
  change wpList _ _ _ _ _ (World.drew _)
  refine wpList_delete_it _ rfl _ _ 66 36 36 46 rfl adrKey Tryz.underlying66 mb E rfl a.1 a.2 rfl (by exact HP3.out.map) ?_
  intro w4 hm4 hg4 hs4
  have HM4 := Lib.hid hm4
  have HG4 := Lib.hid hg4
  clear hm4 hg4
  go_wp2_with fail
  go_ret
  have hg4' : w3.grownBy w4 (some mb) := ⟨HG4.out.os, HG4.out.tape, HG4.out.output, HG4.out.size, HG4.out.block⟩
  refine ⟨rfl, H.out.del (HP3.out.xt.cellsIn.trans (CellsIn.of_grown HP3.out.map hg4')) HE.out rfl HM4.out, ?_⟩
  have hx := HP3.out.xt
  exact ⟨hg4'.os.trans hx.os, hg4'.tape.trans hx.tape, hg4'.output.trans hx.output, Nat.le_trans hx.size hg4'.size, fun k hk hne => (hg4'.block k (Nat.lt_of_lt_of_le hk hx.size) hne).trans (hx.block k hk)⟩

/-! ### a copy's answers -/
theorem nan_nan : (FloatKind.format .f64).order 9221120237041090560 9221120237041090560 != some .eq := by decide +kernel
theorem one_cases (x : Nat) : oneX x = x ∨ (oneX x = 9221120237041090560 ∧ ((FloatKind.format .f64).order x x != some .eq) = true) := by
  unfold oneX
  cases h : ((FloatKind.format .f64).order x x != some .eq)
  · exact Or.inl rfl
  · exact Or.inr ⟨rfl, rfl⟩
theorem oneX_idem (x : Nat) : oneX (oneX x) = oneX x := by
  rcases one_cases x with h | ⟨h, _⟩
  · rw [h, h]
  · rw [h]; unfold oneX; rw [if_pos nan_nan]
theorem classX_one (x : Nat) : classX (oneX x) = classX x := by
  rcases one_cases x with h | ⟨h, h2⟩
  · rw [h]
  · rw [h]
    have e1 : classX 9221120237041090560 = 1 := by unfold classX ordX; rw [if_pos nan_nan]
    have e2 : classX x = 1 := by unfold classX ordX; rw [if_pos h2]
    rw [e1, e2]
theorem beq_of_bne {a : Option Ordering} (h : (a != some .eq) = true) : (a == some .eq) = false := by
  cases a with
  | none => rfl
  | some o => cases o <;> first | rfl | (exact absurd h (by decide))
theorem negX_one (x : Nat) : negX (oneX x) = negX x := by
  rcases one_cases x with h | ⟨h, h2⟩
  · rw [h]
  · rw [h]; unfold negX; rw [beq_of_bne h2, beq_of_bne nan_nan, Bool.false_and, Bool.false_and]
theorem zero_zero : ((FloatKind.format .f64).order 0 0 != some .eq) = false := by decide +kernel
theorem oneX_zero (x : Nat) : oneX x = 0 ↔ x = 0 := by
  rcases one_cases x with h | ⟨h, h2⟩
  · rw [h]
  · rw [h]
    constructor
    · intro e; exact absurd e (by decide)
    · rintro rfl; rw [zero_zero] at h2; cases h2
mutual
theorem copyT_idem : ∀ t : NodeT, copyT (copyT t) = copyT t
  | .mk k op x s b f r q args => by simp only [copyT, oneX_idem, copyL_idem args]
theorem copyL_idem : ∀ l : List NodeT, copyL (copyL l) = copyL l
  | [] => rfl
  | t :: r => by simp only [copyL, copyT_idem t, copyL_idem r]
end
theorem copyL_len (l : List NodeT) : (copyL l).length = l.length := by rw [copyL_map]; simp
mutual
theorem measT_copy : ∀ t : NodeT, measT (copyT t) = measT t
  | .mk k op x s b f r q args => by simp only [copyT, measT, measL_copy args]
theorem measL_copy : ∀ (l : List NodeT) (n d : Int), measL (copyL l) n d = measL l n d
  | [], n, d => rfl
  | t :: r, n, d => by simp only [copyL, measL, measT_copy t, measL_copy r]
end
theorem alike_iff (t u : NodeT) : alikeB t u = true ↔ t.kind = u.kind ∧ t.op = u.op ∧ ((oneX t.x : Nat) : Int) = ((oneX u.x : Nat) : Int) ∧ t.s.toList = u.s.toList ∧ t.b = u.b ∧ t.f = u.f ∧ refB t.ref u.ref = true ∧ refB t.to u.to = true := by
  unfold alikeB
  simp only [Bool.and_eq_true, decide_eq_true_eq, and_assoc]
theorem alikeB_x (k op : Int) (x y : Nat) (s : ByteArray) (b : Bool) (f : Int) (r q : RefT) (args : List NodeT) (t : NodeT) (h : oneX x = oneX y) : alikeB t (.mk k op x s b f r q args) = alikeB t (.mk k op y s b f r q args) := by
  rw [Bool.eq_iff_iff, alike_iff, alike_iff]
  show (_ ∧ _ ∧ _ = ((oneX x : Nat) : Int) ∧ _) ↔ (_ ∧ _ ∧ _ = ((oneX y : Nat) : Int) ∧ _)
  rw [h]; exact Iff.rfl
theorem alikeB_l (k op : Int) (x y : Nat) (s : ByteArray) (b : Bool) (f : Int) (r q : RefT) (a1 a2 : List NodeT) (t : NodeT) (h : oneX x = oneX y) : alikeB (.mk k op x s b f r q a1) t = alikeB (.mk k op y s b f r q a2) t := by
  rw [Bool.eq_iff_iff, alike_iff, alike_iff]
  show (_ ∧ _ ∧ ((oneX x : Nat) : Int) = _ ∧ _) ↔ (_ ∧ _ ∧ ((oneX y : Nat) : Int) = _ ∧ _)
  rw [h]; exact Iff.rfl
theorem madeB_copy (t : NodeT) : madeB (copyT t) = madeB t := by
  obtain ⟨k, op, x, s, b, f, r, q, args⟩ := t
  have hl := fun u => alikeB_l k op (oneX x) x s b f r q (copyL args) args u (oneX_idem x)
  simp only [copyT, madeB, classX_one, negX_one, copyL_len, hl]
  rw [alikeB_x 1 0 (oneX x) x ⟨#[]⟩ false 0 zR zR [] _ (oneX_idem x)]
mutual
theorem faultT_copy : ∀ (t : NodeT) (i : Bool), faultT (copyT t) i = faultT t i
  | .mk k op x s b f r q args, i => by
    have hm := madeB_copy (.mk k op x s b f r q args)
    simp only [copyT] at hm ⊢
    rw [faultT, faultT, hm, faultL_copy args, copyL_len]
theorem faultL_copy : ∀ (l : List NodeT) (c : Bool), faultL (copyL l) c = faultL l c
  | [], c => rfl
  | t :: r, c => by rw [copyL, faultL, faultL, faultT_copy t, faultL_copy r]
end
theorem checkT_copy (t : NodeT) : checkT (copyT t) = checkT t := by unfold checkT; rw [measT_copy, faultT_copy]
theorem dec_one (x : Nat) : decide (((oneX x : Nat) : Int) = 0) = decide ((x : Int) = 0) := by
  have h := oneX_zero x
  rw [decide_eq_decide]; omega
theorem noNodeB_copy (t : NodeT) : noNodeB (copyT t) = noNodeB t := by
  unfold noNodeB
  rw [copyT_kind, copyT_op, copyT_x, copyT_s, copyT_b, copyT_f, copyT_ref, copyT_to, copyT_len, dec_one]
theorem noValB_copy (v : ValT) : noValB { v with x := oneX v.x } = noValB v := by unfold noValB; simp only [dec_one]
theorem vvalidB_copy (v : ValT) : vvalidB { v with x := oneX v.x } = vvalidB v := by unfold vvalidB restB; simp only [dec_one]
theorem gvalidB_copy (c : ContT) : gvalidB (copyC c) = gvalidB c := by
  unfold gvalidB copyC
  simp only [noValB_copy, noNodeB_copy, vvalidB_copy, checkT_copy]
theorem copyC_idem (c : ContT) : copyC (copyC c) = copyC c := by unfold copyC; simp only [oneX_idem, copyT_idem]
theorem zeroC_copy : copyC zeroC = zeroC := by
  have : oneX 0 = 0 := (oneX_zero 0).2 rfl
  simp only [copyC, zeroC, copyT, copyL, this]
theorem oneX_lt {x : Nat} (h : x < 18446744073709551616) : oneX x < 18446744073709551616 := by unfold oneX; split <;> omega
mutual
theorem okT_copy : ∀ t : NodeT, t.ok → (copyT t).ok
  | .mk k op x s b f r q args, h => by simp only [copyT, NodeT.ok] at h ⊢; exact ⟨h.1, oneX_lt h.2.1, okL_copy args h.2.2⟩
theorem okL_copy : ∀ l : List NodeT, okL l → okL (copyL l)
  | [], h => h
  | t :: r, h => by simp only [copyL, okL] at h ⊢; exact ⟨okT_copy t h.1, okL_copy r h.2⟩
end
theorem okC_copy {c : ContT} (h : c.ok) : (copyC c).ok := ⟨h.1, okT_copy _ h.2.1, oneX_lt h.2.2⟩

/-! ### Put, the last cases (made by mkput.py) -/
set_option maxRecDepth 100000 in
set_option maxHeartbeats 4000000 in
theorem gput_full (n : Nat) (gb mb : Nat) (M : GM) (a : Ad) (c : ContT) (ca : Option Addr) (cap : Nat) (w : World) (h : GridIs w gb mb M) (hok : c.ok) (hT : Tabs w) (hsm : smallT c.t) (hin : ArgsIn w n (.slice ca c.t.args.length cap) c.t.args) (hb : gvalidB c = true) (hb2 : validB a.1 a.2 = true) (hk : (c.kind == 0) = false) (his : (lkM a M).isSome = false) (hfu : fullB M a = true) : Calls Tryz.prog 10 #[.pointer (some ⟨gb, 0, none⟩), .agg #[.int .i64 a.1, .int .i64 a.2], contV c ca c.t.args.length cap] w fun e w' => e = .returned (.int .i64 41) ∧ Xt w w' := by
  have H := Lib.hid h
  obtain ⟨E, he, w1, hw1, hP1⟩ := put_start h a c ca cap
  have HE := Lib.hid he
  have HP1 := Lib.hid hP1
  have HLM : Hid (E.length = M.length) := Lib.hid ((H.out.xt hP1.xt).len hP1.map he)
  have HIN := Lib.hid hin
  have HSM := Lib.hid hsm
  have HV := Lib.hid (gvalid_any n c ca cap w1 hok (hT.xt hP1.xt) (hin.xt hP1.xt))
  clear h he hP1 hin hsm hok hT
  have HIS : Hid ((lk a E).isSome = false) := by have h0 := HE.out a; rw [h0, Option.isSome_map]; exact his
  obtain ⟨⟨X, xa⟩, hX⟩ : ∃ x, (lkM a M).getD (zeroC, none) = x := ⟨_, rfl⟩
  have HX : Hid ((lk a E).getD (contV zeroC none 0 0) = contV X xa X.t.args.length X.t.args.length) := by rw [HE.out]; revert hX; cases lkM a M <;> (intro hX; cases hX; rfl)
  have HLE : Hid (4096 ≤ M.length) := Lib.hid (by unfold fullB at hfu; rw [his] at hfu; simpa using hfu)
  clear hfu his hX
  have HB := Lib.hid hb
  have HB2 := Lib.hid hb2
  clear hb hb2
  go_enter Tryz.func10, Tryz.ntmps10
  go_wp2_with (first
    | (refine HV.out.mono ?_; rintro e w2 ⟨rfl, hx2⟩; rw [HB.out]; have HP2 := Lib.hid (HP1.out.step hx2); have hc2 := HP2.out.cell; obtain ⟨d0, d1⟩ := HP2.out.ad;  clear hx2)
    | (refine (valid_gr a.1 a.2 w2).mono ?_; rintro e w3 ⟨rfl, hg3⟩; rw [HB2.out]; have HP3 := Lib.hid (HP2.out.step hg3.xt); have hc3 := HP3.out.cell; obtain ⟨p0, p1⟩ := HP3.out.ad; have k3 := HP3.out.kind; clear hg3)
    | (refine BigFrame.wpList_want (by rfl) (fun K hK => wp_load_row 46 _ rfl (w.heap.size + 1) rfl 46 _ (0, 0) _ HP1.out.con Tryz.underlying46 rfl (by kernel_rfl) (hK _ _ ?_)); clear hK K))
  have HL : Hid (∀ w', MapIs w' mb E → (Instr.lookup 66 (.map (some mb)) (.agg #[.int .i64 a.1, .int .i64 a.2]) true).run Tryz.prog w' = .ok (.tuple #[contV X xa X.t.args.length X.t.args.length, .bool false]) w') := fun w' hm => by
    have := hm.lookup_ok (P := Tryz.prog) (t := 66) (k := 36) (e := 46) adrKey Tryz.underlying66 zeroCon a
    rw [HX.out, HIS.out] at this
    exact this
  have hS3 : w3.drew.cell? ⟨gb, 0, none⟩ = some (.map (some mb)) ∧ w3.drew.cell? ⟨w.heap.size, 0, none⟩ = some (.int .i64 a.1) ∧ w3.drew.cell? ⟨w.heap.size, 1, none⟩ = some (.int .i64 a.2) ∧ MapIs w3.drew mb E := ⟨hc3, p0, p1, HP3.out.map⟩
  refine wp_region_held_drew (S := fun w' => w'.cell? ⟨gb, 0, none⟩ = some (.map (some mb)) ∧ w'.cell? ⟨w.heap.size, 0, none⟩ = some (.int .i64 a.1) ∧ w'.cell? ⟨w.heap.size, 1, none⟩ = some (.int .i64 a.2) ∧ MapIs w' mb E) (by kernel_rfl) hS3 (fun hHeld => ?_)
  refine wpAnyH_take (i := 0) (oi := _) (v := ?_) rfl (by kernel_rfl) (by kernel_rfl) (by kernel_rfl) (fun _ _ _ h => h) (Or.inl ⟨by rfl, ?_⟩) (by assumption) ?_
  rotate_left
  · intro w hSw; (try dsimp only at hSw); obtain ⟨s0, s1, s2, s3⟩ := hSw; go_simp; first | done | with_reducible rfl
  try simp only [Act.put, List.getElem_toArray, List.getElem_cons_zero, List.setIfInBounds_toArray, List.set_cons_zero, List.set_cons_succ]
  refine wpAnyH_take (i := 1) (oi := _) (v := ?_) rfl (by kernel_rfl) (by kernel_rfl) (by kernel_rfl) (fun _ _ _ h => h) (Or.inl ⟨by rfl, ?_⟩) (by assumption) ?_
  rotate_left
  · intro w hSw; (try dsimp only at hSw); obtain ⟨s0, s1, s2, s3⟩ := hSw; go_simp; first | done | with_reducible rfl
  try simp only [Act.put, List.getElem_toArray, List.getElem_cons_zero, List.getElem_cons_succ, List.setIfInBounds_toArray, List.set_cons_zero, List.set_cons_succ]
  refine wpAnyH_take (i := 2) (oi := _) (v := ?_) rfl (by kernel_rfl) (by kernel_rfl) (by kernel_rfl) (fun _ _ _ h => h) (Or.inl ⟨by rfl, ?_⟩) (by assumption) ?_
  rotate_left
  · intro w hSw; (try dsimp only at hSw); obtain ⟨s0, s1, s2, s3⟩ := hSw; go_simp; first | done | with_reducible rfl
  try simp only [Act.put, List.getElem_toArray, List.getElem_cons_zero, List.getElem_cons_succ, List.setIfInBounds_toArray, List.set_cons_zero, List.set_cons_succ]
  refine wpAnyH_take (i := 3) (oi := _) (v := ?_) rfl (by kernel_rfl) (by kernel_rfl) (by kernel_rfl) (fun _ _ _ h => h) (Or.inl ⟨by rfl, ?_⟩) (by assumption) ?_
  rotate_left
  · intro w hSw; (try dsimp only at hSw); obtain ⟨s0, s1, s2, s3⟩ := hSw; go_simp; first | done | with_reducible rfl
  try simp only [Act.put, List.getElem_toArray, List.getElem_cons_zero, List.getElem_cons_succ, List.setIfInBounds_toArray, List.set_cons_zero, List.set_cons_succ]
  refine wpAnyH_take (i := 4) (oi := _) (v := ?_) rfl (by kernel_rfl) (by kernel_rfl) (by kernel_rfl) (fun _ _ _ h => h) (Or.inl ⟨by rfl, ?_⟩) (by assumption) ?_
  rotate_left
  · intro w hSw; (try dsimp only at hSw); obtain ⟨s0, s1, s2, s3⟩ := hSw; go_simp; first | done | with_reducible rfl
  try simp only [Act.put, List.getElem_toArray, List.getElem_cons_zero, List.getElem_cons_succ, List.setIfInBounds_toArray, List.set_cons_zero, List.set_cons_succ]
  refine wpAnyH_take (i := 5) (oi := _) (v := ?_) rfl (by kernel_rfl) (by kernel_rfl) (by kernel_rfl) (fun _ _ _ h => h) (Or.inl ⟨by rfl, ?_⟩) (by assumption) ?_
  rotate_left
  · intro w hSw; (try dsimp only at hSw); obtain ⟨s0, s1, s2, s3⟩ := hSw; have hl := HL.out _ s3; go_simp; first | done | with_reducible rfl
  try simp only [Act.put, List.getElem_toArray, List.getElem_cons_zero, List.getElem_cons_succ, List.setIfInBounds_toArray, List.set_cons_zero, List.set_cons_succ]
  refine wpAnyH_take (i := 6) (oi := _) (v := ?_) rfl (by kernel_rfl) (by kernel_rfl) (by kernel_rfl) (fun _ _ _ h => h) (Or.inl ⟨by rfl, ?_⟩) (by assumption) ?_
  rotate_left
  · intro w hSw; (try dsimp only at hSw); go_simp; first | done | with_reducible rfl
  try simp only [Act.put, List.getElem_toArray, List.getElem_cons_zero, List.getElem_cons_succ, List.setIfInBounds_toArray, List.set_cons_zero, List.set_cons_succ]
  refine wpAnyH_take (i := 7) (oi := _) (v := ?_) rfl (by kernel_rfl) (by kernel_rfl) (by kernel_rfl) (fun _ _ _ h => h) (Or.inl ⟨by rfl, ?_⟩) (by assumption) ?_
  rotate_left
  · intro w hSw; (try dsimp only at hSw); go_simp; first | done | with_reducible rfl
  try simp only [Act.put, List.getElem_toArray, List.getElem_cons_zero, List.getElem_cons_succ, List.setIfInBounds_toArray, List.set_cons_zero, List.set_cons_succ]
  refine wpAnyH_take (i := 8) (oi := _) (v := ?_) rfl (by kernel_rfl) (by kernel_rfl) (by kernel_rfl) (fun _ _ _ h => h) (Or.inl ⟨by rfl, ?_⟩) (by assumption) ?_
  rotate_left
  · intro w hSw; (try dsimp only at hSw); go_simp; first | done | with_reducible rfl
  try simp only [Act.put, List.getElem_toArray, List.getElem_cons_zero, List.getElem_cons_succ, List.setIfInBounds_toArray, List.set_cons_zero, List.set_cons_succ]
  refine wpAnyH_ready (rs := [9]) (by kernel_rfl) (by simp) ?_
  refine AllReadyH.cons (o := _) rfl (fun K hK => ?_) AllReadyH.nil
  go_simp
  obtain ⟨wD, hwD⟩ : ∃ wD, (w3.alloc (.cells #[.int .i64 0, .int .i64 0, .float .f64 0, .string ⟨#[]⟩, .bool false, .int .i64 0, .int .i64 0, .int .i64 0, .float .f64 0, .string ⟨#[]⟩, .bool false, .int .i64 0, .int .i64 0, .int .i64 0, .bool false, .bool false, .int .i64 0, .int .i64 0, .bool false, .bool false, .slice none 0 0] 46)).drew = wD := ⟨_, rfl⟩
  have hxD : Xt w3 wD := by rw [← hwD]; exact ((Xt.refl w3).alloc _).drew
  have hrD : wD.heap[w3.heap.size]? = some (.cells #[.int .i64 0, .int .i64 0, .float .f64 0, .string ⟨#[]⟩, .bool false, .int .i64 0, .int .i64 0, .int .i64 0, .float .f64 0, .string ⟨#[]⟩, .bool false, .int .i64 0, .int .i64 0, .int .i64 0, .bool false, .bool false, .int .i64 0, .int .i64 0, .bool false, .bool false, .slice none 0 0] 46 (0, 0)) := by rw [← hwD]; exact (MapKept.heap_alloc w3 _).1
  have HPD := Lib.hid (HP3.out.step hxD)
  rw [hwD]
  refine hK.out _ _ ⟨HPD.out.cell, HPD.out.ad.1, HPD.out.ad.2, HPD.out.map⟩ (fun hHeld2 => ?_)
  clear hK K
  try simp only [Act.put, List.getElem_toArray, List.getElem_cons_zero, List.getElem_cons_succ, List.setIfInBounds_toArray, List.set_cons_zero, List.set_cons_succ]
  refine wpAnyH_ready (rs := [10]) (by kernel_rfl) (by simp) ?_
  refine AllReadyH.cons (o := _) rfl (fun K hK => ?_) AllReadyH.nil
  rw [if_pos (by rfl)]
  obtain ⟨w4, hw4⟩ : ∃ w4, wD.setRow w3.heap.size (contV X xa X.t.args.length X.t.args.length).cells = w4 := ⟨_, rfl⟩
  have hx4 : Xt w3 w4 := by rw [← hw4]; exact hxD.grownB (setRow_grown _ _ _) (fun m hm => by cases hm; exact Nat.le_refl _)
  refine wp_store_row 46 _ _ rfl w3.heap.size (contV X xa X.t.args.length X.t.args.length).cells rfl rfl 46 _ hrD (by kernel_rfl) rfl (by simp [Value.oneCell', Value.cells]) ?_
  rw [hw4]
  have HP4 := Lib.hid (HP3.out.step hx4)
  refine hK.out _ _ ⟨HP4.out.cell, HP4.out.ad.1, HP4.out.ad.2, HP4.out.map⟩ (fun hHeld3 => ?_)
  clear hK K
  try simp only [Act.put, List.getElem_toArray, List.getElem_cons_zero, List.getElem_cons_succ]
  refine wpAnyH_take (i := 11) (oi := _) (v := ?_) rfl (by kernel_rfl) (by kernel_rfl) (by kernel_rfl) (fun _ _ _ h => h) (Or.inl ⟨by rfl, ?_⟩) (by assumption) ?_
  rotate_left
  · intro w hSw; (try dsimp only at hSw); go_simp; first | done | with_reducible rfl
  try simp only [Act.put, List.getElem_toArray, List.getElem_cons_zero, List.getElem_cons_succ, List.setIfInBounds_toArray, List.set_cons_zero, List.set_cons_succ]
  refine wpAnyH_done (by kernel_rfl) ?_ _
  have hc4 := HP4.out.cell
  have hlen : ∀ ty, (Builtin.len_ #[66] ty #[.map (some mb)]).run Tryz.prog w4 = .ok (.int .i64 M.length) w4 := fun ty => by rw [← HLM.out]; exact HP4.out.map.len Tryz.underlying66
  have hge : (4096 : Int) ≤ (M.length : Int) := by have := HLE.out; omega
  go_wp2_with fail
  go_ret
  exact ⟨rfl, HP4.out.xt⟩

set_option maxRecDepth 100000 in
set_option maxHeartbeats 4000000 in
theorem made12_1 (t : NodeT) (a : Option Addr) (cap : Nat) (w : World) (hk : t.kind = 1) :
    Calls Tryz.prog 129 #[nodeV t a t.args.length cap] w fun e w' => e = .returned (.bool (bareB false true false false false false false false t && decide (t.x % 9223372036854775808 < 9218868437227405312) && ((t.x : Int) / 9223372036854775808 == 0))) ∧ Gr w w' := by
  obtain ⟨w0, hw0, hg0, hs0, hN⟩ := boxN w t a t.args.length cap 44
  have HN := Lib.hid hN
  obtain ⟨c0, c1, c2, c3, c4, c5, c6, c7, c8, c9, c10, c11, c12, c13, c14⟩ := hN
  simp only [Nat.zero_add] at c0 c1 c2 c3 c4 c5 c6 c7 c8 c9 c10 c11 c12 c13 c14
  have HG0 := Lib.hid hg0
  have HB := Lib.hid (bare_2 t a cap)
  generalize bareB false true false false false false false false t = bb at HB ⊢
  have H1 := Lib.hid (finite01_any t.x)
  generalize decide (t.x % 9223372036854775808 < 9218868437227405312) = ff at H1 ⊢
  have e1 : (t.kind == 1) = true := by rw [hk]; rfl
  clear hg0 hk
  go_enter Tryz.func129, Tryz.ntmps129
  go_wp2_with (first | (go_at_call 142; refine (HB.out _).mono ?_; rintro e w2 ⟨rfl, hg2⟩; have HG2 := Lib.hid hg2; have hN2 := HN.out.xt hg2.xt; clear hg2 c0 c1 c2 c3 c4 c5 c6 c7 c8 c9 c10 c11 c12 c13 c14; obtain ⟨c0, c1, c2, c3, c4, c5, c6, c7, c8, c9, c10, c11, c12, c13, c14⟩ := hN2; simp only [Nat.zero_add] at c0 c1 c2 c3 c4 c5 c6 c7 c8 c9 c10 c11 c12 c13 c14) | (go_at_call 141; refine (H1.out _).mono ?_; rintro e w' ⟨rfl, rfl⟩))
  all_goals (go_ret; refine ⟨?_, HG0.out.trans HG2.out⟩; first | (simp [*]; done) | (simp [*]; omega) | (simp [*]; intros; exfalso; omega) | trace_state)
set_option maxRecDepth 100000 in
set_option maxHeartbeats 4000000 in
theorem made12_2 (t : NodeT) (a : Option Addr) (cap : Nat) (w : World) (hk : t.kind = 2) (hs : t.s.size < 4611686018427387904) :
    Calls Tryz.prog 129 #[nodeV t a t.args.length cap] w fun e w' => e = .returned (.bool (bareB false false true false false false false false t && Lib.validD t.s.data.toList && decide ((t.s.size : Int) ≤ 1024))) ∧ Gr w w' := by
  obtain ⟨w0, hw0, hg0, hs0, hN⟩ := boxN w t a t.args.length cap 44
  have HN := Lib.hid hN
  obtain ⟨c0, c1, c2, c3, c4, c5, c6, c7, c8, c9, c10, c11, c12, c13, c14⟩ := hN
  simp only [Nat.zero_add] at c0 c1 c2 c3 c4 c5 c6 c7 c8 c9 c10 c11 c12 c13 c14
  have HG0 := Lib.hid hg0
  have HB := Lib.hid (bare_4 t a cap)
  generalize bareB false false true false false false false false t = bb at HB ⊢
  have H1 := Lib.hid (utf12_any t.s hs)
  generalize Lib.validD t.s.data.toList = vd at H1 ⊢
  have e1 : (t.kind == 1) = false := by rw [hk]; rfl
  have e2 : (t.kind == 2) = true := by rw [hk]; rfl
  clear hg0 hk
  go_enter Tryz.func129, Tryz.ntmps129
  go_wp2_with (first | (go_at_call 142; refine (HB.out _).mono ?_; rintro e w2 ⟨rfl, hg2⟩; have HG2 := Lib.hid hg2; have hN2 := HN.out.xt hg2.xt; clear hg2 c0 c1 c2 c3 c4 c5 c6 c7 c8 c9 c10 c11 c12 c13 c14; obtain ⟨c0, c1, c2, c3, c4, c5, c6, c7, c8, c9, c10, c11, c12, c13, c14⟩ := hN2; simp only [Nat.zero_add] at c0 c1 c2 c3 c4 c5 c6 c7 c8 c9 c10 c11 c12 c13 c14) | (go_at_call 91; refine (H1.out _).mono ?_; rintro e w' ⟨rfl, rfl⟩))
  all_goals (go_ret; refine ⟨?_, HG0.out.trans HG2.out⟩; first | (simp [*]; done) | (simp [*]; omega) | (simp [*]; intros; exfalso; omega) | trace_state)
set_option maxRecDepth 100000 in
set_option maxHeartbeats 4000000 in
theorem made12_3 (t : NodeT) (a : Option Addr) (cap : Nat) (w : World) (hk : t.kind = 3) :
    Calls Tryz.prog 129 #[nodeV t a t.args.length cap] w fun e w' => e = .returned (.bool (bareB false false false true false false false false t)) ∧ Gr w w' := by
  obtain ⟨w0, hw0, hg0, hs0, hN⟩ := boxN w t a t.args.length cap 44
  have HN := Lib.hid hN
  obtain ⟨c0, c1, c2, c3, c4, c5, c6, c7, c8, c9, c10, c11, c12, c13, c14⟩ := hN
  simp only [Nat.zero_add] at c0 c1 c2 c3 c4 c5 c6 c7 c8 c9 c10 c11 c12 c13 c14
  have HG0 := Lib.hid hg0
  have HB := Lib.hid (bare_8 t a cap)
  generalize bareB false false false true false false false false t = bb at HB ⊢
  have e1 : (t.kind == 1) = false := by rw [hk]; rfl
  have e2 : (t.kind == 2) = false := by rw [hk]; rfl
  have e3 : (t.kind == 3) = true := by rw [hk]; rfl
  clear hg0 hk
  go_enter Tryz.func129, Tryz.ntmps129
  go_wp2_with (first | (go_at_call 142; refine (HB.out _).mono ?_; rintro e w2 ⟨rfl, hg2⟩; have HG2 := Lib.hid hg2; have hN2 := HN.out.xt hg2.xt; clear hg2 c0 c1 c2 c3 c4 c5 c6 c7 c8 c9 c10 c11 c12 c13 c14; obtain ⟨c0, c1, c2, c3, c4, c5, c6, c7, c8, c9, c10, c11, c12, c13, c14⟩ := hN2; simp only [Nat.zero_add] at c0 c1 c2 c3 c4 c5 c6 c7 c8 c9 c10 c11 c12 c13 c14))
  all_goals (go_ret; refine ⟨?_, HG0.out.trans HG2.out⟩; first | (simp [*]; done) | (simp [*]; omega) | (simp [*]; intros; exfalso; omega) | trace_state)
set_option maxRecDepth 100000 in
set_option maxHeartbeats 4000000 in
theorem made12_4 (t : NodeT) (a : Option Addr) (cap : Nat) (w : World) (hk : t.kind = 4) :
    Calls Tryz.prog 129 #[nodeV t a t.args.length cap] w fun e w' => e = .returned (.bool (bareB false false false false true false false false t && decide (1 ≤ t.f) && decide (t.f ≤ 5))) ∧ Gr w w' := by
  obtain ⟨w0, hw0, hg0, hs0, hN⟩ := boxN w t a t.args.length cap 44
  have HN := Lib.hid hN
  obtain ⟨c0, c1, c2, c3, c4, c5, c6, c7, c8, c9, c10, c11, c12, c13, c14⟩ := hN
  simp only [Nat.zero_add] at c0 c1 c2 c3 c4 c5 c6 c7 c8 c9 c10 c11 c12 c13 c14
  have HG0 := Lib.hid hg0
  have HB := Lib.hid (bare_16 t a cap)
  generalize bareB false false false false true false false false t = bb at HB ⊢
  have e1 : (t.kind == 1) = false := by rw [hk]; rfl
  have e2 : (t.kind == 2) = false := by rw [hk]; rfl
  have e3 : (t.kind == 3) = false := by rw [hk]; rfl
  have e4 : (t.kind == 4) = true := by rw [hk]; rfl
  clear hg0 hk
  go_enter Tryz.func129, Tryz.ntmps129
  go_wp2_with (first | (go_at_call 142; refine (HB.out _).mono ?_; rintro e w2 ⟨rfl, hg2⟩; have HG2 := Lib.hid hg2; have hN2 := HN.out.xt hg2.xt; clear hg2 c0 c1 c2 c3 c4 c5 c6 c7 c8 c9 c10 c11 c12 c13 c14; obtain ⟨c0, c1, c2, c3, c4, c5, c6, c7, c8, c9, c10, c11, c12, c13, c14⟩ := hN2; simp only [Nat.zero_add] at c0 c1 c2 c3 c4 c5 c6 c7 c8 c9 c10 c11 c12 c13 c14))
  all_goals (go_ret; refine ⟨?_, HG0.out.trans HG2.out⟩; first | (simp [*]; done) | (simp [*]; omega) | (simp [*]; intros; exfalso; omega) | trace_state)
set_option maxRecDepth 100000 in
set_option maxHeartbeats 4000000 in
theorem made12_5 (t : NodeT) (a : Option Addr) (cap : Nat) (w : World) (hk : t.kind = 5) :
    Calls Tryz.prog 129 #[nodeV t a t.args.length cap] w fun e w' => e = .returned (.bool (bareB false false false false false true false false t)) ∧ Gr w w' := by
  obtain ⟨w0, hw0, hg0, hs0, hN⟩ := boxN w t a t.args.length cap 44
  have HN := Lib.hid hN
  obtain ⟨c0, c1, c2, c3, c4, c5, c6, c7, c8, c9, c10, c11, c12, c13, c14⟩ := hN
  simp only [Nat.zero_add] at c0 c1 c2 c3 c4 c5 c6 c7 c8 c9 c10 c11 c12 c13 c14
  have HG0 := Lib.hid hg0
  have HB := Lib.hid (bare_32 t a cap)
  generalize bareB false false false false false true false false t = bb at HB ⊢
  have e1 : (t.kind == 1) = false := by rw [hk]; rfl
  have e2 : (t.kind == 2) = false := by rw [hk]; rfl
  have e3 : (t.kind == 3) = false := by rw [hk]; rfl
  have e4 : (t.kind == 4) = false := by rw [hk]; rfl
  have e5 : (t.kind == 5) = true := by rw [hk]; rfl
  clear hg0 hk
  go_enter Tryz.func129, Tryz.ntmps129
  go_wp2_with (first | (go_at_call 142; refine (HB.out _).mono ?_; rintro e w2 ⟨rfl, hg2⟩; have HG2 := Lib.hid hg2; have hN2 := HN.out.xt hg2.xt; clear hg2 c0 c1 c2 c3 c4 c5 c6 c7 c8 c9 c10 c11 c12 c13 c14; obtain ⟨c0, c1, c2, c3, c4, c5, c6, c7, c8, c9, c10, c11, c12, c13, c14⟩ := hN2; simp only [Nat.zero_add] at c0 c1 c2 c3 c4 c5 c6 c7 c8 c9 c10 c11 c12 c13 c14))
  all_goals (go_ret; refine ⟨?_, HG0.out.trans HG2.out⟩; first | (simp [*]; done) | (simp [*]; omega) | (simp [*]; intros; exfalso; omega) | trace_state)
set_option maxRecDepth 100000 in
set_option maxHeartbeats 4000000 in
theorem made12_6 (t : NodeT) (a : Option Addr) (cap : Nat) (w : World) (hk : t.kind = 6) :
    Calls Tryz.prog 129 #[nodeV t a t.args.length cap] w fun e w' => e = .returned (.bool (bareB false false false false false true true false t)) ∧ Gr w w' := by
  obtain ⟨w0, hw0, hg0, hs0, hN⟩ := boxN w t a t.args.length cap 44
  have HN := Lib.hid hN
  obtain ⟨c0, c1, c2, c3, c4, c5, c6, c7, c8, c9, c10, c11, c12, c13, c14⟩ := hN
  simp only [Nat.zero_add] at c0 c1 c2 c3 c4 c5 c6 c7 c8 c9 c10 c11 c12 c13 c14
  have HG0 := Lib.hid hg0
  have HB := Lib.hid (bare_96 t a cap)
  generalize bareB false false false false false true true false t = bb at HB ⊢
  have e1 : (t.kind == 1) = false := by rw [hk]; rfl
  have e2 : (t.kind == 2) = false := by rw [hk]; rfl
  have e3 : (t.kind == 3) = false := by rw [hk]; rfl
  have e4 : (t.kind == 4) = false := by rw [hk]; rfl
  have e5 : (t.kind == 5) = false := by rw [hk]; rfl
  have e6 : (t.kind == 6) = true := by rw [hk]; rfl
  clear hg0 hk
  go_enter Tryz.func129, Tryz.ntmps129
  go_wp2_with (first | (go_at_call 142; refine (HB.out _).mono ?_; rintro e w2 ⟨rfl, hg2⟩; have HG2 := Lib.hid hg2; have hN2 := HN.out.xt hg2.xt; clear hg2 c0 c1 c2 c3 c4 c5 c6 c7 c8 c9 c10 c11 c12 c13 c14; obtain ⟨c0, c1, c2, c3, c4, c5, c6, c7, c8, c9, c10, c11, c12, c13, c14⟩ := hN2; simp only [Nat.zero_add] at c0 c1 c2 c3 c4 c5 c6 c7 c8 c9 c10 c11 c12 c13 c14))
  all_goals (go_ret; refine ⟨?_, HG0.out.trans HG2.out⟩; first | (simp [*]; done) | (simp [*]; omega) | (simp [*]; intros; exfalso; omega) | trace_state)
set_option maxRecDepth 100000 in
set_option maxHeartbeats 4000000 in
theorem made12_7 (t : NodeT) (a : Option Addr) (cap : Nat) (w : World) (hk : t.kind = 7) :
    Calls Tryz.prog 129 #[nodeV t a t.args.length cap] w fun e w' => e = .returned (.bool (bareB true false false false false false false true t && decide (1 ≤ t.op) && decide (t.op ≤ 3) && ((t.args.length : Int) == 1))) ∧ Gr w w' := by
  obtain ⟨w0, hw0, hg0, hs0, hN⟩ := boxN w t a t.args.length cap 44
  have HN := Lib.hid hN
  obtain ⟨c0, c1, c2, c3, c4, c5, c6, c7, c8, c9, c10, c11, c12, c13, c14⟩ := hN
  simp only [Nat.zero_add] at c0 c1 c2 c3 c4 c5 c6 c7 c8 c9 c10 c11 c12 c13 c14
  have HG0 := Lib.hid hg0
  have HB := Lib.hid (bare_129 t a cap)
  generalize bareB true false false false false false false true t = bb at HB ⊢
  have e1 : (t.kind == 1) = false := by rw [hk]; rfl
  have e2 : (t.kind == 2) = false := by rw [hk]; rfl
  have e3 : (t.kind == 3) = false := by rw [hk]; rfl
  have e4 : (t.kind == 4) = false := by rw [hk]; rfl
  have e5 : (t.kind == 5) = false := by rw [hk]; rfl
  have e6 : (t.kind == 6) = false := by rw [hk]; rfl
  have e7 : (t.kind == 7) = true := by rw [hk]; rfl
  clear hg0 hk
  go_enter Tryz.func129, Tryz.ntmps129
  go_wp2_with (first | (go_at_call 142; refine (HB.out _).mono ?_; rintro e w2 ⟨rfl, hg2⟩; have HG2 := Lib.hid hg2; have hN2 := HN.out.xt hg2.xt; clear hg2 c0 c1 c2 c3 c4 c5 c6 c7 c8 c9 c10 c11 c12 c13 c14; obtain ⟨c0, c1, c2, c3, c4, c5, c6, c7, c8, c9, c10, c11, c12, c13, c14⟩ := hN2; simp only [Nat.zero_add] at c0 c1 c2 c3 c4 c5 c6 c7 c8 c9 c10 c11 c12 c13 c14))
  all_goals (go_ret; refine ⟨?_, HG0.out.trans HG2.out⟩; first | (simp [*]; done) | (simp [*]; omega) | (simp [*]; intros; exfalso; omega) | trace_state)
set_option maxRecDepth 100000 in
set_option maxHeartbeats 4000000 in
theorem made12_8 (t : NodeT) (a : Option Addr) (cap : Nat) (w : World) (hk : t.kind = 8) :
    Calls Tryz.prog 129 #[nodeV t a t.args.length cap] w fun e w' => e = .returned (.bool (bareB true false false false false false false true t && decide (4 ≤ t.op) && decide (t.op ≤ 15) && ((t.args.length : Int) == 2))) ∧ Gr w w' := by
  obtain ⟨w0, hw0, hg0, hs0, hN⟩ := boxN w t a t.args.length cap 44
  have HN := Lib.hid hN
  obtain ⟨c0, c1, c2, c3, c4, c5, c6, c7, c8, c9, c10, c11, c12, c13, c14⟩ := hN
  simp only [Nat.zero_add] at c0 c1 c2 c3 c4 c5 c6 c7 c8 c9 c10 c11 c12 c13 c14
  have HG0 := Lib.hid hg0
  have HB := Lib.hid (bare_129 t a cap)
  generalize bareB true false false false false false false true t = bb at HB ⊢
  have e1 : (t.kind == 1) = false := by rw [hk]; rfl
  have e2 : (t.kind == 2) = false := by rw [hk]; rfl
  have e3 : (t.kind == 3) = false := by rw [hk]; rfl
  have e4 : (t.kind == 4) = false := by rw [hk]; rfl
  have e5 : (t.kind == 5) = false := by rw [hk]; rfl
  have e6 : (t.kind == 6) = false := by rw [hk]; rfl
  have e7 : (t.kind == 7) = false := by rw [hk]; rfl
  have e8 : (t.kind == 8) = true := by rw [hk]; rfl
  clear hg0 hk
  go_enter Tryz.func129, Tryz.ntmps129
  go_wp2_with (first | (go_at_call 142; refine (HB.out _).mono ?_; rintro e w2 ⟨rfl, hg2⟩; have HG2 := Lib.hid hg2; have hN2 := HN.out.xt hg2.xt; clear hg2 c0 c1 c2 c3 c4 c5 c6 c7 c8 c9 c10 c11 c12 c13 c14; obtain ⟨c0, c1, c2, c3, c4, c5, c6, c7, c8, c9, c10, c11, c12, c13, c14⟩ := hN2; simp only [Nat.zero_add] at c0 c1 c2 c3 c4 c5 c6 c7 c8 c9 c10 c11 c12 c13 c14))
  all_goals (go_ret; refine ⟨?_, HG0.out.trans HG2.out⟩; first | (simp [*]; done) | (simp [*]; omega) | (simp [*]; intros; exfalso; omega) | trace_state)
set_option maxRecDepth 100000 in
set_option maxHeartbeats 4000000 in
theorem made12_9 (t : NodeT) (a : Option Addr) (cap : Nat) (w : World) (hk : t.kind = 9) :
    Calls Tryz.prog 129 #[nodeV t a t.args.length cap] w fun e w' => e = .returned (.bool (bareB false false true false false false false true t)) ∧ Gr w w' := by
  obtain ⟨w0, hw0, hg0, hs0, hN⟩ := boxN w t a t.args.length cap 44
  have HN := Lib.hid hN
  obtain ⟨c0, c1, c2, c3, c4, c5, c6, c7, c8, c9, c10, c11, c12, c13, c14⟩ := hN
  simp only [Nat.zero_add] at c0 c1 c2 c3 c4 c5 c6 c7 c8 c9 c10 c11 c12 c13 c14
  have HG0 := Lib.hid hg0
  have HB := Lib.hid (bare_132 t a cap)
  generalize bareB false false true false false false false true t = bb at HB ⊢
  have e1 : (t.kind == 1) = false := by rw [hk]; rfl
  have e2 : (t.kind == 2) = false := by rw [hk]; rfl
  have e3 : (t.kind == 3) = false := by rw [hk]; rfl
  have e4 : (t.kind == 4) = false := by rw [hk]; rfl
  have e5 : (t.kind == 5) = false := by rw [hk]; rfl
  have e6 : (t.kind == 6) = false := by rw [hk]; rfl
  have e7 : (t.kind == 7) = false := by rw [hk]; rfl
  have e8 : (t.kind == 8) = false := by rw [hk]; rfl
  have e9 : (t.kind == 9) = true := by rw [hk]; rfl
  clear hg0 hk
  go_enter Tryz.func129, Tryz.ntmps129
  go_wp2_with (first | (go_at_call 142; refine (HB.out _).mono ?_; rintro e w2 ⟨rfl, hg2⟩; have HG2 := Lib.hid hg2; have hN2 := HN.out.xt hg2.xt; clear hg2 c0 c1 c2 c3 c4 c5 c6 c7 c8 c9 c10 c11 c12 c13 c14; obtain ⟨c0, c1, c2, c3, c4, c5, c6, c7, c8, c9, c10, c11, c12, c13, c14⟩ := hN2; simp only [Nat.zero_add] at c0 c1 c2 c3 c4 c5 c6 c7 c8 c9 c10 c11 c12 c13 c14))
  all_goals (go_ret; refine ⟨?_, HG0.out.trans HG2.out⟩; first | (simp [*]; done) | (simp [*]; omega) | (simp [*]; intros; exfalso; omega) | trace_state)
end
end Go.Proofs.YtideclfpbpjebaaGreatDoor
