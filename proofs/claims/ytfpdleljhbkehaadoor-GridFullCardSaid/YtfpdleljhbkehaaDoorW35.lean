import Derived.Test.YtfpdleljhbkehaaDoorA6
import Derived.Test.YtfpdleljhbkehaaDoorD7
import Derived.Deep.RegionHeld3
namespace Go.Proofs.YtfpdleljhbkehaaDoor
open Go.RowKit Go.Sort

/-! ### GridFull (made by mkfull.py) -/
set_option maxRecDepth 100000 in
set_option maxHeartbeats 400000 in
theorem full_hc (nc nd : Nat) (rows : Int) (c d : ContT) (ca da : Option Addr) (capc capd : Nat) (w : World) (hT : Tabs w) (_hr0 : -9223372036854775808 ≤ rows) (_hr1 : rows ≤ 9223372036854775807) (hokc : c.ok) (hokd : d.ok) (hinc : ArgsIn w nc (.slice ca c.t.args.length capc) c.t.args) (hind : ArgsIn w nd (.slice da d.t.args.length capd) d.t.args) (hc : heavyB c = true) : Calls Tryd.prog 3 #[.int .i64 rows, contV c ca c.t.args.length capc, contV d da d.t.args.length capd] w fun e w' => e = .returned (.bool true) ∧ Xt w w' := by
  obtain ⟨B, hB⟩ : ∃ B, w.heap.size = B := ⟨_, rfl⟩
  obtain ⟨w0, hw0⟩ : ∃ w0, w.alloc (.cells #[.int .i64 c.kind, .int .i64 c.v.kind, .float .f64 c.v.x, .string c.v.s, .bool c.v.b, .int .i64 c.v.f, .int .i64 c.t.kind, .int .i64 c.t.op, .float .f64 c.t.x, .string c.t.s, .bool c.t.b, .int .i64 c.t.f, .int .i64 c.t.ref.a.1, .int .i64 c.t.ref.a.2, .bool c.t.ref.cf, .bool c.t.ref.rf, .int .i64 c.t.to.a.1, .int .i64 c.t.to.a.2, .bool c.t.to.cf, .bool c.t.to.rf, .slice ca c.t.args.length capc] 33) = w0 := ⟨_, rfl⟩
  obtain ⟨w1, hw1⟩ : ∃ w1, w0.alloc (.cells #[.int .i64 d.kind, .int .i64 d.v.kind, .float .f64 d.v.x, .string d.v.s, .bool d.v.b, .int .i64 d.v.f, .int .i64 d.t.kind, .int .i64 d.t.op, .float .f64 d.t.x, .string d.t.s, .bool d.t.b, .int .i64 d.t.f, .int .i64 d.t.ref.a.1, .int .i64 d.t.ref.a.2, .bool d.t.ref.cf, .bool d.t.ref.rf, .int .i64 d.t.to.a.1, .int .i64 d.t.to.a.2, .bool d.t.to.cf, .bool d.t.to.rf, .slice da d.t.args.length capd] 33) = w1 := ⟨_, rfl⟩
  have hx01 : Xt w0 w1 := by rw [← hw1]; exact (Xt.refl w0).alloc _
  have hxw : Xt w w1 := by rw [← hw1, ← hw0]; exact ((Xt.refl w).alloc _).alloc _
  have hs0 : w0.heap.size = B + 1 := by rw [← hw0, ← hB]; simp
  have hs1 : w1.heap.size = B + 2 := by rw [← hw1]; simp [hs0]
  have hrc : w1.heap[B]? = some (.cells #[.int .i64 c.kind, .int .i64 c.v.kind, .float .f64 c.v.x, .string c.v.s, .bool c.v.b, .int .i64 c.v.f, .int .i64 c.t.kind, .int .i64 c.t.op, .float .f64 c.t.x, .string c.t.s, .bool c.t.b, .int .i64 c.t.f, .int .i64 c.t.ref.a.1, .int .i64 c.t.ref.a.2, .bool c.t.ref.cf, .bool c.t.ref.rf, .int .i64 c.t.to.a.1, .int .i64 c.t.to.a.2, .bool c.t.to.cf, .bool c.t.to.rf, .slice ca c.t.args.length capc] 33 (0, 0)) := (hx01.block B (by omega)).trans (by rw [← hw0, ← hB]; exact (MapKept.heap_alloc w _).1)
  have hrd : w1.heap[B + 1]? = some (.cells #[.int .i64 d.kind, .int .i64 d.v.kind, .float .f64 d.v.x, .string d.v.s, .bool d.v.b, .int .i64 d.v.f, .int .i64 d.t.kind, .int .i64 d.t.op, .float .f64 d.t.x, .string d.t.s, .bool d.t.b, .int .i64 d.t.f, .int .i64 d.t.ref.a.1, .int .i64 d.t.ref.a.2, .bool d.t.ref.cf, .bool d.t.ref.rf, .int .i64 d.t.to.a.1, .int .i64 d.t.to.a.2, .bool d.t.to.cf, .bool d.t.to.rf, .slice da d.t.args.length capd] 33 (0, 0)) := by rw [← hw1, ← hs0]; exact (MapKept.heap_alloc w0 _).1
  have HRC := Lib.hid (fun W (hx : Xt w1 W) => (hx.block B (by omega)).trans hrc)
  have HRD := Lib.hid (fun W (hx : Xt w1 W) => (hx.block (B + 1) (by omega)).trans hrd)
  have HT := Lib.hid (fun W (hx : Xt w1 W) => hT.xt (hxw.trans hx))
  have HIC := Lib.hid (fun W (hx : Xt w1 W) => hinc.xt (hxw.trans hx))
  have HID := Lib.hid (fun W (hx : Xt w1 W) => hind.xt (hxw.trans hx))
  have HXW := Lib.hid hxw
  have HB := Lib.hid hB
  have hx1 : Xt w1 w1 := Xt.refl w1
  clear hrc hrd hT hinc hind hxw hx01
  have hHs : w.heap.size = B := HB.out
  have HOC := Lib.hid hokc
  have HOD := Lib.hid hokd
  clear hokc hokd
  have HHC := Lib.hid hc
  clear hc
  go_enter Tryd.func3, Tryd.ntmps3
  go_wp2_with (first
    | (go_at_call 6; refine (awake_any _ (HT.out _ (by assumption))).mono ?_; rintro e w2 ⟨rfl, hq2⟩; have hx2 := hx1.trans hq2; clear hq2 hx1)
    | (go_at_call 7; refine (gnew_any _).mono ?_; rintro e w3 ⟨rfl, hG3, hg3⟩; have hx3 := hx2.trans hg3.xt; have hmb := hx2.sz; clear hg3 hx2)
    | (go_at_call 8; have _q := hx3; clear _q; refine (heavy_any nc c ca capc _ (HIC.out _ (by assumption))).mono ?_; rintro e w4 ⟨rfl, hg4⟩; rw [HHC.out]; have hx4 := hx3.trans hg4.xt; have hG4 := hG3.xt hg4.xt; clear hG3 hx3 hg4)
    | (go_at_call 8; have _q := hx4; clear _q; refine (heavy_any nd d da capd _ (HID.out _ (by assumption))).mono ?_; rintro e w5 ⟨rfl, hg5⟩; rw [HHD.out]; have hx5 := hx4.trans hg5.xt; have hG5 := hG4.xt hg5.xt; clear hG4 hx4 hg5)
    | (go_at_call 9; have _q := hx5; clear _q; refine (gvalid_any nc c ca capc _ HOC.out (HT.out _ (by assumption)) (HIC.out _ (by assumption))).mono ?_; rintro e w6 ⟨rfl, hg6⟩; rw [HVC.out]; have hx6 := hx5.trans hg6; have hG6 := hG5.xt hg6; clear hG5 hx5 hg6)
    | (go_at_call 9; have _q := hx6; clear _q; refine (gvalid_any nd d da capd _ HOD.out (HT.out _ (by assumption)) (HID.out _ (by assumption))).mono ?_; rintro e w7 ⟨rfl, hg7⟩; rw [HVD.out]; have hx7 := hx6.trans hg7; have hG7 := hG6.xt hg7; clear hG6 hx6 hg7; have hck : w7.cell? ⟨B, 0, none⟩ = some (.int .i64 c.kind) := (by have := HRC.out _ hx7; simp [World.cell?, this]))
    | (refine BigFrame.wpList_want (by rfl) (fun K hK => wp_load_row 33 _ rfl B rfl 33 _ (0, 0) _ (HRC.out _ (by assumption)) Tryd.underlying33 rfl (by kernel_rfl) (hK _ _ ?_)); clear hK K)
    | (refine BigFrame.wpList_want (by rfl) (fun K hK => wp_load_row 33 _ rfl (B + 1) rfl 33 _ (0, 0) _ (HRD.out _ (by assumption)) Tryd.underlying33 rfl (by kernel_rfl) (hK _ _ ?_)); clear hK K))
  go_ret
  exact ⟨rfl, HXW.out.trans hx4⟩
set_option maxRecDepth 100000 in
set_option maxHeartbeats 400000 in
theorem full_hd (nc nd : Nat) (rows : Int) (c d : ContT) (ca da : Option Addr) (capc capd : Nat) (w : World) (hT : Tabs w) (_hr0 : -9223372036854775808 ≤ rows) (_hr1 : rows ≤ 9223372036854775807) (hokc : c.ok) (hokd : d.ok) (hinc : ArgsIn w nc (.slice ca c.t.args.length capc) c.t.args) (hind : ArgsIn w nd (.slice da d.t.args.length capd) d.t.args) (hc : heavyB c = false) (hd : heavyB d = true) : Calls Tryd.prog 3 #[.int .i64 rows, contV c ca c.t.args.length capc, contV d da d.t.args.length capd] w fun e w' => e = .returned (.bool true) ∧ Xt w w' := by
  obtain ⟨B, hB⟩ : ∃ B, w.heap.size = B := ⟨_, rfl⟩
  obtain ⟨w0, hw0⟩ : ∃ w0, w.alloc (.cells #[.int .i64 c.kind, .int .i64 c.v.kind, .float .f64 c.v.x, .string c.v.s, .bool c.v.b, .int .i64 c.v.f, .int .i64 c.t.kind, .int .i64 c.t.op, .float .f64 c.t.x, .string c.t.s, .bool c.t.b, .int .i64 c.t.f, .int .i64 c.t.ref.a.1, .int .i64 c.t.ref.a.2, .bool c.t.ref.cf, .bool c.t.ref.rf, .int .i64 c.t.to.a.1, .int .i64 c.t.to.a.2, .bool c.t.to.cf, .bool c.t.to.rf, .slice ca c.t.args.length capc] 33) = w0 := ⟨_, rfl⟩
  obtain ⟨w1, hw1⟩ : ∃ w1, w0.alloc (.cells #[.int .i64 d.kind, .int .i64 d.v.kind, .float .f64 d.v.x, .string d.v.s, .bool d.v.b, .int .i64 d.v.f, .int .i64 d.t.kind, .int .i64 d.t.op, .float .f64 d.t.x, .string d.t.s, .bool d.t.b, .int .i64 d.t.f, .int .i64 d.t.ref.a.1, .int .i64 d.t.ref.a.2, .bool d.t.ref.cf, .bool d.t.ref.rf, .int .i64 d.t.to.a.1, .int .i64 d.t.to.a.2, .bool d.t.to.cf, .bool d.t.to.rf, .slice da d.t.args.length capd] 33) = w1 := ⟨_, rfl⟩
  have hx01 : Xt w0 w1 := by rw [← hw1]; exact (Xt.refl w0).alloc _
  have hxw : Xt w w1 := by rw [← hw1, ← hw0]; exact ((Xt.refl w).alloc _).alloc _
  have hs0 : w0.heap.size = B + 1 := by rw [← hw0, ← hB]; simp
  have hs1 : w1.heap.size = B + 2 := by rw [← hw1]; simp [hs0]
  have hrc : w1.heap[B]? = some (.cells #[.int .i64 c.kind, .int .i64 c.v.kind, .float .f64 c.v.x, .string c.v.s, .bool c.v.b, .int .i64 c.v.f, .int .i64 c.t.kind, .int .i64 c.t.op, .float .f64 c.t.x, .string c.t.s, .bool c.t.b, .int .i64 c.t.f, .int .i64 c.t.ref.a.1, .int .i64 c.t.ref.a.2, .bool c.t.ref.cf, .bool c.t.ref.rf, .int .i64 c.t.to.a.1, .int .i64 c.t.to.a.2, .bool c.t.to.cf, .bool c.t.to.rf, .slice ca c.t.args.length capc] 33 (0, 0)) := (hx01.block B (by omega)).trans (by rw [← hw0, ← hB]; exact (MapKept.heap_alloc w _).1)
  have hrd : w1.heap[B + 1]? = some (.cells #[.int .i64 d.kind, .int .i64 d.v.kind, .float .f64 d.v.x, .string d.v.s, .bool d.v.b, .int .i64 d.v.f, .int .i64 d.t.kind, .int .i64 d.t.op, .float .f64 d.t.x, .string d.t.s, .bool d.t.b, .int .i64 d.t.f, .int .i64 d.t.ref.a.1, .int .i64 d.t.ref.a.2, .bool d.t.ref.cf, .bool d.t.ref.rf, .int .i64 d.t.to.a.1, .int .i64 d.t.to.a.2, .bool d.t.to.cf, .bool d.t.to.rf, .slice da d.t.args.length capd] 33 (0, 0)) := by rw [← hw1, ← hs0]; exact (MapKept.heap_alloc w0 _).1
  have HRC := Lib.hid (fun W (hx : Xt w1 W) => (hx.block B (by omega)).trans hrc)
  have HRD := Lib.hid (fun W (hx : Xt w1 W) => (hx.block (B + 1) (by omega)).trans hrd)
  have HT := Lib.hid (fun W (hx : Xt w1 W) => hT.xt (hxw.trans hx))
  have HIC := Lib.hid (fun W (hx : Xt w1 W) => hinc.xt (hxw.trans hx))
  have HID := Lib.hid (fun W (hx : Xt w1 W) => hind.xt (hxw.trans hx))
  have HXW := Lib.hid hxw
  have HB := Lib.hid hB
  have hx1 : Xt w1 w1 := Xt.refl w1
  clear hrc hrd hT hinc hind hxw hx01
  have hHs : w.heap.size = B := HB.out
  have HOC := Lib.hid hokc
  have HOD := Lib.hid hokd
  clear hokc hokd
  have HHC := Lib.hid hc
  have HHD := Lib.hid hd
  clear hc hd
  go_enter Tryd.func3, Tryd.ntmps3
  go_wp2_with (first
    | (go_at_call 6; refine (awake_any _ (HT.out _ (by assumption))).mono ?_; rintro e w2 ⟨rfl, hq2⟩; have hx2 := hx1.trans hq2; clear hq2 hx1)
    | (go_at_call 7; refine (gnew_any _).mono ?_; rintro e w3 ⟨rfl, hG3, hg3⟩; have hx3 := hx2.trans hg3.xt; have hmb := hx2.sz; clear hg3 hx2)
    | (go_at_call 8; have _q := hx3; clear _q; refine (heavy_any nc c ca capc _ (HIC.out _ (by assumption))).mono ?_; rintro e w4 ⟨rfl, hg4⟩; rw [HHC.out]; have hx4 := hx3.trans hg4.xt; have hG4 := hG3.xt hg4.xt; clear hG3 hx3 hg4)
    | (go_at_call 8; have _q := hx4; clear _q; refine (heavy_any nd d da capd _ (HID.out _ (by assumption))).mono ?_; rintro e w5 ⟨rfl, hg5⟩; rw [HHD.out]; have hx5 := hx4.trans hg5.xt; have hG5 := hG4.xt hg5.xt; clear hG4 hx4 hg5)
    | (go_at_call 9; have _q := hx5; clear _q; refine (gvalid_any nc c ca capc _ HOC.out (HT.out _ (by assumption)) (HIC.out _ (by assumption))).mono ?_; rintro e w6 ⟨rfl, hg6⟩; rw [HVC.out]; have hx6 := hx5.trans hg6; have hG6 := hG5.xt hg6; clear hG5 hx5 hg6)
    | (go_at_call 9; have _q := hx6; clear _q; refine (gvalid_any nd d da capd _ HOD.out (HT.out _ (by assumption)) (HID.out _ (by assumption))).mono ?_; rintro e w7 ⟨rfl, hg7⟩; rw [HVD.out]; have hx7 := hx6.trans hg7; have hG7 := hG6.xt hg7; clear hG6 hx6 hg7; have hck : w7.cell? ⟨B, 0, none⟩ = some (.int .i64 c.kind) := (by have := HRC.out _ hx7; simp [World.cell?, this]))
    | (refine BigFrame.wpList_want (by rfl) (fun K hK => wp_load_row 33 _ rfl B rfl 33 _ (0, 0) _ (HRC.out _ (by assumption)) Tryd.underlying33 rfl (by kernel_rfl) (hK _ _ ?_)); clear hK K)
    | (refine BigFrame.wpList_want (by rfl) (fun K hK => wp_load_row 33 _ rfl (B + 1) rfl 33 _ (0, 0) _ (HRD.out _ (by assumption)) Tryd.underlying33 rfl (by kernel_rfl) (hK _ _ ?_)); clear hK K))
  go_ret
  exact ⟨rfl, HXW.out.trans hx5⟩
set_option maxRecDepth 100000 in
set_option maxHeartbeats 400000 in
theorem full_vc (nc nd : Nat) (rows : Int) (c d : ContT) (ca da : Option Addr) (capc capd : Nat) (w : World) (hT : Tabs w) (_hr0 : -9223372036854775808 ≤ rows) (_hr1 : rows ≤ 9223372036854775807) (hokc : c.ok) (hokd : d.ok) (hinc : ArgsIn w nc (.slice ca c.t.args.length capc) c.t.args) (hind : ArgsIn w nd (.slice da d.t.args.length capd) d.t.args) (hc : heavyB c = false) (hd : heavyB d = false) (vc : gvalidB c = false) : Calls Tryd.prog 3 #[.int .i64 rows, contV c ca c.t.args.length capc, contV d da d.t.args.length capd] w fun e w' => e = .returned (.bool true) ∧ Xt w w' := by
  obtain ⟨B, hB⟩ : ∃ B, w.heap.size = B := ⟨_, rfl⟩
  obtain ⟨w0, hw0⟩ : ∃ w0, w.alloc (.cells #[.int .i64 c.kind, .int .i64 c.v.kind, .float .f64 c.v.x, .string c.v.s, .bool c.v.b, .int .i64 c.v.f, .int .i64 c.t.kind, .int .i64 c.t.op, .float .f64 c.t.x, .string c.t.s, .bool c.t.b, .int .i64 c.t.f, .int .i64 c.t.ref.a.1, .int .i64 c.t.ref.a.2, .bool c.t.ref.cf, .bool c.t.ref.rf, .int .i64 c.t.to.a.1, .int .i64 c.t.to.a.2, .bool c.t.to.cf, .bool c.t.to.rf, .slice ca c.t.args.length capc] 33) = w0 := ⟨_, rfl⟩
  obtain ⟨w1, hw1⟩ : ∃ w1, w0.alloc (.cells #[.int .i64 d.kind, .int .i64 d.v.kind, .float .f64 d.v.x, .string d.v.s, .bool d.v.b, .int .i64 d.v.f, .int .i64 d.t.kind, .int .i64 d.t.op, .float .f64 d.t.x, .string d.t.s, .bool d.t.b, .int .i64 d.t.f, .int .i64 d.t.ref.a.1, .int .i64 d.t.ref.a.2, .bool d.t.ref.cf, .bool d.t.ref.rf, .int .i64 d.t.to.a.1, .int .i64 d.t.to.a.2, .bool d.t.to.cf, .bool d.t.to.rf, .slice da d.t.args.length capd] 33) = w1 := ⟨_, rfl⟩
  have hx01 : Xt w0 w1 := by rw [← hw1]; exact (Xt.refl w0).alloc _
  have hxw : Xt w w1 := by rw [← hw1, ← hw0]; exact ((Xt.refl w).alloc _).alloc _
  have hs0 : w0.heap.size = B + 1 := by rw [← hw0, ← hB]; simp
  have hs1 : w1.heap.size = B + 2 := by rw [← hw1]; simp [hs0]
  have hrc : w1.heap[B]? = some (.cells #[.int .i64 c.kind, .int .i64 c.v.kind, .float .f64 c.v.x, .string c.v.s, .bool c.v.b, .int .i64 c.v.f, .int .i64 c.t.kind, .int .i64 c.t.op, .float .f64 c.t.x, .string c.t.s, .bool c.t.b, .int .i64 c.t.f, .int .i64 c.t.ref.a.1, .int .i64 c.t.ref.a.2, .bool c.t.ref.cf, .bool c.t.ref.rf, .int .i64 c.t.to.a.1, .int .i64 c.t.to.a.2, .bool c.t.to.cf, .bool c.t.to.rf, .slice ca c.t.args.length capc] 33 (0, 0)) := (hx01.block B (by omega)).trans (by rw [← hw0, ← hB]; exact (MapKept.heap_alloc w _).1)
  have hrd : w1.heap[B + 1]? = some (.cells #[.int .i64 d.kind, .int .i64 d.v.kind, .float .f64 d.v.x, .string d.v.s, .bool d.v.b, .int .i64 d.v.f, .int .i64 d.t.kind, .int .i64 d.t.op, .float .f64 d.t.x, .string d.t.s, .bool d.t.b, .int .i64 d.t.f, .int .i64 d.t.ref.a.1, .int .i64 d.t.ref.a.2, .bool d.t.ref.cf, .bool d.t.ref.rf, .int .i64 d.t.to.a.1, .int .i64 d.t.to.a.2, .bool d.t.to.cf, .bool d.t.to.rf, .slice da d.t.args.length capd] 33 (0, 0)) := by rw [← hw1, ← hs0]; exact (MapKept.heap_alloc w0 _).1
  have HRC := Lib.hid (fun W (hx : Xt w1 W) => (hx.block B (by omega)).trans hrc)
  have HRD := Lib.hid (fun W (hx : Xt w1 W) => (hx.block (B + 1) (by omega)).trans hrd)
  have HT := Lib.hid (fun W (hx : Xt w1 W) => hT.xt (hxw.trans hx))
  have HIC := Lib.hid (fun W (hx : Xt w1 W) => hinc.xt (hxw.trans hx))
  have HID := Lib.hid (fun W (hx : Xt w1 W) => hind.xt (hxw.trans hx))
  have HXW := Lib.hid hxw
  have HB := Lib.hid hB
  have hx1 : Xt w1 w1 := Xt.refl w1
  clear hrc hrd hT hinc hind hxw hx01
  have hHs : w.heap.size = B := HB.out
  have HOC := Lib.hid hokc
  have HOD := Lib.hid hokd
  clear hokc hokd
  have HHC := Lib.hid hc
  have HHD := Lib.hid hd
  have HVC := Lib.hid vc
  clear hc hd vc
  go_enter Tryd.func3, Tryd.ntmps3
  go_wp2_with (first
    | (go_at_call 6; refine (awake_any _ (HT.out _ (by assumption))).mono ?_; rintro e w2 ⟨rfl, hq2⟩; have hx2 := hx1.trans hq2; clear hq2 hx1)
    | (go_at_call 7; refine (gnew_any _).mono ?_; rintro e w3 ⟨rfl, hG3, hg3⟩; have hx3 := hx2.trans hg3.xt; have hmb := hx2.sz; clear hg3 hx2)
    | (go_at_call 8; have _q := hx3; clear _q; refine (heavy_any nc c ca capc _ (HIC.out _ (by assumption))).mono ?_; rintro e w4 ⟨rfl, hg4⟩; rw [HHC.out]; have hx4 := hx3.trans hg4.xt; have hG4 := hG3.xt hg4.xt; clear hG3 hx3 hg4)
    | (go_at_call 8; have _q := hx4; clear _q; refine (heavy_any nd d da capd _ (HID.out _ (by assumption))).mono ?_; rintro e w5 ⟨rfl, hg5⟩; rw [HHD.out]; have hx5 := hx4.trans hg5.xt; have hG5 := hG4.xt hg5.xt; clear hG4 hx4 hg5)
    | (go_at_call 9; have _q := hx5; clear _q; refine (gvalid_any nc c ca capc _ HOC.out (HT.out _ (by assumption)) (HIC.out _ (by assumption))).mono ?_; rintro e w6 ⟨rfl, hg6⟩; rw [HVC.out]; have hx6 := hx5.trans hg6; have hG6 := hG5.xt hg6; clear hG5 hx5 hg6)
    | (go_at_call 9; have _q := hx6; clear _q; refine (gvalid_any nd d da capd _ HOD.out (HT.out _ (by assumption)) (HID.out _ (by assumption))).mono ?_; rintro e w7 ⟨rfl, hg7⟩; rw [HVD.out]; have hx7 := hx6.trans hg7; have hG7 := hG6.xt hg7; clear hG6 hx6 hg7; have hck : w7.cell? ⟨B, 0, none⟩ = some (.int .i64 c.kind) := (by have := HRC.out _ hx7; simp [World.cell?, this]))
    | (refine BigFrame.wpList_want (by rfl) (fun K hK => wp_load_row 33 _ rfl B rfl 33 _ (0, 0) _ (HRC.out _ (by assumption)) Tryd.underlying33 rfl (by kernel_rfl) (hK _ _ ?_)); clear hK K)
    | (refine BigFrame.wpList_want (by rfl) (fun K hK => wp_load_row 33 _ rfl (B + 1) rfl 33 _ (0, 0) _ (HRD.out _ (by assumption)) Tryd.underlying33 rfl (by kernel_rfl) (hK _ _ ?_)); clear hK K))
  go_ret
  exact ⟨rfl, HXW.out.trans hx6⟩
set_option maxRecDepth 100000 in
set_option maxHeartbeats 400000 in
theorem full_vd (nc nd : Nat) (rows : Int) (c d : ContT) (ca da : Option Addr) (capc capd : Nat) (w : World) (hT : Tabs w) (_hr0 : -9223372036854775808 ≤ rows) (_hr1 : rows ≤ 9223372036854775807) (hokc : c.ok) (hokd : d.ok) (hinc : ArgsIn w nc (.slice ca c.t.args.length capc) c.t.args) (hind : ArgsIn w nd (.slice da d.t.args.length capd) d.t.args) (hc : heavyB c = false) (hd : heavyB d = false) (vc : gvalidB c = true) (vd : gvalidB d = false) : Calls Tryd.prog 3 #[.int .i64 rows, contV c ca c.t.args.length capc, contV d da d.t.args.length capd] w fun e w' => e = .returned (.bool true) ∧ Xt w w' := by
  obtain ⟨B, hB⟩ : ∃ B, w.heap.size = B := ⟨_, rfl⟩
  obtain ⟨w0, hw0⟩ : ∃ w0, w.alloc (.cells #[.int .i64 c.kind, .int .i64 c.v.kind, .float .f64 c.v.x, .string c.v.s, .bool c.v.b, .int .i64 c.v.f, .int .i64 c.t.kind, .int .i64 c.t.op, .float .f64 c.t.x, .string c.t.s, .bool c.t.b, .int .i64 c.t.f, .int .i64 c.t.ref.a.1, .int .i64 c.t.ref.a.2, .bool c.t.ref.cf, .bool c.t.ref.rf, .int .i64 c.t.to.a.1, .int .i64 c.t.to.a.2, .bool c.t.to.cf, .bool c.t.to.rf, .slice ca c.t.args.length capc] 33) = w0 := ⟨_, rfl⟩
  obtain ⟨w1, hw1⟩ : ∃ w1, w0.alloc (.cells #[.int .i64 d.kind, .int .i64 d.v.kind, .float .f64 d.v.x, .string d.v.s, .bool d.v.b, .int .i64 d.v.f, .int .i64 d.t.kind, .int .i64 d.t.op, .float .f64 d.t.x, .string d.t.s, .bool d.t.b, .int .i64 d.t.f, .int .i64 d.t.ref.a.1, .int .i64 d.t.ref.a.2, .bool d.t.ref.cf, .bool d.t.ref.rf, .int .i64 d.t.to.a.1, .int .i64 d.t.to.a.2, .bool d.t.to.cf, .bool d.t.to.rf, .slice da d.t.args.length capd] 33) = w1 := ⟨_, rfl⟩
  have hx01 : Xt w0 w1 := by rw [← hw1]; exact (Xt.refl w0).alloc _
  have hxw : Xt w w1 := by rw [← hw1, ← hw0]; exact ((Xt.refl w).alloc _).alloc _
  have hs0 : w0.heap.size = B + 1 := by rw [← hw0, ← hB]; simp
  have hs1 : w1.heap.size = B + 2 := by rw [← hw1]; simp [hs0]
  have hrc : w1.heap[B]? = some (.cells #[.int .i64 c.kind, .int .i64 c.v.kind, .float .f64 c.v.x, .string c.v.s, .bool c.v.b, .int .i64 c.v.f, .int .i64 c.t.kind, .int .i64 c.t.op, .float .f64 c.t.x, .string c.t.s, .bool c.t.b, .int .i64 c.t.f, .int .i64 c.t.ref.a.1, .int .i64 c.t.ref.a.2, .bool c.t.ref.cf, .bool c.t.ref.rf, .int .i64 c.t.to.a.1, .int .i64 c.t.to.a.2, .bool c.t.to.cf, .bool c.t.to.rf, .slice ca c.t.args.length capc] 33 (0, 0)) := (hx01.block B (by omega)).trans (by rw [← hw0, ← hB]; exact (MapKept.heap_alloc w _).1)
  have hrd : w1.heap[B + 1]? = some (.cells #[.int .i64 d.kind, .int .i64 d.v.kind, .float .f64 d.v.x, .string d.v.s, .bool d.v.b, .int .i64 d.v.f, .int .i64 d.t.kind, .int .i64 d.t.op, .float .f64 d.t.x, .string d.t.s, .bool d.t.b, .int .i64 d.t.f, .int .i64 d.t.ref.a.1, .int .i64 d.t.ref.a.2, .bool d.t.ref.cf, .bool d.t.ref.rf, .int .i64 d.t.to.a.1, .int .i64 d.t.to.a.2, .bool d.t.to.cf, .bool d.t.to.rf, .slice da d.t.args.length capd] 33 (0, 0)) := by rw [← hw1, ← hs0]; exact (MapKept.heap_alloc w0 _).1
  have HRC := Lib.hid (fun W (hx : Xt w1 W) => (hx.block B (by omega)).trans hrc)
  have HRD := Lib.hid (fun W (hx : Xt w1 W) => (hx.block (B + 1) (by omega)).trans hrd)
  have HT := Lib.hid (fun W (hx : Xt w1 W) => hT.xt (hxw.trans hx))
  have HIC := Lib.hid (fun W (hx : Xt w1 W) => hinc.xt (hxw.trans hx))
  have HID := Lib.hid (fun W (hx : Xt w1 W) => hind.xt (hxw.trans hx))
  have HXW := Lib.hid hxw
  have HB := Lib.hid hB
  have hx1 : Xt w1 w1 := Xt.refl w1
  clear hrc hrd hT hinc hind hxw hx01
  have hHs : w.heap.size = B := HB.out
  have HOC := Lib.hid hokc
  have HOD := Lib.hid hokd
  clear hokc hokd
  have HHC := Lib.hid hc
  have HHD := Lib.hid hd
  have HVC := Lib.hid vc
  have HVD := Lib.hid vd
  clear hc hd vc vd
  go_enter Tryd.func3, Tryd.ntmps3
  go_wp2_with (first
    | (go_at_call 6; refine (awake_any _ (HT.out _ (by assumption))).mono ?_; rintro e w2 ⟨rfl, hq2⟩; have hx2 := hx1.trans hq2; clear hq2 hx1)
    | (go_at_call 7; refine (gnew_any _).mono ?_; rintro e w3 ⟨rfl, hG3, hg3⟩; have hx3 := hx2.trans hg3.xt; have hmb := hx2.sz; clear hg3 hx2)
    | (go_at_call 8; have _q := hx3; clear _q; refine (heavy_any nc c ca capc _ (HIC.out _ (by assumption))).mono ?_; rintro e w4 ⟨rfl, hg4⟩; rw [HHC.out]; have hx4 := hx3.trans hg4.xt; have hG4 := hG3.xt hg4.xt; clear hG3 hx3 hg4)
    | (go_at_call 8; have _q := hx4; clear _q; refine (heavy_any nd d da capd _ (HID.out _ (by assumption))).mono ?_; rintro e w5 ⟨rfl, hg5⟩; rw [HHD.out]; have hx5 := hx4.trans hg5.xt; have hG5 := hG4.xt hg5.xt; clear hG4 hx4 hg5)
    | (go_at_call 9; have _q := hx5; clear _q; refine (gvalid_any nc c ca capc _ HOC.out (HT.out _ (by assumption)) (HIC.out _ (by assumption))).mono ?_; rintro e w6 ⟨rfl, hg6⟩; rw [HVC.out]; have hx6 := hx5.trans hg6; have hG6 := hG5.xt hg6; clear hG5 hx5 hg6)
    | (go_at_call 9; have _q := hx6; clear _q; refine (gvalid_any nd d da capd _ HOD.out (HT.out _ (by assumption)) (HID.out _ (by assumption))).mono ?_; rintro e w7 ⟨rfl, hg7⟩; rw [HVD.out]; have hx7 := hx6.trans hg7; have hG7 := hG6.xt hg7; clear hG6 hx6 hg7; have hck : w7.cell? ⟨B, 0, none⟩ = some (.int .i64 c.kind) := (by have := HRC.out _ hx7; simp [World.cell?, this]))
    | (refine BigFrame.wpList_want (by rfl) (fun K hK => wp_load_row 33 _ rfl B rfl 33 _ (0, 0) _ (HRC.out _ (by assumption)) Tryd.underlying33 rfl (by kernel_rfl) (hK _ _ ?_)); clear hK K)
    | (refine BigFrame.wpList_want (by rfl) (fun K hK => wp_load_row 33 _ rfl (B + 1) rfl 33 _ (0, 0) _ (HRD.out _ (by assumption)) Tryd.underlying33 rfl (by kernel_rfl) (hK _ _ ?_)); clear hK K))
  go_ret
  exact ⟨rfl, HXW.out.trans hx7⟩
set_option maxRecDepth 100000 in
set_option maxHeartbeats 400000 in
theorem full_ck (nc nd : Nat) (rows : Int) (c d : ContT) (ca da : Option Addr) (capc capd : Nat) (w : World) (hT : Tabs w) (_hr0 : -9223372036854775808 ≤ rows) (_hr1 : rows ≤ 9223372036854775807) (hokc : c.ok) (hokd : d.ok) (hinc : ArgsIn w nc (.slice ca c.t.args.length capc) c.t.args) (hind : ArgsIn w nd (.slice da d.t.args.length capd) d.t.args) (hc : heavyB c = false) (hd : heavyB d = false) (vc : gvalidB c = true) (vd : gvalidB d = true) (hk : (c.kind == 0) = true) : Calls Tryd.prog 3 #[.int .i64 rows, contV c ca c.t.args.length capc, contV d da d.t.args.length capd] w fun e w' => e = .returned (.bool true) ∧ Xt w w' := by
  obtain ⟨B, hB⟩ : ∃ B, w.heap.size = B := ⟨_, rfl⟩
  obtain ⟨w0, hw0⟩ : ∃ w0, w.alloc (.cells #[.int .i64 c.kind, .int .i64 c.v.kind, .float .f64 c.v.x, .string c.v.s, .bool c.v.b, .int .i64 c.v.f, .int .i64 c.t.kind, .int .i64 c.t.op, .float .f64 c.t.x, .string c.t.s, .bool c.t.b, .int .i64 c.t.f, .int .i64 c.t.ref.a.1, .int .i64 c.t.ref.a.2, .bool c.t.ref.cf, .bool c.t.ref.rf, .int .i64 c.t.to.a.1, .int .i64 c.t.to.a.2, .bool c.t.to.cf, .bool c.t.to.rf, .slice ca c.t.args.length capc] 33) = w0 := ⟨_, rfl⟩
  obtain ⟨w1, hw1⟩ : ∃ w1, w0.alloc (.cells #[.int .i64 d.kind, .int .i64 d.v.kind, .float .f64 d.v.x, .string d.v.s, .bool d.v.b, .int .i64 d.v.f, .int .i64 d.t.kind, .int .i64 d.t.op, .float .f64 d.t.x, .string d.t.s, .bool d.t.b, .int .i64 d.t.f, .int .i64 d.t.ref.a.1, .int .i64 d.t.ref.a.2, .bool d.t.ref.cf, .bool d.t.ref.rf, .int .i64 d.t.to.a.1, .int .i64 d.t.to.a.2, .bool d.t.to.cf, .bool d.t.to.rf, .slice da d.t.args.length capd] 33) = w1 := ⟨_, rfl⟩
  have hx01 : Xt w0 w1 := by rw [← hw1]; exact (Xt.refl w0).alloc _
  have hxw : Xt w w1 := by rw [← hw1, ← hw0]; exact ((Xt.refl w).alloc _).alloc _
  have hs0 : w0.heap.size = B + 1 := by rw [← hw0, ← hB]; simp
  have hs1 : w1.heap.size = B + 2 := by rw [← hw1]; simp [hs0]
  have hrc : w1.heap[B]? = some (.cells #[.int .i64 c.kind, .int .i64 c.v.kind, .float .f64 c.v.x, .string c.v.s, .bool c.v.b, .int .i64 c.v.f, .int .i64 c.t.kind, .int .i64 c.t.op, .float .f64 c.t.x, .string c.t.s, .bool c.t.b, .int .i64 c.t.f, .int .i64 c.t.ref.a.1, .int .i64 c.t.ref.a.2, .bool c.t.ref.cf, .bool c.t.ref.rf, .int .i64 c.t.to.a.1, .int .i64 c.t.to.a.2, .bool c.t.to.cf, .bool c.t.to.rf, .slice ca c.t.args.length capc] 33 (0, 0)) := (hx01.block B (by omega)).trans (by rw [← hw0, ← hB]; exact (MapKept.heap_alloc w _).1)
  have hrd : w1.heap[B + 1]? = some (.cells #[.int .i64 d.kind, .int .i64 d.v.kind, .float .f64 d.v.x, .string d.v.s, .bool d.v.b, .int .i64 d.v.f, .int .i64 d.t.kind, .int .i64 d.t.op, .float .f64 d.t.x, .string d.t.s, .bool d.t.b, .int .i64 d.t.f, .int .i64 d.t.ref.a.1, .int .i64 d.t.ref.a.2, .bool d.t.ref.cf, .bool d.t.ref.rf, .int .i64 d.t.to.a.1, .int .i64 d.t.to.a.2, .bool d.t.to.cf, .bool d.t.to.rf, .slice da d.t.args.length capd] 33 (0, 0)) := by rw [← hw1, ← hs0]; exact (MapKept.heap_alloc w0 _).1
  have HRC := Lib.hid (fun W (hx : Xt w1 W) => (hx.block B (by omega)).trans hrc)
  have HRD := Lib.hid (fun W (hx : Xt w1 W) => (hx.block (B + 1) (by omega)).trans hrd)
  have HT := Lib.hid (fun W (hx : Xt w1 W) => hT.xt (hxw.trans hx))
  have HIC := Lib.hid (fun W (hx : Xt w1 W) => hinc.xt (hxw.trans hx))
  have HID := Lib.hid (fun W (hx : Xt w1 W) => hind.xt (hxw.trans hx))
  have HXW := Lib.hid hxw
  have HB := Lib.hid hB
  have hx1 : Xt w1 w1 := Xt.refl w1
  clear hrc hrd hT hinc hind hxw hx01
  have hHs : w.heap.size = B := HB.out
  have HOC := Lib.hid hokc
  have HOD := Lib.hid hokd
  clear hokc hokd
  have HHC := Lib.hid hc
  have HHD := Lib.hid hd
  have HVC := Lib.hid vc
  have HVD := Lib.hid vd
  clear hc hd vc vd
  go_enter Tryd.func3, Tryd.ntmps3
  go_wp2_with (first
    | (go_at_call 6; refine (awake_any _ (HT.out _ (by assumption))).mono ?_; rintro e w2 ⟨rfl, hq2⟩; have hx2 := hx1.trans hq2; clear hq2 hx1)
    | (go_at_call 7; refine (gnew_any _).mono ?_; rintro e w3 ⟨rfl, hG3, hg3⟩; have hx3 := hx2.trans hg3.xt; have hmb := hx2.sz; clear hg3 hx2)
    | (go_at_call 8; have _q := hx3; clear _q; refine (heavy_any nc c ca capc _ (HIC.out _ (by assumption))).mono ?_; rintro e w4 ⟨rfl, hg4⟩; rw [HHC.out]; have hx4 := hx3.trans hg4.xt; have hG4 := hG3.xt hg4.xt; clear hG3 hx3 hg4)
    | (go_at_call 8; have _q := hx4; clear _q; refine (heavy_any nd d da capd _ (HID.out _ (by assumption))).mono ?_; rintro e w5 ⟨rfl, hg5⟩; rw [HHD.out]; have hx5 := hx4.trans hg5.xt; have hG5 := hG4.xt hg5.xt; clear hG4 hx4 hg5)
    | (go_at_call 9; have _q := hx5; clear _q; refine (gvalid_any nc c ca capc _ HOC.out (HT.out _ (by assumption)) (HIC.out _ (by assumption))).mono ?_; rintro e w6 ⟨rfl, hg6⟩; rw [HVC.out]; have hx6 := hx5.trans hg6; have hG6 := hG5.xt hg6; clear hG5 hx5 hg6)
    | (go_at_call 9; have _q := hx6; clear _q; refine (gvalid_any nd d da capd _ HOD.out (HT.out _ (by assumption)) (HID.out _ (by assumption))).mono ?_; rintro e w7 ⟨rfl, hg7⟩; rw [HVD.out]; have hx7 := hx6.trans hg7; have hG7 := hG6.xt hg7; clear hG6 hx6 hg7; have hck : w7.cell? ⟨B, 0, none⟩ = some (.int .i64 c.kind) := (by have := HRC.out _ hx7; simp [World.cell?, this]))
    | (refine BigFrame.wpList_want (by rfl) (fun K hK => wp_load_row 33 _ rfl B rfl 33 _ (0, 0) _ (HRC.out _ (by assumption)) Tryd.underlying33 rfl (by kernel_rfl) (hK _ _ ?_)); clear hK K)
    | (refine BigFrame.wpList_want (by rfl) (fun K hK => wp_load_row 33 _ rfl (B + 1) rfl 33 _ (0, 0) _ (HRD.out _ (by assumption)) Tryd.underlying33 rfl (by kernel_rfl) (hK _ _ ?_)); clear hK K))
  go_ret
  exact ⟨rfl, HXW.out.trans hx7⟩
end Go.Proofs.YtfpdleljhbkehaaDoor
