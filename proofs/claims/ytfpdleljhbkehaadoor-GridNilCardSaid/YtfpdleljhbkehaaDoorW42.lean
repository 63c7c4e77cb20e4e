import Derived.Test.YtfpdleljhbkehaaDoorW41
import Derived.Test.YtfpdleljhbkehaaDoorA8
import Derived.Deep.RegionHeld3
namespace Go.Proofs.YtfpdleljhbkehaaDoor
open Go.RowKit Go.Sort Go.Maps Go.Shelf
attribute [local go_sem] Oper.semAt_some

/-! ### GridNil -/
set_option maxRecDepth 100000 in
set_option maxHeartbeats 1000000 in
theorem nil_hc (nc : Nat) (at_ : Ad) (c : ContT) (x : Ar) (ca : Option Addr) (capc : Nat) (w : World) (hT : Tabs w) (hinc : ArgsIn w nc (.slice ca c.t.args.length capc) c.t.args) (hc : heavyB c = true) : Calls Tryd.prog 5 #[adW at_, contV c ca c.t.args.length capc, arV x] w fun e w' => e = .returned (.bool true) ∧ Xt w w' := by
  obtain ⟨B, hB⟩ : ∃ B, w.heap.size = B := ⟨_, rfl⟩
  obtain ⟨w0, hw0⟩ : ∃ w0, w.alloc (.cells #[.int .i64 at_.1, .int .i64 at_.2] 26) = w0 := ⟨_, rfl⟩
  obtain ⟨w1, hw1⟩ : ∃ w1, w0.alloc (.cells #[.int .i64 c.kind, .int .i64 c.v.kind, .float .f64 c.v.x, .string c.v.s, .bool c.v.b, .int .i64 c.v.f, .int .i64 c.t.kind, .int .i64 c.t.op, .float .f64 c.t.x, .string c.t.s, .bool c.t.b, .int .i64 c.t.f, .int .i64 c.t.ref.a.1, .int .i64 c.t.ref.a.2, .bool c.t.ref.cf, .bool c.t.ref.rf, .int .i64 c.t.to.a.1, .int .i64 c.t.to.a.2, .bool c.t.to.cf, .bool c.t.to.rf, .slice ca c.t.args.length capc] 33) = w1 := ⟨_, rfl⟩
  obtain ⟨w2, hw2⟩ : ∃ w2, w1.alloc (.cells #[.int .i64 x.1.1, .int .i64 x.1.2, .int .i64 x.2.1, .int .i64 x.2.2] 55) = w2 := ⟨_, rfl⟩
  have hx01 : Xt w0 w1 := by rw [← hw1]; exact (Xt.refl w0).alloc _
  have hx12 : Xt w1 w2 := by rw [← hw2]; exact (Xt.refl w1).alloc _
  have hxw : Xt w w2 := by rw [← hw2, ← hw1, ← hw0]; exact (((Xt.refl w).alloc _).alloc _).alloc _
  have hs0 : w0.heap.size = B + 1 := by rw [← hw0, ← hB]; simp
  have hs1 : w1.heap.size = B + 2 := by rw [← hw1]; simp [hs0]
  have hs2 : w2.heap.size = B + 3 := by rw [← hw2]; simp [hs1]
  have hra : w2.heap[B]? = some (.cells #[.int .i64 at_.1, .int .i64 at_.2] 26 (0, 0)) := ((hx01.trans hx12).block B (by omega)).trans (by rw [← hw0, ← hB]; exact (MapKept.heap_alloc w _).1)
  have hrc : w2.heap[B + 1]? = some (.cells #[.int .i64 c.kind, .int .i64 c.v.kind, .float .f64 c.v.x, .string c.v.s, .bool c.v.b, .int .i64 c.v.f, .int .i64 c.t.kind, .int .i64 c.t.op, .float .f64 c.t.x, .string c.t.s, .bool c.t.b, .int .i64 c.t.f, .int .i64 c.t.ref.a.1, .int .i64 c.t.ref.a.2, .bool c.t.ref.cf, .bool c.t.ref.rf, .int .i64 c.t.to.a.1, .int .i64 c.t.to.a.2, .bool c.t.to.cf, .bool c.t.to.rf, .slice ca c.t.args.length capc] 33 (0, 0)) := (hx12.block (B + 1) (by omega)).trans (by rw [← hw1, ← hs0]; exact (MapKept.heap_alloc w0 _).1)
  have hrx : w2.heap[B + 2]? = some (.cells #[.int .i64 x.1.1, .int .i64 x.1.2, .int .i64 x.2.1, .int .i64 x.2.2] 55 (0, 0)) := by rw [← hw2, ← hs1]; exact (MapKept.heap_alloc w1 _).1
  have HRA := Lib.hid (fun W (hx : Xt w2 W) => (hx.block B (by omega)).trans hra)
  have HRC := Lib.hid (fun W (hx : Xt w2 W) => (hx.block (B + 1) (by omega)).trans hrc)
  have HRX := Lib.hid (fun W (hx : Xt w2 W) => (hx.block (B + 2) (by omega)).trans hrx)
  have HT := Lib.hid (fun W (hx : Xt w2 W) => hT.xt (hxw.trans hx))
  have HIC := Lib.hid (fun W (hx : Xt w2 W) => hinc.xt (hxw.trans hx))
  have HXW := Lib.hid hxw
  have HB := Lib.hid hB
  have hx2 : Xt w2 w2 := Xt.refl w2
  clear hra hrc hrx hT hinc hxw hx01 hx12
  have hHs : w.heap.size = B := HB.out
  have HHC := Lib.hid hc
  clear hc
  go_enter Tryd.func5, Tryd.ntmps5
  go_wp2_with (first
    | (go_at_call 6; refine (awake_any _ (HT.out _ (by assumption))).mono ?_; rintro e w3 ⟨rfl, hq3⟩; have hx3 := hx2.trans hq3; have hs3 := hq3.sz; clear hq3 hx2)
    | (go_at_call 8; refine (heavy_any nc c ca capc _ (HIC.out _ (by first | assumption | exact hx3.alloc _))).mono ?_; rintro e w4 ⟨rfl, hg4⟩; rw [HHC.out]; have hx4 := (hx3.alloc _).trans hg4.xt; clear hx3 hg4)
    | (refine BigFrame.wpList_want (by rfl) (fun K hK => wp_load_row 33 _ rfl (B + 1) rfl 33 _ (0, 0) _ (HRC.out _ (by first | assumption | exact hx3.alloc _)) Tryd.underlying33 rfl (by kernel_rfl) (hK _ _ ?_)); clear hK K))
  go_ret
  exact ⟨rfl, HXW.out.trans hx4⟩

set_option maxRecDepth 100000 in
set_option maxHeartbeats 8000000 in
theorem nil_lc (nc : Nat) (at_ : Ad) (c : ContT) (x : Ar) (ca : Option Addr) (capc : Nat) (w : World) (hT : Tabs w) (hinc : ArgsIn w nc (.slice ca c.t.args.length capc) c.t.args) (hc : heavyB c = false) : Calls Tryd.prog 5 #[adW at_, contV c ca c.t.args.length capc, arV x] w fun e w' => e = .returned (.bool true) ∧ Xt w w' := by
  obtain ⟨B, hB⟩ : ∃ B, w.heap.size = B := ⟨_, rfl⟩
  obtain ⟨w0, hw0⟩ : ∃ w0, w.alloc (.cells #[.int .i64 at_.1, .int .i64 at_.2] 26) = w0 := ⟨_, rfl⟩
  obtain ⟨w1, hw1⟩ : ∃ w1, w0.alloc (.cells #[.int .i64 c.kind, .int .i64 c.v.kind, .float .f64 c.v.x, .string c.v.s, .bool c.v.b, .int .i64 c.v.f, .int .i64 c.t.kind, .int .i64 c.t.op, .float .f64 c.t.x, .string c.t.s, .bool c.t.b, .int .i64 c.t.f, .int .i64 c.t.ref.a.1, .int .i64 c.t.ref.a.2, .bool c.t.ref.cf, .bool c.t.ref.rf, .int .i64 c.t.to.a.1, .int .i64 c.t.to.a.2, .bool c.t.to.cf, .bool c.t.to.rf, .slice ca c.t.args.length capc] 33) = w1 := ⟨_, rfl⟩
  obtain ⟨w2, hw2⟩ : ∃ w2, w1.alloc (.cells #[.int .i64 x.1.1, .int .i64 x.1.2, .int .i64 x.2.1, .int .i64 x.2.2] 55) = w2 := ⟨_, rfl⟩
  have hx01 : Xt w0 w1 := by rw [← hw1]; exact (Xt.refl w0).alloc _
  have hx12 : Xt w1 w2 := by rw [← hw2]; exact (Xt.refl w1).alloc _
  have hxw : Xt w w2 := by rw [← hw2, ← hw1, ← hw0]; exact (((Xt.refl w).alloc _).alloc _).alloc _
  have hs0 : w0.heap.size = B + 1 := by rw [← hw0, ← hB]; simp
  have hs1 : w1.heap.size = B + 2 := by rw [← hw1]; simp [hs0]
  have hs2 : w2.heap.size = B + 3 := by rw [← hw2]; simp [hs1]
  have hra : w2.heap[B]? = some (.cells #[.int .i64 at_.1, .int .i64 at_.2] 26 (0, 0)) := ((hx01.trans hx12).block B (by omega)).trans (by rw [← hw0, ← hB]; exact (MapKept.heap_alloc w _).1)
  have hrc : w2.heap[B + 1]? = some (.cells #[.int .i64 c.kind, .int .i64 c.v.kind, .float .f64 c.v.x, .string c.v.s, .bool c.v.b, .int .i64 c.v.f, .int .i64 c.t.kind, .int .i64 c.t.op, .float .f64 c.t.x, .string c.t.s, .bool c.t.b, .int .i64 c.t.f, .int .i64 c.t.ref.a.1, .int .i64 c.t.ref.a.2, .bool c.t.ref.cf, .bool c.t.ref.rf, .int .i64 c.t.to.a.1, .int .i64 c.t.to.a.2, .bool c.t.to.cf, .bool c.t.to.rf, .slice ca c.t.args.length capc] 33 (0, 0)) := (hx12.block (B + 1) (by omega)).trans (by rw [← hw1, ← hs0]; exact (MapKept.heap_alloc w0 _).1)
  have hrx : w2.heap[B + 2]? = some (.cells #[.int .i64 x.1.1, .int .i64 x.1.2, .int .i64 x.2.1, .int .i64 x.2.2] 55 (0, 0)) := by rw [← hw2, ← hs1]; exact (MapKept.heap_alloc w1 _).1
  have HRA := Lib.hid (fun W (hx : Xt w2 W) => (hx.block B (by omega)).trans hra)
  have HRC := Lib.hid (fun W (hx : Xt w2 W) => (hx.block (B + 1) (by omega)).trans hrc)
  have HRX := Lib.hid (fun W (hx : Xt w2 W) => (hx.block (B + 2) (by omega)).trans hrx)
  have HT := Lib.hid (fun W (hx : Xt w2 W) => hT.xt (hxw.trans hx))
  have HIC := Lib.hid (fun W (hx : Xt w2 W) => hinc.xt (hxw.trans hx))
  have HXW := Lib.hid hxw
  have HB := Lib.hid hB
  have hx2 : Xt w2 w2 := Xt.refl w2
  clear hra hrc hrx hT hinc hxw hx01 hx12
  have hHs : w.heap.size = B := HB.out
  have HHC := Lib.hid hc
  clear hc
  refine (callsIn_wide (n := 25)).1 ?_
  have h1 : 1 ≤ 25 := by omega
  have h24 : 1 ≤ 24 := by omega
  have hq := fun w f lb => run_eql_func_nil (P := Tryd.prog) w 49 _ _ _ (.func f) #[] lb Tryd.underlying49
  have hf0 : Fence.wide.fn 6 := trivial
  have hf1 : Fence.wide.fn 8 := trivial
  have hf2 : Fence.wide.fn 14 := trivial
  have hf3 : Fence.wide.fn 17 := trivial
  have hf4 : Fence.wide.fn 18 := trivial
  have hf5 : Fence.wide.fn 11 := trivial
  have hf6 : Fence.wide.fn 20 := trivial
  have hf7 : Fence.wide.fn 19 := trivial
  have hf8 : Fence.wide.fn 13 := trivial
  have hf9 : Fence.wide.fn 21 := trivial
  have hf10 : Fence.wide.fn 7 := trivial
  have hf11 : Fence.wide.fn 15 := trivial
  have hf12 : Fence.wide.fn 16 := trivial
  refine callsIn_of_wp_marks Tryd.func5 rfl trivial ?_ rfl
  simp only [Tryd.ntmps5, List.size_toArray, List.length_cons, List.length_nil, Nat.reduceAdd, Nat.reduceSub, Array.replicate_succ, Array.replicate_zero, List.push_toArray, List.append_toArray, List.nil_append, List.cons_append]
  gi_wp2_with (first
    | (gi_at_call 6; refine (callsIn_wide.2 (awake_any _ (HT.out _ (by assumption)))).mono ?_; rintro e w3 ⟨rfl, hq3⟩; have hx3 := hx2.trans hq3; clear hq3 hx2)
    | (gi_at_call 8; refine (callsIn_wide.2 (heavy_any nc c ca capc _ (HIC.out _ (by first | assumption | exact hx3.alloc _)))).mono ?_; rintro e w4 ⟨rfl, hg4⟩; rw [HHC.out]; have hx4 := (hx3.alloc _).trans hg4.xt; have hn4 := (hg4.xt.block w3.heap.size (by simp)).trans (World.alloc_heap_new w3 _); clear hx3 hg4)
    | (refine BigFrame.wpListIn_want (by rfl) (fun K hK => wpIn_load_row 33 _ rfl (B + 1) rfl 33 _ (0, 0) _ (HRC.out _ (by first | assumption | exact hx3.alloc _)) Tryd.underlying33 rfl (by kernel_rfl) (hK _ _ ?_)); clear hK K)
    | (refine BigFrame.wpListIn_want (by rfl) (fun K hK => wpIn_load_row 55 _ rfl (B + 2) rfl 55 _ (0, 0) _ (HRX.out _ ((hx4.alloc _).alloc _)) Tryd.underlying55 rfl (by kernel_rfl) (hK _ _ ?_)); clear hK K)
    | (gi_at_call 14; refine (all_in 24 (by omega) _ _).mono ?_; rintro e w' ⟨rfl, rfl⟩)
    | (gi_at_call 17; refine (gin_in 24 (by omega) _ x _).mono ?_; rintro e w' ⟨rfl, rfl⟩))
  generalize hW0 : World.alloc _ _ = W0
  have hsz : W0.heap.size = w4.heap.size + 5 := by rw [← hW0]; simp
  have hx0 : Xt w4 W0 := by rw [← hW0]; exact (((((Xt.refl w4).alloc _).alloc _).alloc _).alloc _).alloc _
  have hb1 : W0.heap[w4.heap.size]? = some (.cells #[.pointer none] 35 (0, 0)) := by
    rw [← hW0]
    exact (((((Xt.refl (w4.alloc _)).alloc _).alloc _).alloc _).alloc _).block _ (by simp) |>.trans (MapKept.heap_alloc w4 _).1
  have hb4 : W0.heap[w4.heap.size + 1 + 1 + 1]? = some (.cells #[.pointer none] 35 (0, 0)) := by
    rw [← hW0]
    have e1 := (MapKept.heap_alloc (((w4.alloc (.cells #[.pointer none] 35)).alloc (.cells #[.func (.func 31) #[] #[]] 70)).alloc (.cells #[.int .i64 x.1.1, .int .i64 x.1.2, .int .i64 x.2.1, .int .i64 x.2.2] 55)) (.cells #[.pointer none] 35)).1
    simp only [World.size_alloc] at e1
    exact ((Xt.refl (World.alloc _ _)).alloc _).block _ (by simp) |>.trans e1
  have hcg1 : W0.cell? ⟨w4.heap.size, 0, none⟩ = some (.pointer none) := by simp [World.cell?, hb1]
  have hn0 := (hx0.block w3.heap.size (Array.getElem?_eq_some_iff.1 hn4).1).trans hn4
  have hx20 : Xt w2 W0 := hx4.trans hx0
  have HLE := Lib.hid (Nat.le_trans HXW.out.size hx20.size)
  clear hW0 hb1 hn4 hx4 hx0
  refine wpIn_rangeFunc_ownH (F := Fence.wide) rfl (by omega) (gf := 50) (lb := #[.pointer (some ⟨w4.heap.size, 0, none⟩), .pointer (some ⟨w4.heap.size + 1, 0, none⟩)]) rfl trivial (enters_of Tryd.func50 (by kernel_rfl) rfl)
    (some1_none Unit (fun _ => #[undef, undef]) KeepsWalks 24 w4.heap.size (w4.heap.size + 1) W0 (by omega) hcg1) walksK_t walksK_b (Below.refl _ _) (fun _ => rfl)
    (fun _ W => Below W0.heap.size W0 W) (fun _ _ _ => False)
    (ownFrom_below (Nat.le_refl _) (Nat.le_refl _)) (fun _ _ _ _ _ hs _ _ => hs) (Below.refl _ _) (fun _ _ _ => True) (fun _ _ _ _ _ _ _ _ _ => trivial) ?assign1 ?body1 ?done1 ?stop1
  case assign1 =>
    intro l pre y W K hB hK
    gi_wp2
    exact hK _ _ (KeepsFrom.refl _ _) (KeepsWalks.refl _) hB trivial
  case body1 => exact fun _ _ _ _ _ _ _ _ _ h => absurd h (Nat.not_lt_zero _)
  case stop1 => exact fun _ _ _ _ _ _ h _ => h.elim
  case done1 =>
    rintro D xs W hD hS hB hK
    have hb5 := (hB.block _ (Array.getElem?_eq_some_iff.1 hb4).1).trans hb4
    have hcg2 : W.cell? ⟨w4.heap.size + 1 + 1 + 1, 0, none⟩ = some (.pointer none) := by simp [World.cell?, hb5]
    have hn1 := (hB.block w3.heap.size (Array.getElem?_eq_some_iff.1 hn0).1).trans hn0
    have hx21 : Xt w2 W := hx20.trans hB
    have hszW := hB.size
    have hb6 := (Array.getElem?_eq_some_iff.1 hb5).1
    clear hn0 hb4 hb5 hx20 hB hS hcg1
    gi_wp2
    refine wpIn_rangeFunc_ownH (F := Fence.wide) rfl (by omega) (gf := 50) (lb := #[.pointer (some ⟨w4.heap.size + 1 + 1 + 1, 0, none⟩), .pointer (some ⟨w4.heap.size + 1 + 1 + 2, 0, none⟩)]) rfl trivial (enters_of Tryd.func50 (by kernel_rfl) rfl)
      (some1_none Unit (fun _ => #[undef, undef]) KeepsWalks 24 (w4.heap.size + 1 + 1 + 1) (w4.heap.size + 1 + 1 + 2) W (by omega) hcg2) walksK_t walksK_b (Below.refl _ _) (fun _ => rfl)
      (fun _ W' => Below W.heap.size W W') (fun _ _ _ => False)
      (ownFrom_below (Nat.le_refl _) (Nat.le_refl _)) (fun _ _ _ _ _ hs _ _ => hs) (Below.refl _ _) (fun _ _ _ => True) (fun _ _ _ _ _ _ _ _ _ => trivial) ?assign2 ?body2 ?done2 ?stop2
    case assign2 =>
      intro l pre y W K hB hK
      gi_wp2
      exact hK _ _ (KeepsFrom.refl _ _) (KeepsWalks.refl _) hB trivial
    case body2 => exact fun _ _ _ _ _ _ _ _ _ h => absurd h (Nat.not_lt_zero _)
    case stop2 => exact fun _ _ _ _ _ _ h _ => h.elim
    case done2 =>
      rintro D2 xs W2 hD2 hS hB hK2
      have HK1 := Lib.hid ((hB.block D (Array.getElem?_eq_some_iff.1 hK).1).trans hK)
      have HK2 := Lib.hid hK2
      have HDD := Lib.hid (show D < D2 from Nat.lt_of_lt_of_le (Array.getElem?_eq_some_iff.1 hK).1 hD2)
      have HD := Lib.hid hD
      have hn2 := (hB.block w3.heap.size (Array.getElem?_eq_some_iff.1 hn1).1).trans hn1
      have HN := Lib.hid (fun W' (hx : Xt W2 W') => (hx.block _ (Array.getElem?_eq_some_iff.1 hn2).1).trans hn2)
      have HXX := Lib.hid (hx21.trans hB)
      have hX : Xt W2 W2 := Xt.refl W2
      clear hK hK2 hn1 hn2 hx21 hB hS hD hD2 hcg2 hb6 hszW
      gi_wp2_with (first
        | (gi_at_call 18; refine (callsIn_wide.2 (boundsNil_any _)).mono ?_; rintro e w5 ⟨rfl, hq⟩; replace hX := hX.trans hq; clear hq; have hn9 := HN.out _ (hX.alloc (.cells #[.int .i64 0, .int .i64 0, .int .i64 0, .int .i64 0] 55)); have hnc : (w5.alloc (.cells #[.int .i64 0, .int .i64 0, .int .i64 0, .int .i64 0] 55)).cell? ⟨w3.heap.size, 0, none⟩ = some (.int .i64 0) := (World.cell?_of_block (w := w5.alloc (.cells #[.int .i64 0, .int .i64 0, .int .i64 0, .int .i64 0] 55)) (a := ⟨w3.heap.size, 0, none⟩) rfl).trans (by simp only [World.cell?, hn9]; rfl); clear hn9)
        | (gi_at_call 11; refine (callsIn_wide.2 (gputNil_any at_ c ca capc _)).mono ?_; rintro e w6 ⟨rfl, hq⟩; replace hX := (hX.alloc _).trans hq; clear hq)
        | (gi_at_call 20; refine (callsIn_wide.2 (ggetNil_any at_ _)).mono ?_; rintro e w7 ⟨rfl, hq⟩; replace hX := hX.trans hq; clear hq)
        | (gi_at_call 19; refine (callsIn_wide.2 (just0_any _)).mono ?_; rintro e w8 ⟨rfl, hq⟩; replace hX := hX.trans hq; clear hq)
        | (gi_at_call 13; refine (callsIn_wide.2 (glenNil_any _)).mono ?_; rintro e w9 ⟨rfl, rfl⟩)
        | (gi_at_call 21; refine (callsIn_wide.2 (gcloneNil_any _)).mono ?_; rintro e w10 ⟨rfl, hq⟩; replace hX := hX.trans hq; clear hq)
        | (gi_at_call 7; refine (callsIn_wide.2 (gnew_any _)).mono ?_; rintro e w11 ⟨rfl, -, hq⟩; replace hX := hX.trans hq.xt; clear hq)
        | (gi_at_call 15; refine (callsIn_wide.2 (gequalNil_any _ _)).mono ?_; rintro e w12 ⟨rfl, hq⟩; replace hX := hX.trans hq; clear hq)
        | (gi_at_call 16; refine (callsIn_wide.2 (gputsNil_any _ _)).mono ?_; rintro e w13 ⟨rfl, hq⟩; replace hX := hX.trans hq; clear hq)
        | (refine BigFrame.wpListIn_want (by rfl) (fun K hK => wpIn_load_row 33 _ rfl (B + 1) rfl 33 _ (0, 0) _ (HRC.out _ (HXX.out.trans (by first | exact hX | exact hX.alloc _))) Tryd.underlying33 rfl (by kernel_rfl) (hK _ _ ?_)); clear hK K)
        | (refine BigFrame.wpListIn_want (by rfl) (fun K hK => wpIn_load_row 26 _ rfl B rfl 26 _ (0, 0) _ (HRA.out _ (HXX.out.trans (by first | exact hX | exact hX.alloc _))) Tryd.underlying26 rfl (by kernel_rfl) (hK _ _ ?_)); clear hK K))
      have hk2 := (hX.block D2 (Array.getElem?_eq_some_iff.1 HK2.out).1).trans HK2.out
      have hk1 := (hX.block D (Array.getElem?_eq_some_iff.1 HK1.out).1).trans HK1.out
      have hDD := HDD.out
      have hD := HD.out
      have hle := HLE.out
      have hk1' := (World.putObj_heap_other (w := w13) (o := .deferred none) (show D ≠ D2 by omega)).trans hk1
      refine ⟨by simp, .inl ⟨_, _, rfl, run_takeDeferred hk2, ?_⟩⟩
      refine ⟨by simp, .inl ⟨_, _, rfl, run_takeDeferred hk1', ?_⟩⟩
      refine ⟨_, results_tmp rfl _ _ _, rfl, ?_⟩
      have hfin : Below w.heap.size w w13 := HXW.out.trans (HXX.out.trans hX)
      exact Below.trans (Below.trans hfin (belowK_b (w := w) (Nat.le_refl _) w13 D2 _ _ (by omega) hk2 rfl rfl)) (belowK_b (w := w) (Nat.le_refl _) _ D _ _ (by omega) hk1' rfl rfl)
theorem nil_any (nc : Nat) (at_ : Ad) (c : ContT) (x : Ar) (ca : Option Addr) (capc : Nat) (w : World) (hT : Tabs w) (hinc : ArgsIn w nc (.slice ca c.t.args.length capc) c.t.args) : Calls Tryd.prog 5 #[adW at_, contV c ca c.t.args.length capc, arV x] w fun e w' => e = .returned (.bool true) ∧ Xt w w' := by
  cases hc : heavyB c
  · exact nil_lc nc at_ c x ca capc w hT hinc hc
  · exact nil_hc nc at_ c x ca capc w hT hinc hc
end Go.Proofs.YtfpdleljhbkehaaDoor
