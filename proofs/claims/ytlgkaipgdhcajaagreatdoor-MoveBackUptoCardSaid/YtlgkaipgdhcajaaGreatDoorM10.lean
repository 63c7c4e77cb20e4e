/- quadrillelaw22's small functions; Rows; the iterators of Nodes and Cells. -/
import Derived.Test.YtlgkaipgdhcajaaGreatDoorM9
namespace Go.Proofs.YtlgkaipgdhcajaaGreatDoor
open Go.RowKit Go.Sort

set_option maxRecDepth 100000 in
theorem at_any (a : Ad) (w : World) : Calls Tryz.prog 17 #[.int .i64 a.1, .int .i64 a.2] w fun e w' => e = .returned (.agg #[.int .i64 a.1, .int .i64 a.2]) ∧ Gr w w' := by
  go_enter Tryz.func17, Tryz.ntmps17
  go_wp2
  (try simp only [Exit.inBlock, Exit.then])
  refine bodyPost_ret (results_cell_row rfl _ _ w.heap.size _ _ _ _ rfl (heap_alloc_new _ _) Tryz.underlying24 rfl (by kernel_rfl)) rfl ?_
  exact ⟨rfl, (Gr.refl _).alloc _⟩
def refT (a : Ad) : NodeT := .mk 5 0 0 ⟨#[]⟩ false 0 ⟨a, false, false⟩ zR []
set_option maxRecDepth 100000 in
set_option maxHeartbeats 2000000 in
theorem ref_any (a : Ad) (w : World) : Calls Tryz.prog 45 #[.agg #[.int .i64 a.1, .int .i64 a.2]] w fun e w' => e = .returned (nodeV (refT a) none 0 0) ∧ Xt w w' := by
  go_enter Tryz.func45, Tryz.ntmps45
  go_wp2
  (try simp only [Exit.inBlock, Exit.then])
  refine bodyPost_ret (results_cell_row rfl _ _ (w.heap.size + 1) _ _ _ _ rfl (by
    have := heap_alloc_new (w.alloc (.cells #[.int .i64 a.1, .int .i64 a.2] 24))
    simpa using this _) Tryz.underlying29 rfl (by kernel_rfl)) rfl ?_
  exact ⟨rfl, ((Xt.refl _).alloc _).alloc _⟩
theorem rows_any (at_ n : Int) (gb mb : Nat) (M : GM) (w : World) (hG : GridIs w gb mb M) (hT : Tabs w) (hO : GOk (er M)) :
    Calls Tryz.prog 46 #[.pointer (some ⟨gb, 0, none⟩), .int .i64 at_, .int .i64 n] w (BrR false at_ n M w) := by
  have HB := Lib.hid (brought_any false at_ n gb mb M w hG hT hO)
  go_enter Tryz.func46, Tryz.ntmps46
  go_wp2_with (first | (go_at_call 82; refine (HB.out).mono ?_; rintro e w1 ⟨hx, (⟨h1, rfl⟩ | ⟨h1, (⟨h2, rfl⟩ | ⟨h2, go, mo, Mo, rfl, h3⟩)⟩)⟩))
  · go_ret2
    exact ⟨hx, Or.inl ⟨h1, rfl⟩⟩
  · go_ret2
    exact ⟨hx, Or.inr ⟨h1, Or.inl ⟨h2, rfl⟩⟩⟩
  · go_ret2
    exact ⟨hx, Or.inr ⟨h1, Or.inr ⟨h2, go, mo, Mo, rfl, h3⟩⟩⟩
/-- What goes over a formula's nodes: a closure over a copy. -/
def NodesR (t : NodeT) (w : World) (e : Ending) (w' : World) : Prop :=
  ∃ b a' n, e = .returned (.func (.func 85) #[] #[.pointer (some ⟨b, 0, none⟩)]) ∧ w.heap.size ≤ b ∧ w'.heap[b]? = some (.cells (nodeC (copyT t) (.slice a' t.args.length t.args.length)).toArray 29 (0, 0)) ∧
    ArgsIn w' n (.slice a' t.args.length t.args.length) (copyL t.args) ∧ Xt w w'
set_option maxRecDepth 100000 in
set_option maxHeartbeats 2000000 in
theorem nodes_any (n : Nat) (t : NodeT) (a : Option Addr) (cap : Nat) (w : World) (hsm : smallT t) (hin : ArgsIn w n (.slice a t.args.length cap) t.args) :
    Calls Tryz.prog 48 #[nodeV t a t.args.length cap] w (NodesR t w) := by
  obtain ⟨w0, hw0, hg0, hs0, hN⟩ := boxN w t a t.args.length cap 29
  obtain ⟨c0, c1, c2, c3, c4, c5, c6, c7, c8, c9, c10, c11, c12, c13, c14⟩ := hN
  simp only [Nat.zero_add] at c0 c1 c2 c3 c4 c5 c6 c7 c8 c9 c10 c11 c12 c13 c14
  have HC := Lib.hid (fcopyS_any n t a cap w0 hsm (hin.xt hg0.xt))
  have HG0 := Lib.hid hg0
  clear hg0 hsm hin
  go_enter Tryz.func48, Tryz.ntmps48
  go_wp2_with (first | (go_at_call 7; refine (HC.out).mono ?_; rintro e w1 ⟨a', rfl, hS, hx⟩; have HS := Lib.hid hS; have HX := Lib.hid hx; clear hS hx))
  go_ret
  have hx2 : Xt w w1 := HG0.out.xt.trans HX.out
  refine ⟨w1.heap.size, a', n, rfl, hx2.size, ?_, (HS.out.own.args).xt ((Xt.refl _).alloc _), hx2.alloc _⟩
  obtain ⟨k, o, x, s, bb, f, r, q, l⟩ := t
  exact (MapKept.heap_alloc w1 _).1
set_option maxRecDepth 100000 in
theorem cells_any (x : ArT) (w : World) : Calls Tryz.prog 49 #[arT x] w fun e w' => e = .returned (.func (.func 87) #[] #[.pointer (some ⟨w.heap.size, 0, none⟩)]) ∧ w' = w.alloc (.cells #[.int .i64 x.a, .int .i64 x.b, .int .i64 x.c, .int .i64 x.d] 62) := by
  go_enter Tryz.func49, Tryz.ntmps49
  go_wp2
  go_ret
  exact ⟨rfl, rfl⟩
end Go.Proofs.YtlgkaipgdhcajaaGreatDoor
