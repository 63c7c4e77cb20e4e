import Derived.Test.YtdoeejhdenifpaaGreatDoorZ1
import Derived.Test.YtdoeejhdenifpaaGreatDoorM9
import Derived.Test.YtdoeejhdenifpaaGreatDoorA8
import Derived.Test.YtdoeejhdenifpaaGreatDoorA9
import Derived.Test.YtdoeejhdenifpaaGreatDoorA10
import Derived.StillTailTactics
import Derived.Test.YtdoeejhdenifpaaGreatDoorA2
import Derived.Lib.Bytealg
import Derived.Lib.Hide
/- quadrillelaw22's small functions; Rows; the iterators of Nodes and Cells. -/
namespace Go.Proofs.YtdoeejhdenifpaaGreatDoor
open Go.RowKit Go.Sort

set_option maxRecDepth 100000 in
theorem at_any (a : Ad) (w : World) : Calls Tryz.prog 14 #[.int .i64 a.1, .int .i64 a.2] w fun e w' => e = .returned (.agg #[.int .i64 a.1, .int .i64 a.2]) ∧ Gr w w' := by
  go_enter Tryz.func14, Tryz.ntmps14
  go_wp2
  (try simp only [Exit.inBlock, Exit.then])
  refine bodyPost_ret (results_cell_row rfl _ _ w.heap.size _ _ _ _ rfl (heap_alloc_new _ _) Tryz.underlying24 rfl (by kernel_rfl)) rfl ?_
  exact ⟨rfl, (Gr.refl _).alloc _⟩
def refT (a : Ad) : NodeT := .mk 5 0 0 ⟨#[]⟩ false 0 ⟨a, false, false⟩ zR []
set_option maxRecDepth 100000 in
set_option maxHeartbeats 2000000 in
theorem ref_any (a : Ad) (w : World) : Calls Tryz.prog 36 #[.agg #[.int .i64 a.1, .int .i64 a.2]] w fun e w' => e = .returned (nodeV (refT a) none 0 0) ∧ Xt w w' := by
  go_enter Tryz.func36, Tryz.ntmps36
  go_wp2
  (try simp only [Exit.inBlock, Exit.then])
  refine bodyPost_ret (results_cell_row rfl _ _ (w.heap.size + 1) _ _ _ _ rfl (by
    have := heap_alloc_new (w.alloc (.cells #[.int .i64 a.1, .int .i64 a.2] 24))
    simpa using this _) Tryz.underlying49 rfl (by kernel_rfl)) rfl ?_
  exact ⟨rfl, ((Xt.refl _).alloc _).alloc _⟩
theorem rows_any (at_ n : Int) (gb mb : Nat) (M : GM) (w : World) (hG : GridIs w gb mb M) (hT : Tabs w) (hO : GOk (er M)) :
    Calls Tryz.prog 33 #[.pointer (some ⟨gb, 0, none⟩), .int .i64 at_, .int .i64 n] w (BrR false at_ n M w) := by
  have HB := Lib.hid (brought_any false at_ n gb mb M w hG hT hO)
  go_enter Tryz.func33, Tryz.ntmps33
  go_wp2_with (first | (go_at_call 73; refine (HB.out).mono ?_; rintro e w1 ⟨hx, (⟨h1, rfl⟩ | ⟨h1, (⟨h2, rfl⟩ | ⟨h2, go, mo, Mo, rfl, h3⟩)⟩)⟩))
  · go_ret2
    exact ⟨hx, Or.inl ⟨h1, rfl⟩⟩
  · go_ret2
    exact ⟨hx, Or.inr ⟨h1, Or.inl ⟨h2, rfl⟩⟩⟩
  · go_ret2
    exact ⟨hx, Or.inr ⟨h1, Or.inr ⟨h2, go, mo, Mo, rfl, h3⟩⟩⟩
/-- What goes over a formula's nodes: a closure over a copy. -/
def NodesR (t : NodeT) (w : World) (e : Ending) (w' : World) : Prop :=
  ∃ b a' n, e = .returned (.func (.func 77) #[] #[.pointer (some ⟨b, 0, none⟩)]) ∧ w.heap.size ≤ b ∧ w'.heap[b]? = some (.cells (nodeC (copyT t) (.slice a' t.args.length t.args.length)).toArray 49 (0, 0)) ∧
    ArgsIn w' n (.slice a' t.args.length t.args.length) (copyL t.args) ∧ Xt w w'
set_option maxRecDepth 100000 in
set_option maxHeartbeats 2000000 in
theorem nodes_any (n : Nat) (t : NodeT) (a : Option Addr) (cap : Nat) (w : World) (hsm : smallT t) (hin : ArgsIn w n (.slice a t.args.length cap) t.args) :
    Calls Tryz.prog 38 #[nodeV t a t.args.length cap] w (NodesR t w) := by
  obtain ⟨w0, hw0, hg0, hs0, hN⟩ := boxN w t a t.args.length cap 49
  obtain ⟨c0, c1, c2, c3, c4, c5, c6, c7, c8, c9, c10, c11, c12, c13, c14⟩ := hN
  simp only [Nat.zero_add] at c0 c1 c2 c3 c4 c5 c6 c7 c8 c9 c10 c11 c12 c13 c14
  have HC := Lib.hid (fcopyS_any n t a cap w0 hsm (hin.xt hg0.xt))
  have HG0 := Lib.hid hg0
  clear hg0 hsm hin
  go_enter Tryz.func38, Tryz.ntmps38
  go_wp2_with (first | (go_at_call 76; refine (HC.out).mono ?_; rintro e w1 ⟨a', rfl, hS, hx⟩; have HS := Lib.hid hS; have HX := Lib.hid hx; clear hS hx))
  go_ret
  have hx2 : Xt w w1 := HG0.out.xt.trans HX.out
  refine ⟨w1.heap.size, a', n, rfl, hx2.size, ?_, (HS.out.own.args).xt ((Xt.refl _).alloc _), hx2.alloc _⟩
  obtain ⟨k, o, x, s, bb, f, r, q, l⟩ := t
  exact (MapKept.heap_alloc w1 _).1
set_option maxRecDepth 100000 in
theorem cells_any (x : ArT) (w : World) : Calls Tryz.prog 39 #[arT x] w fun e w' => e = .returned (.func (.func 79) #[] #[.pointer (some ⟨w.heap.size, 0, none⟩)]) ∧ w' = w.alloc (.cells #[.int .i64 x.a, .int .i64 x.b, .int .i64 x.c, .int .i64 x.d] 26) := by
  go_enter Tryz.func39, Tryz.ntmps39
  go_wp2
  go_ret
  exact ⟨rfl, rfl⟩
end Go.Proofs.YtdoeejhdenifpaaGreatDoor
/- quadrillelaw22's pick and all. -/
namespace Go.Proofs.YtdoeejhdenifpaaGreatDoor
open Go.RowKit Go.Sort

/-! ### pick, by its value -/
def pickZ (c n : Int) : Int := if c < 0 then -((c + 1).tmod n) else c % n
theorem wrap_idz {x : Int} (h0 : -9223372036854775808 ≤ x) (h1 : x ≤ 9223372036854775807) : IntKind.i64.wrap x = x := by rw [IntKind.wrap_i64]; omega
theorem pickZ_lt {c n : Int} (hn : 0 < n) : 0 ≤ pickZ c n ∧ pickZ c n < n := by
  unfold pickZ
  split
  · have a3 : 0 ≤ (-(c + 1)).tmod n := Int.tmod_nonneg _ (by omega)
    have a4 : (-(c + 1)).tmod n < n := Int.tmod_lt_of_pos _ hn
    rw [Int.neg_tmod] at a3 a4
    exact ⟨a3, a4⟩
  · exact ⟨Int.emod_nonneg _ (by omega), Int.emod_lt_of_pos _ hn⟩
set_option maxHeartbeats 1000000 in
theorem pickz_any (c n : Int) (w : World) (h0 : -9223372036854775808 ≤ c) (h1 : c ≤ 9223372036854775807) (hn : 0 < n) (hn1 : n ≤ 9223372036854775807) : Calls Tryz.prog 32 #[.int .i64 c, .int .i64 n] w fun e w' => e = .returned (.int .i64 (pickZ c n)) ∧ w = w' := by
  have hn0 : (n == 0) = false := by simp; omega
  have hn2 : ¬ n = 0 := by omega
  by_cases hc : c < 0
  · have hz : pickZ c n = -((c + 1).tmod n) := by unfold pickZ; rw [if_pos hc]
    have a1 : IntKind.i64.wrap (c + 1) = c + 1 := wrap_idz (by omega) (by omega)
    have a2 : IntKind.i64.wrap (-(c + 1)) = -(c + 1) := wrap_idz (by omega) (by omega)
    have a3 : 0 ≤ (-(c + 1)).tmod n := Int.tmod_nonneg _ (by omega)
    have a4 : (-(c + 1)).tmod n < n := Int.tmod_lt_of_pos _ hn
    have a5 : IntKind.i64.wrap ((-(c + 1)).tmod n) = (-(c + 1)).tmod n := wrap_idz (by omega) (by omega)
    have HZ := Lib.hid hz
    clear hz
    go_enter Tryz.func32, Tryz.ntmps32
    go_wp2_with fail
    go_ret
    refine ⟨?_, rfl⟩
    rw [HZ.out]
    first | rfl | simp
  · have hz : pickZ c n = c % n := by unfold pickZ; rw [if_neg hc]
    have a3 : 0 ≤ c.tmod n := Int.tmod_nonneg _ (by omega)
    have a4 : c.tmod n < n := Int.tmod_lt_of_pos _ hn
    have a5 : IntKind.i64.wrap (c.tmod n) = c.tmod n := wrap_idz (by omega) (by omega)
    have HZ := Lib.hid hz
    clear hz
    go_enter Tryz.func32, Tryz.ntmps32
    go_wp2_with fail
    go_ret
    refine ⟨?_, rfl⟩
    rw [HZ.out]
    first | rfl | simp
theorem all22_any (gb : Nat) (w : World) : Calls Tryz.prog 30 #[.pointer (some ⟨gb, 0, none⟩)] w fun e w' => e = .returned (.func (.func 116) #[] #[.pointer (some ⟨w.heap.size, 0, none⟩), .pointer (some ⟨w.heap.size + 1, 0, none⟩)]) ∧ w' = (w.alloc (.cells #[.pointer (some ⟨gb, 0, none⟩)] 29)).alloc (.cells #[.func (.func 75) #[] #[]] 99) := by
  have hq := fun w f lb => run_eql_func_nil (P := Tryz.prog) w 75 _ _ _ (.func f) #[] lb Tryz.underlying75
  go_enter Tryz.func30, Tryz.ntmps30
  go_wp2_with (first | (go_at_call 37; refine ((callsIn_wide (n := 20)).1 (all_in 20 (by omega) _ _)).mono ?_; rintro e w' ⟨rfl, rfl⟩))
  go_ret
  exact ⟨rfl, rfl⟩
end Go.Proofs.YtdoeejhdenifpaaGreatDoor
/- Lists of puts that came in. -/
namespace Go.Proofs.YtdoeejhdenifpaaGreatDoor
open Go.RowKit Go.Sort Go.MapKept Go.Maps Go.Shelf

/-! ### puts that came in -/
structure PI where
  a : Ad
  c : ContT
  p : Option Addr
  cap : Nat
def inC1 (x : PI) : List Value := [.int .i64 x.a.1, .int .i64 x.a.2, .int .i64 x.c.kind, .int .i64 x.c.v.kind, .float .f64 x.c.v.x, .string x.c.v.s, .bool x.c.v.b, .int .i64 x.c.v.f, .int .i64 x.c.t.kind, .int .i64 x.c.t.op, .float .f64 x.c.t.x, .string x.c.t.s, .bool x.c.t.b, .int .i64 x.c.t.f, .int .i64 x.c.t.ref.a.1, .int .i64 x.c.t.ref.a.2, .bool x.c.t.ref.cf, .bool x.c.t.ref.rf, .int .i64 x.c.t.to.a.1, .int .i64 x.c.t.to.a.2, .bool x.c.t.to.cf, .bool x.c.t.to.rf, .slice x.p x.c.t.args.length x.cap]
abbrev PI.cv (x : PI) : Value := contV x.c x.p x.c.t.args.length x.cap
structure PutsIn (w : World) (v : Value) (l : List PI) : Prop where
  sl : SlOf w inC1 23 v l
  args : ∀ x ∈ l, x.c.ok ∧ ∃ n, ArgsIn w n (.slice x.p x.c.t.args.length x.cap) x.c.t.args
theorem SlOf.keptC {α : Type} {w w' : World} {enc : α → List Value} {sz : Nat} {v : Value} {l : List α} (h : SlOf w enc sz v l) (hx : CellsIn w w') : SlOf w' enc sz v l := by
  obtain ⟨a, cap, rfl, h1, h2, h3⟩ := h
  exact ⟨a, cap, rfl, h1, h2, fun hl => let ⟨b, off, e, hc⟩ := h3 hl; ⟨b, off, e, fun j x hx' i u hu => hx _ _ _ (hc j x hx' i u hu)⟩⟩
theorem PutsIn.kept {w w' : World} {v : Value} {l : List PI} (h : PutsIn w v l) (hx : CellsIn w w') : PutsIn w' v l :=
  ⟨h.sl.keptC hx, fun x hx' => let ⟨h1, n, hn⟩ := h.args x hx'; ⟨h1, n, hn.kept hx⟩⟩
theorem PutsIn.xt {w w' : World} {v : Value} {l : List PI} (h : PutsIn w v l) (hx : Xt w w') : PutsIn w' v l := h.kept hx.cellsIn
/-- A put's cells. -/
theorem PutsIn.at {w : World} {a : Option Addr} {m cap i : Nat} {l : List PI} {x : PI} (h : PutsIn w (.slice a m cap) l) (hx : l[i]? = some x) :
    ∃ b off, a = some ⟨b, off, none⟩ ∧ w.cell? ⟨b, off + i * 23, none⟩ = some (.int .i64 x.a.1) ∧ w.cell? ⟨b, off + i * 23 + 1, none⟩ = some (.int .i64 x.a.2) ∧ w.rangeAt b (off + i * 23 + 2) ((inC1 x).drop 2) ∧ x.c.ok ∧ ∃ n, ArgsIn w n (.slice x.p x.c.t.args.length x.cap) x.c.t.args := by
  obtain ⟨a', cap', e, h1, h2, h3⟩ := h.sl
  cases e
  obtain ⟨b, off, rfl, hc⟩ := h3 (by intro e; subst e; simp at hx)
  refine ⟨b, off, rfl, hc i x hx 0 _ rfl, hc i x hx 1 _ rfl, fun j v hv => ?_, h.args x (List.mem_of_getElem? hx)⟩
  rw [List.getElem?_drop] at hv
  have := hc i x hx (2 + j) v hv
  rw [← Nat.add_assoc] at this
  exact this
theorem PutsIn.shape {w : World} {v : Value} {l : List PI} (h : PutsIn w v l) : ∃ a cap, v = .slice a l.length cap ∧ l.length ≤ cap ∧ cap ≤ 9223372036854775807 := by
  obtain ⟨a, cap, e, h1, h2, _⟩ := h.sl
  exact ⟨a, cap, e, h1, h2⟩
abbrev pis (l : List PI) : List (Ad × ContT) := l.map fun x => (x.a, x.c)
theorem allP_take {l : List PI} {i : Nat} {x : PI} (hx : l[i]? = some x) : allP [] (pis (l.take (i + 1))) = putP (allP [] (pis (l.take i))) x.a x.c := by
  unfold pis
  rw [List.take_add_one, hx]
  simp [allP]
theorem pis_ok {l : List PI} {w : World} {v : Value} (h : PutsIn w v l) : ∀ x ∈ pis l, x.2.ok := fun x hx => by
  obtain ⟨y, hy, rfl⟩ := List.mem_map.1 hx
  exact (h.args y hy).1
end Go.Proofs.YtdoeejhdenifpaaGreatDoor
/- quadrillelaw22's made: a grid of puts (made by mkq2.py). -/
namespace Go.Proofs.YtdoeejhdenifpaaGreatDoor
open Go.RowKit Go.Sort Go.Maps Go.Shelf
attribute [local go_sem] Oper.semAt_some

theorem GridIs.cellsInG {w w' : World} {gb mb : Nat} {M : GM} (h : GridIs w gb mb M) (hg : w.grownBy w' (some mb)) : CellsIn w w' := by
  obtain ⟨E, hm, _⟩ := h.map
  exact CellsIn.of_grown hm hg
set_option maxRecDepth 100000 in
set_option maxHeartbeats 4000000 in
theorem made22_any (l : List PI) (lv : Value) (w : World) (hT : Tabs w) (hl : PutsIn w lv l) (hs : ∀ x ∈ l, smallT x.c.t) :
    Calls Tryz.prog 8 #[lv] w fun e w' => ∃ gb mb M, e = .returned (.pointer (some ⟨gb, 0, none⟩)) ∧ GridIs w' gb mb M ∧ er M = allP [] (pis l) ∧ Xt w w' := by
  obtain ⟨la, lc, rfl, hlc, hlc2⟩ := hl.shape
  have HT := Lib.hid hT
  have HL := Lib.hid hl
  have HS := Lib.hid hs
  obtain ⟨ma, hma⟩ : ∃ ma, w.heap.size = ma := ⟨_, rfl⟩
  clear hT hl hs
  go_enter Tryz.func8, Tryz.ntmps8
  go_wp2_with (first
    | (go_at_call 35; refine (gnew_any _).mono ?_; rintro e w1 ⟨rfl, hGA, hg1⟩; have hx1 := hg1.xt; clear hg1))
  simp only [hma] at hGA ⊢
  have hwa : w.heap.size ≤ ma := by omega
  have hG0 := Lib.hid hGA
  have hX0 := Lib.hid hx1
  clear hGA hx1
  go_loopw [4] (fun s wr => ∃ (i : Nat) (M : GM), i ≤ l.length ∧ s = .int .i64 i ∧ Hid (GridIs wr (ma + 1) ma M) ∧ Hid (er M = allP [] (pis (l.take i))) ∧ Hid (Xt w wr)) (fun s _ => l.length - (intOf s).toNat)
  case atStart => exact ⟨0, [], Nat.zero_le _, rfl, hG0, rfl, hX0⟩
  case round =>
    clear hG0 hX0
    obtain ⟨i, M, hi, rfl, HG, HE, HX⟩ := hrel
    by_cases hlt : i < l.length
    · obtain ⟨x, hx⟩ : ∃ x, l[i]? = some x := ⟨l[i], by simp [hlt]⟩
      have hki : (i : Int) < (l.length : Int) := by omega
      obtain ⟨b, off, rfl, d0, d1, hr, hok, n, hin⟩ := (HL.out.xt HX.out).at hx
      have HTK := Lib.hid (allP_take hx)
      have HSM := Lib.hid (HS.out x (List.mem_of_getElem? hx))
      have HR := Lib.hid hr
      have HOK := Lib.hid hok
      have HIN := Lib.hid hin
      clear hx hr hok hin
      have hx5 : Xt wr wr.drew := (Xt.refl wr).drew
      have e0 := (hx5.cellsIn _ _ _ d0)
      have e1 := (hx5.cellsIn _ _ _ d1)
      have HRR := Lib.hid (fun W (h : CellsIn wr.drew W) => (⟨h _ _ _ e0, h _ _ _ e1, fun j v hj => h _ _ _ (hx5.cellsIn _ _ _ (HR.out j v hj))⟩ : W.cell? ⟨b, off + i * 23, none⟩ = some (.int .i64 x.a.1) ∧ W.cell? ⟨b, off + i * 23 + 1, none⟩ = some (.int .i64 x.a.2) ∧ W.rangeAt b (off + i * 23 + 2) ((inC1 x).drop 2)))
      have HP := Lib.hid (gput_any n (ma + 1) ma M x.a x.c x.p x.cap wr.drew (HG.out.xt hx5) HOK.out (HT.out.xt (HX.out.trans hx5)) HSM.out (HIN.out.xt hx5))
      have HX6 := Lib.hid (HX.out.trans hx5)
      have HCI := Lib.hid (fun W (h : wr.drew.grownBy W (some ma)) => (HG.out.xt hx5).cellsInG h)
      clear hx5
      go_wp2_with fail
      refine wp_region_held_drew (S := fun W => W.cell? ⟨b, off + i * 23, none⟩ = some (.int .i64 x.a.1) ∧ W.cell? ⟨b, off + i * 23 + 1, none⟩ = some (.int .i64 x.a.2) ∧ W.rangeAt b (off + i * 23 + 2) ((inC1 x).drop 2)) (by kernel_rfl) (HRR.out _ (CellsIn.refl _)) (fun hHeld => ?_)
      refine tkH 0 ?_ ?_ ?_
      rotate_left
      · intro w hSw; (try dsimp only at hSw); obtain ⟨k0, k1, kr⟩ := hSw; clear kr; go_simp; first | done | with_reducible rfl
      try simp only [Act.put, nm]
      refine tkH 1 ?_ ?_ ?_
      rotate_left
      · intro w hSw; (try dsimp only at hSw); obtain ⟨k0, k1, kr⟩ := hSw; clear kr; go_simp; first | done | with_reducible rfl
      try simp only [Act.put, nm]
      refine tkH 2 ?_ ?_ ?_
      rotate_left
      · intro w hSw; (try dsimp only at hSw); obtain ⟨k0, k1, kr⟩ := hSw; clear kr; go_simp; first | done | with_reducible rfl
      try simp only [Act.put, nm]
      refine tkH 3 ?_ ?_ ?_
      rotate_left
      · intro w hSw; (try dsimp only at hSw); obtain ⟨k0, k1, kr⟩ := hSw; clear kr; go_simp; first | done | with_reducible rfl
      try simp only [Act.put, nm]
      refine tkH 4 ?_ ?_ ?_
      rotate_left
      · intro w hSw; (try dsimp only at hSw); obtain ⟨k0, k1, kr⟩ := hSw; clear kr; go_simp; first | done | with_reducible rfl
      try simp only [Act.put, nm]
      refine tkH 5 ?_ ?_ ?_
      rotate_left
      · intro w hSw; (try dsimp only at hSw); obtain ⟨k0, k1, kr⟩ := hSw; clear kr; go_simp; first | done | with_reducible rfl
      try simp only [Act.put, nm]
      refine tkH 6 ?_ ?_ ?_
      rotate_left
      · intro w hSw; (try dsimp only at hSw); obtain ⟨k0, k1, kr⟩ := hSw; clear kr; go_simp; first | done | with_reducible rfl
      try simp only [Act.put, nm]
      refine tkH 7 ?_ ?_ ?_
      rotate_left
      · intro w hSw; (try dsimp only at hSw); obtain ⟨k0, k1, kr⟩ := hSw; clear kr; go_simp; first | done | with_reducible rfl
      try simp only [Act.put, nm]
      refine tkH 8 ?_ ?_ ?_
      rotate_left
      · intro w hSw; (try dsimp only at hSw); obtain ⟨k0, k1, kr⟩ := hSw; clear kr; go_simp; first | done | with_reducible rfl
      try simp only [Act.put, nm]
      refine tkH 9 ?_ ?_ ?_
      rotate_left
      · intro w hSw; (try dsimp only at hSw); obtain ⟨k0, k1, kr⟩ := hSw; clear kr; go_simp; first | done | with_reducible rfl
      try simp only [Act.put, nm]
      refine tkH 10 (.agg ((inC1 x).drop 2).toArray) ?_ ?_
      · intro w hSw; exact exec_load_mid 51 _ (by rfl) b (off + i * 23 + 2) (by rfl) ((inC1 x).drop 2) _ hSw.2.2 Tryz.underlying51 rfl (by kernel_rfl)
      try simp only [Act.put, nm]
      refine rdH 11 (fun K hK => ?_)
      go_simp
      refine (HP.out).mono ?_
      rintro e w6 ⟨z, rfl, hG6, hg6⟩
      refine hK.out _ _ (HRR.out _ (HCI.out _ hg6)) (fun hHeld2 => ?_)
      clear hK K
      try simp only [Act.put, nm]
      refine wpAnyH_done (by kernel_rfl) ?_ _
      have HG6 := Lib.hid hG6
      have Hg6 := Lib.hid hg6
      clear hG6 hg6 d0 d1 e0 e1 hHeld hHeld2
      go_wp2_with fail
      go_roundw
      case rel => exact ⟨i + 1, putTo M x.a x.c z, by omega, by go_num, HG6.out, by unfold Hid; rw [er_put, HE.out, HTK.out], HX6.out.grownB Hg6.out (fun m hm => by cases hm; omega)⟩
      case measure => simp [intOf]; omega
    · obtain rfl : i = l.length := by omega
      clear hi hlt
      go_wp2_with fail
      go_ret
      exact ⟨ma + 1, ma, M, rfl, HG.out, by rw [HE.out, List.take_length], HX.out⟩
end Go.Proofs.YtdoeejhdenifpaaGreatDoor
/- move, plain: what goes a road and is copied (the tree). -/
namespace Go.Proofs.YtdoeejhdenifpaaGreatDoor
open Go.RowKit Go.Sort

theorem copyT_lost : copyT lostT = lostT := by
  have h : oneX 0 = 0 := (oneX_zero 0).2 rfl
  simp only [lostT, copyT, copyL, h]
theorem turnH_copy (cG : Ad → Ad × Bool) (aG : ArT → ArT × Bool) (k o : Int) (x : Nat) (s : ByteArray) (b : Bool) (f : Int) (r q : RefT) (l : List NodeT) : turnH cG aG (.mk k o (oneX x) s b f r q (copyL l)) = copyT (turnH cG aG (.mk k o x s b f r q l)) := by
  rw [turnH, turnH]
  by_cases h5 : k = 5
  · rw [if_pos h5, if_pos h5]
    by_cases h : (cG r.a).2 = true
    · rw [if_pos h, if_pos h]; rfl
    · rw [if_neg h, if_neg h, copyT_lost]
  · rw [if_neg h5, if_neg h5]
    by_cases h6 : k = 6
    · rw [if_pos h6, if_pos h6]
      by_cases h : (aG (arOf r q)).2 = true
      · rw [if_pos h, if_pos h]; rfl
      · rw [if_neg h, if_neg h, copyT_lost]
    · rw [if_neg h6, if_neg h6]; rfl
mutual
theorem turn_copy (cG : Ad → Ad × Bool) (aG : ArT → ArT × Bool) : ∀ t : NodeT, turnT cG aG (copyT t) = copyT (turnT cG aG t)
  | .mk k o x s b f r q l => by
    rw [copyT, turnT, turnT, turnL_copy cG aG l, turnH_copy]
theorem turnL_copy (cG : Ad → Ad × Bool) (aG : ArT → ArT × Bool) : ∀ l : List NodeT, turnL cG aG (copyL l) = copyL (turnL cG aG l)
  | [] => rfl
  | t :: l => by rw [copyL, turnL, turnL, copyL, turn_copy cG aG t, turnL_copy cG aG l]
end
end Go.Proofs.YtdoeejhdenifpaaGreatDoor
/- move, plain: where lines put in or taken out bring cells and areas; a grid that goes such a road. -/
namespace Go.Proofs.YtdoeejhdenifpaaGreatDoor
open Go.RowKit Go.Sort

/-! ### one line -/
def lineZ (k n m z : Int) : Int × Bool := if z < k then (z, true) else if 0 ≤ n then (z + n, decide (z + n ≤ m)) else (z + n, decide (k - n ≤ z))
/-- Lines that may be asked for. -/
structure LB (m k n : Int) : Prop where
  m1 : 1 ≤ m
  m2 : m ≤ 4096
  k1 : 1 ≤ k
  k2 : k ≤ m
  n1 : -m ≤ n
  n2 : n ≤ m
theorem lineF_eq {k n m z : Int} (h : LB m k n) (hz : 1 ≤ z ∧ z ≤ m) : lineF ⟨k, n, m⟩ z = lineZ k n m z := by
  obtain ⟨h1, h2, h3, h4, h5, h6⟩ := h
  have w1 : wrap64 (z + n) = z + n := by unfold wrap64; omega
  have w2 : wrap64 (k - n) = k - n := by unfold wrap64; omega
  unfold lineF lineZ
  simp only [w1, w2]
theorem lineZ_ok {k n m z : Int} (h : LB m k n) (hz : 1 ≤ z ∧ z ≤ m) (ho : (lineZ k n m z).2 = true) : 1 ≤ (lineZ k n m z).1 ∧ (lineZ k n m z).1 ≤ m := by
  obtain ⟨h1, h2, h3, h4, h5, h6⟩ := h
  unfold lineZ at *
  split
  · simp only; omega
  · rename_i hk
    rw [if_neg hk] at ho
    split
    · rename_i hn
      rw [if_pos hn] at ho
      have := of_decide_eq_true ho
      simp only at *; omega
    · rename_i hn
      rw [if_neg hn] at ho
      have := of_decide_eq_true ho
      simp only at *; omega
theorem lineZ_bool {k n m z : Int} : (lineZ k n m z).2 = true ↔ (z < k ∨ (0 ≤ n ∧ z + n ≤ m) ∨ (n < 0 ∧ k - n ≤ z)) := by
  unfold lineZ
  split
  · simp [*]
  · split
    · simp only [decide_eq_true_eq]; omega
    · simp only [decide_eq_true_eq]; omega
theorem lineZ_val {k n m z : Int} : (lineZ k n m z).1 = if z < k then z else z + n := by
  unfold lineZ
  split
  · rfl
  · split <;> rfl
theorem lineZ_mono {k n m y z : Int} (_hy : (lineZ k n m y).2 = true) (hz : (lineZ k n m z).2 = true) (h : y < z) : (lineZ k n m y).1 < (lineZ k n m z).1 := by
  rw [lineZ_bool] at hz
  rw [lineZ_val, lineZ_val]
  split <;> split <;> omega
/-! ### from one to another one -/
def loZ (k n a : Int) : Int := if 0 ≤ n then a else if a < k then a else if a < k - n then k - n else a
def hiZ (k n m b : Int) : Int := if 0 ≤ n then (if b < k then b else if b ≤ m - n then b else if m - n < k then k - 1 else m - n) else if k - n ≤ b then b else if b < k then b else k - 1
theorem spanG_eq {k n m : Int} (h : LB m k n) : ∀ (c : Nat) (a f t : Int), 1 ≤ a → a + c ≤ m + 1 →
    spanG ⟨k, n, m⟩ c a f t = if loZ k n a ≤ hiZ k n m (a + c - 1) then (if f = 0 then (lineZ k n m (loZ k n a)).1 else f, (lineZ k n m (hiZ k n m (a + c - 1))).1) else (f, t) := by
  obtain ⟨h1, h2, h3, h4, h5, h6⟩ := id h
  intro c
  induction c with
  | zero =>
    intro a f t ha hc
    have : ¬ loZ k n a ≤ hiZ k n m (a + (0 : Nat) - 1) := by unfold loZ hiZ; split <;> split <;> (try split) <;> (try split) <;> omega
    rw [if_neg this]; rfl
  | succ c ih =>
    intro a f t ha hc
    obtain ⟨b, hb⟩ : ∃ b, a + ((c + 1 : Nat) : Int) - 1 = b := ⟨_, rfl⟩
    have hb2 : a + 1 + (c : Int) - 1 = b := by omega
    have hab : a ≤ b := by omega
    have hbm : b ≤ m := by omega
    rw [hb]
    unfold spanG
    rw [lineF_eq h ⟨ha, by omega⟩]
    by_cases ho : (lineZ k n m a).2 = true
    · rw [if_pos ho, ih (a + 1) _ _ (by omega) (by omega), hb2]
      have ho' := lineZ_bool.1 ho
      have hp := (lineZ_ok h ⟨ha, by omega⟩ ho).1
      have hlo : loZ k n a = a := by unfold loZ; split <;> (try split) <;> (try split) <;> omega
      have hhi : a ≤ hiZ k n m b := by unfold hiZ; split <;> (try split) <;> (try split) <;> (try split) <;> omega
      have hf : (if (if f = 0 then (lineZ k n m a).1 else f) = 0 then (lineZ k n m (loZ k n (a + 1))).1 else (if f = 0 then (lineZ k n m a).1 else f)) = (if f = 0 then (lineZ k n m a).1 else f) := by
        by_cases hf0 : f = 0
        · rw [if_pos hf0, if_neg (by omega)]
        · rw [if_neg hf0, if_neg hf0]
      rw [hlo, if_pos hhi, hf]
      by_cases hle : loZ k n (a + 1) ≤ hiZ k n m b
      · rw [if_pos hle]
      · rw [if_neg hle]
        have : hiZ k n m b = a := by
          unfold loZ hiZ at *
          split at hle <;> (try split at hle) <;> (try split at hle) <;> (try split at hle) <;> (try split at hle) <;> (try split at hle) <;> simp_all <;> omega
        rw [this]
    · rw [if_neg ho, ih (a + 1) _ _ (by omega) (by omega), hb2]
      have ho' : ¬ (a < k ∨ (0 ≤ n ∧ a + n ≤ m) ∨ (n < 0 ∧ k - n ≤ a)) := fun e => ho (lineZ_bool.2 e)
      by_cases hn : 0 ≤ n
      · have hhi : hiZ k n m b < a := by unfold hiZ; rw [if_pos hn]; split <;> (try split) <;> (try split) <;> omega
        have l1 : loZ k n a = a := by unfold loZ; rw [if_pos hn]
        have l2 : loZ k n (a + 1) = a + 1 := by unfold loZ; rw [if_pos hn]
        rw [l1, l2, if_neg (by omega), if_neg (by omega)]
      · have l1 : loZ k n a = k - n := by unfold loZ; rw [if_neg hn, if_neg (by omega), if_pos (by omega)]
        have l2 : loZ k n (a + 1) = k - n := by unfold loZ; rw [if_neg hn, if_neg (by omega)]; split <;> omega
        rw [l1, l2]
def spanZ (k n m a b : Int) : Int × Int × Bool := if loZ k n a ≤ hiZ k n m b then ((lineZ k n m (loZ k n a)).1, (lineZ k n m (hiZ k n m b)).1, true) else (0, 0, false)
theorem ends_ok {k n m a b : Int} (h : LB m k n) (_hab : 1 ≤ a ∧ a ≤ b ∧ b ≤ m) (hl : loZ k n a ≤ hiZ k n m b) : (lineZ k n m (loZ k n a)).2 = true ∧ (lineZ k n m (hiZ k n m b)).2 = true ∧ a ≤ loZ k n a ∧ hiZ k n m b ≤ b := by
  obtain ⟨h1, h2, h3, h4, h5, h6⟩ := id h
  rw [lineZ_bool, lineZ_bool]
  unfold loZ hiZ at *
  split at hl <;> (try split at hl) <;> (try split at hl) <;> (try split at hl) <;> (try split at hl) <;> simp_all <;> omega
theorem spanF_eq {k n m a b : Int} (h : LB m k n) (hab : 1 ≤ a ∧ a ≤ b ∧ b ≤ m) : spanF ⟨k, n, m⟩ a b = spanZ k n m a b := by
  unfold spanF spanZ
  rw [spanG_eq h _ _ _ _ hab.1 (by omega), show a + ((b - a + 1).toNat : Int) - 1 = b by omega]
  by_cases hl : loZ k n a ≤ hiZ k n m b
  · obtain ⟨o1, o2, o3, o4⟩ := ends_ok h hab hl
    have := lineZ_ok h ⟨by omega, by omega⟩ o1
    rw [if_pos hl, if_pos hl]
    simp only [if_true]
    rw [decide_eq_true (by omega)]
  · rw [if_neg hl, if_neg hl]; rfl
theorem spanZ_ok {k n m a b : Int} (h : LB m k n) (hab : 1 ≤ a ∧ a ≤ b ∧ b ≤ m) (ho : (spanZ k n m a b).2.2 = true) : 1 ≤ (spanZ k n m a b).1 ∧ (spanZ k n m a b).1 ≤ (spanZ k n m a b).2.1 ∧ (spanZ k n m a b).2.1 ≤ m := by
  unfold spanZ at *
  by_cases hl : loZ k n a ≤ hiZ k n m b
  · obtain ⟨o1, o2, o3, o4⟩ := ends_ok h hab hl
    have q1 := lineZ_ok h ⟨by omega, by omega⟩ o1
    have q2 := lineZ_ok h ⟨by omega, by omega⟩ o2
    rw [if_pos hl]
    simp only
    refine ⟨q1.1, ?_, q2.2⟩
    rcases Int.lt_or_eq_of_le hl with e | e
    · exact Int.le_of_lt (lineZ_mono o1 o2 e)
    · rw [e]; exact Int.le_refl _
  · rw [if_neg hl] at ho; cases ho
/-! ### cells and areas -/
theorem many_bd (cols : Bool) : 1 ≤ manyL cols ∧ manyL cols ≤ 4096 := by cases cols <;> decide
def vA (x : ArT) : Bool := validB x.a x.b && validB x.c x.d && decide (x.a ≤ x.c) && decide (x.b ≤ x.d)
theorem vA_le {x : ArT} (h : vA x = true) : (1 ≤ x.a ∧ x.a ≤ x.c ∧ x.c ≤ 256) ∧ (1 ≤ x.b ∧ x.b ≤ x.d ∧ x.d ≤ 4096) := by
  unfold vA at h
  simp only [Bool.and_eq_true, decide_eq_true_eq] at h
  have v1 := validB_le h.1.1.1
  have v2 := validB_le h.1.1.2
  omega
theorem validB_of {a b : Int} (h : 1 ≤ a ∧ a ≤ 256 ∧ 1 ≤ b ∧ b ≤ 4096) : validB a b = true := by
  unfold validB; simp; omega
theorem vA_of {x : ArT} (h : (1 ≤ x.a ∧ x.a ≤ x.c ∧ x.c ≤ 256) ∧ (1 ≤ x.b ∧ x.b ≤ x.d ∧ x.d ≤ 4096)) : vA x = true := by
  unfold vA
  rw [validB_of (by omega), validB_of (by omega), decide_eq_true (by omega), decide_eq_true (by omega)]; rfl
/-- A road that leads from valid cells and areas to valid ones, and keeps the order of cells. -/
structure RoadV (cG : Ad → Ad × Bool) (aG : ArT → ArT × Bool) : Prop where
  cell : ∀ a, validB a.1 a.2 = true → (cG a).2 = true → validB (cG a).1.1 (cG a).1.2 = true
  area : ∀ x, vA x = true → (aG x).2 = true → vA (aG x).1 = true
theorem lines_roadV {cols : Bool} {k n : Int} (h : LB (manyL cols) k n) : RoadV (cellF cols ⟨k, n, manyL cols⟩) (areaF cols ⟨k, n, manyL cols⟩) := by
  constructor
  · intro a hv ho
    have v := validB_le hv
    unfold cellF at *
    cases cols
    · simp only [Bool.false_eq_true, if_false] at *
      have h0 : LB 4096 k n := h
      rw [show manyL false = 4096 from rfl, lineF_eq h0 (by omega)] at *
      have := lineZ_ok h0 (by omega) ho
      exact validB_of (by omega)
    · simp only [if_true] at *
      have h0 : LB 256 k n := h
      rw [show manyL true = 256 from rfl, lineF_eq h0 (by omega)] at *
      have := lineZ_ok h0 (by omega) ho
      exact validB_of (by omega)
  · intro x hv ho
    have v := vA_le hv
    unfold areaF at *
    cases cols
    · simp only [Bool.false_eq_true, if_false] at *
      have h0 : LB 4096 k n := h
      rw [show manyL false = 4096 from rfl, spanF_eq h0 (by omega)] at *
      have := spanZ_ok h0 (by omega) ho
      exact vA_of (by simp only; omega)
    · simp only [if_true] at *
      have h0 : LB 256 k n := h
      rw [show manyL true = 256 from rfl, spanF_eq h0 (by omega)] at *
      have := spanZ_ok h0 (by omega) ho
      exact vA_of (by simp only; omega)
theorem adLt_or {a b : Ad} : adLt a b = true ↔ a.2 < b.2 ∨ (a.2 = b.2 ∧ a.1 < b.1) := by unfold adLt; simp
theorem lines_mono {cols : Bool} {k n : Int} (h : LB (manyL cols) k n) {a b : Ad} (ha : validB a.1 a.2 = true) (hb : validB b.1 b.2 = true) (oa : (cellF cols ⟨k, n, manyL cols⟩ a).2 = true) (ob : (cellF cols ⟨k, n, manyL cols⟩ b).2 = true) (hl : adLt a b = true) :
    adLt (cellF cols ⟨k, n, manyL cols⟩ a).1 (cellF cols ⟨k, n, manyL cols⟩ b).1 = true := by
  have va := validB_le ha
  have vb := validB_le hb
  rw [adLt_or] at *
  unfold cellF at *
  cases cols
  · simp only [Bool.false_eq_true, if_false] at *
    have h0 : LB 4096 k n := h
    rw [show manyL false = 4096 from rfl] at *
    rw [lineF_eq h0 (z := a.2) (by omega), lineF_eq h0 (z := b.2) (by omega)] at *
    rcases hl with e | ⟨e, e2⟩
    · exact Or.inl (lineZ_mono oa ob e)
    · rw [e]; exact Or.inr ⟨rfl, e2⟩
  · simp only [if_true] at *
    have h0 : LB 256 k n := h
    rw [show manyL true = 256 from rfl] at *
    rw [lineF_eq h0 (z := a.1) (by omega), lineF_eq h0 (z := b.1) (by omega)] at *
    rcases hl with e | ⟨e, e2⟩
    · exact Or.inl e
    · exact Or.inr ⟨e, lineZ_mono oa ob e2⟩
end Go.Proofs.YtdoeejhdenifpaaGreatDoor
/- move, plain: formulas and contents that go a road stay valid; what a grid that goes a road has. -/
namespace Go.Proofs.YtdoeejhdenifpaaGreatDoor
open Go.RowKit Go.Sort

theorem refB_self (r : RefT) : refB r r = true := by unfold refB; simp
theorem made_lost : madeB lostT = true := by kernel_rfl
theorem fault_lost (ins : Bool) : faultT lostT ins = 0 := by cases ins <;> kernel_rfl
theorem made_ref {o : Int} {x : Nat} {s : ByteArray} {b : Bool} {f : Int} {r q r' : RefT} {l : List NodeT} (h : madeB (.mk 5 o x s b f r q l) = true) : l = [] ∧ madeB (.mk 5 o x s b f r' q l) = true := by
  simp only [madeB, Int.reduceEq, if_false, if_true] at *
  simp only [Bool.and_eq_true, alikeB, NodeT.kind, NodeT.op, NodeT.x, NodeT.s, NodeT.b, NodeT.f, NodeT.ref, NodeT.to] at *
  refine ⟨List.length_eq_zero_iff.1 (by have := h.1.2; simp at this; omega), ⟨h.1, ?_⟩⟩
  exact ⟨⟨h.2.1.1, refB_self _⟩, h.2.2⟩
theorem made_area {o : Int} {x : Nat} {s : ByteArray} {b : Bool} {f : Int} {r q r' q' : RefT} {l : List NodeT} (h : madeB (.mk 6 o x s b f r q l) = true) : l = [] ∧ madeB (.mk 6 o x s b f r' q' l) = true := by
  simp only [madeB, Int.reduceEq, if_false, if_true] at *
  simp only [Bool.and_eq_true, alikeB, NodeT.kind, NodeT.op, NodeT.x, NodeT.s, NodeT.b, NodeT.f, NodeT.ref, NodeT.to] at *
  refine ⟨List.length_eq_zero_iff.1 (by have := h.1.2; simp at this; omega), ⟨h.1, ?_⟩⟩
  exact ⟨⟨h.2.1.1, refB_self _⟩, refB_self _⟩
theorem made_args {k o : Int} {x : Nat} {s : ByteArray} {b : Bool} {f : Int} {r q : RefT} {l l' : List NodeT} (hl : l'.length = l.length) (h : madeB (.mk k o x s b f r q l) = true) : madeB (.mk k o x s b f r q l') = true := by
  unfold madeB at *
  simp only [alikeB, NodeT.kind, NodeT.op, NodeT.x, NodeT.s, NodeT.b, NodeT.f, NodeT.ref, NodeT.to, hl] at *
  exact h
mutual
theorem turnT_fault {cG : Ad → Ad × Bool} {aG : ArT → ArT × Bool} (H : RoadV cG aG) : ∀ (t : NodeT) (ins : Bool), faultT t ins = 0 → faultT (turnT cG aG t) ins = 0 ∧ measT (turnT cG aG t) = measT t
  | .mk k o x s b f r q l, ins, h => by
    rw [faultT] at h
    by_cases hm : madeB (.mk k o x s b f r q l) = true
    · rw [if_pos hm] at h
      rw [turnT, turnH]
      by_cases h5 : k = 5
      · subst h5
        rw [if_pos (by rfl)] at h
        obtain ⟨rfl, hm'⟩ := made_ref (r' := ⟨(cG r.a).1, r.cf, r.rf⟩) hm
        rw [if_pos rfl, turnL]
        by_cases ho : (cG r.a).2 = true
        · rw [if_pos ho]
          have hv : validB r.a.1 r.a.2 = true := by
            by_cases hv : validB r.a.1 r.a.2 = true
            · exact hv
            · rw [if_neg hv] at h; omega
          refine ⟨?_, rfl⟩
          rw [faultT, if_pos hm', if_pos (by rfl), if_pos (H.cell _ hv ho), faultL]
        · rw [if_neg ho]
          exact ⟨fault_lost ins, rfl⟩
      · rw [if_neg (by simpa using h5)] at h
        rw [if_neg h5]
        by_cases h6 : k = 6
        · subst h6
          rw [if_pos (by rfl)] at h
          obtain ⟨rfl, hm'⟩ := made_area (r' := ⟨((aG (arOf r q)).1.a, (aG (arOf r q)).1.b), r.cf, r.rf⟩) (q' := ⟨((aG (arOf r q)).1.c, (aG (arOf r q)).1.d), q.cf, q.rf⟩) hm
          rw [if_pos rfl, turnL]
          by_cases ho : (aG (arOf r q)).2 = true
          · rw [if_pos ho]
            have hv : (validB r.a.1 r.a.2 && validB q.a.1 q.a.2 && decide (r.a.1 ≤ q.a.1) && decide (r.a.2 ≤ q.a.2)) = true := by
              by_cases hv : (validB r.a.1 r.a.2 && validB q.a.1 q.a.2 && decide (r.a.1 ≤ q.a.1) && decide (r.a.2 ≤ q.a.2)) = true
              · exact hv
              · rw [if_neg hv] at h; omega
            rw [if_pos hv] at h
            refine ⟨?_, rfl⟩
            have hv' := H.area (arOf r q) hv ho
            rw [faultT, if_pos hm', if_neg (by decide), if_pos (by rfl), if_pos (show (validB _ _ && validB _ _ && decide _ && decide _) = true from hv')]
            cases ins
            · exact h
            · rfl
          · rw [if_neg ho]
            exact ⟨fault_lost ins, rfl⟩
        · rw [if_neg (by simpa using h6)] at h
          rw [if_neg h6]
          have hlen : (turnL cG aG l).length = l.length := turnL_len cG aG l
          have hm' := made_args (l' := turnL cG aG l) hlen hm
          have hL : faultL l (k == 9) = 0 := by
            split at h
            · split at h
              · split at h
                · omega
                · split at h
                  · omega
                  · exact h
              · omega
            · exact h
          obtain ⟨q1, q2⟩ := turnL_fault H l (k == 9) hL
          constructor
          · rw [faultT, if_pos hm', if_neg (by simpa using h5), if_neg (by simpa using h6), hlen, q1]
            rw [hL] at h
            exact h
          · rw [measT, measT, q2]
    · rw [if_neg hm] at h; omega
theorem turnL_fault {cG : Ad → Ad × Bool} {aG : ArT → ArT × Bool} (H : RoadV cG aG) : ∀ (l : List NodeT) (c : Bool), faultL l c = 0 → faultL (turnL cG aG l) c = 0 ∧ ∀ n d, measL (turnL cG aG l) n d = measL l n d
  | [], _, _ => ⟨by rw [turnL, faultL], fun n d => by rw [turnL]⟩
  | t :: l, c, h => by
    rw [faultL] at h
    split at h
    · rename_i e
      obtain ⟨q1, q2⟩ := turnT_fault H t c e
      obtain ⟨q3, q4⟩ := turnL_fault H l c h
      constructor
      · rw [turnL, faultL, if_pos q1]; exact q3
      · intro n d
        rw [turnL, measL, measL, q2]; exact q4 _ _
    · rename_i e; exact absurd h e
end
theorem turn_check {cG : Ad → Ad × Bool} {aG : ArT → ArT × Bool} (H : RoadV cG aG) {t : NodeT} (h : checkT t = 0) : checkT (turnT cG aG t) = 0 := by
  obtain ⟨q1, q2⟩ := turnT_fault H t false (checkT_zero h)
  unfold checkT at *
  rw [q2, q1]
  split at h
  · omega
  · rename_i e1
    rw [if_neg e1]
    split at h
    · omega
    · rename_i e2
      rw [if_neg e2]
theorem contG_valid {cG : Ad → Ad × Bool} {aG : ArT → ArT × Bool} (H : RoadV cG aG) {c : ContT} (h : gvalidB c = true) : gvalidB (contG cG aG (copyC c)) = true := by
  have h2 : gvalidB (copyC c) = true := (gvalidB_copy c).trans h
  unfold contG
  split
  · rename_i hk
    unfold gvalidB at h2 ⊢
    simp only [hk, Int.reduceBEq, Bool.false_eq_true, if_false, if_true, Bool.and_eq_true] at h2 ⊢
    refine ⟨h2.1, ?_⟩
    have h3 : checkT (copyC c).t = 0 := by simpa using h2.2
    have h4 : checkT (copyT (copyC c).t) = 0 := by
      have : copyT (copyC c).t = (copyC c).t := copyT_idem c.t
      rw [this]; exact h3
    simpa using turn_check H h4
  · exact h2
theorem contG_kind (cG : Ad → Ad × Bool) (aG : ArT → ArT × Bool) (c : ContT) : (contG cG aG c).kind = c.kind := by unfold contG; split <;> rfl
theorem contG_copy (cG : Ad → Ad × Bool) (aG : ArT → ArT × Bool) (c : ContT) : copyC (contG cG aG (copyC c)) = contG cG aG (copyC c) := by
  unfold contG
  split
  · show ContT.mk _ _ _ = ContT.mk _ _ _
    have e1 : copyT (turnT cG aG (copyT (copyC c).t)) = turnT cG aG (copyT (copyC c).t) := by
      rw [← turn_copy, copyT_idem]
    have e2 : ({ (copyC c).v with x := oneX (copyC c).v.x } : ValT) = (copyC c).v := by
      have := copyC_idem c
      exact congrArg ContT.v this
    simp only [e1, e2]
  · exact copyC_idem c
/-! ### a grid -/
def goP (cG : Ad → Ad × Bool) (aG : ArT → ArT × Bool) (l : PG) : PG := (l.filter fun x => (cG x.1).2).map fun x => ((cG x.1).1, contG cG aG (copyC x.2))
def MonoC (cG : Ad → Ad × Bool) : Prop := ∀ a b : Ad, validB a.1 a.2 = true → validB b.1 b.2 = true → (cG a).2 = true → (cG b).2 = true → adLt a b = true → adLt (cG a).1 (cG b).1 = true
theorem setM_last {α : Type} {a : Ad} {v : α} : ∀ {M : List (Ad × α)}, (∀ x ∈ M, adLt x.1 a = true) → setM a v M = M ++ [(a, v)]
  | [], _ => rfl
  | x :: r, h => by
    have h1 := h x List.mem_cons_self
    have hne : ¬ x.1 = a := fun e => by rw [e, adLt_irrefl] at h1; cases h1
    have hnl : ¬ adLt a x.1 = true := fun e => by
      have := swo_ad.trans _ _ _ h1 e
      rw [adLt_irrefl] at this; cases this
    rw [setM, if_neg hne, if_neg hnl, setM_last (fun y hy => h y (List.mem_cons_of_mem _ hy))]
    rfl
theorem lkM_of_mem {α : Type} {a : Ad} {v : α} : ∀ {M : List (Ad × α)}, SortedM M → (a, v) ∈ M → lkM a M = some v
  | x :: r, hs, h => by
    have hs' := List.pairwise_cons.1 hs
    rw [lkM]
    rcases List.mem_cons.1 h with e | h
    · rw [← e, if_pos rfl]
    · have h1 := hs'.1 _ h
      have hne : ¬ x.1 = a := fun e => by rw [e, adLt_irrefl] at h1; cases h1
      rw [if_neg hne]
      exact lkM_of_mem hs'.2 h
theorem goP_snoc (cG : Ad → Ad × Bool) (aG : ArT → ArT × Bool) (l : PG) (x : Ad × ContT) : goP cG aG (l ++ [x]) = if (cG x.1).2 = true then goP cG aG l ++ [((cG x.1).1, contG cG aG (copyC x.2))] else goP cG aG l := by
  unfold goP
  rw [List.filter_append]
  split <;> simp_all
theorem goAll_eq {cG : Ad → Ad × Bool} {aG : ArT → ArT × Bool} (H : RoadV cG aG) (hm : MonoC cG) {l : PG} (h : GOk l) : goAll cG aG l = goP cG aG l := by
  obtain ⟨h1, h2, h3⟩ := h
  revert h1 h2 h3
  refine snoc_ind (P := fun l => SortedM l → l.length ≤ 4096 → (∀ x ∈ l, validB x.1.1 x.1.2 = true ∧ gvalidB x.2 = true ∧ (x.2.kind == 0) = false ∧ copyC x.2 = x.2 ∧ x.2.ok) → goAll cG aG l = goP cG aG l) ?_ ?_ l
  · intro _ _ _; rfl
  · intro l x ih hs hl he
    have hs' := List.pairwise_append.1 hs
    rw [goAll_snoc, ih hs'.1 (by simp at hl; omega) (fun y hy => he y (List.mem_append_left _ hy)), goP_snoc]
    obtain ⟨v1, v2, v3, v4, v5⟩ := he x (by simp)
    unfold goStep
    by_cases ho : (cG x.1).2 = true
    · rw [if_pos ho, if_pos ho]
      have hlt : ∀ y ∈ goP cG aG l, adLt y.1 (cG x.1).1 = true := fun y hy => by
        obtain ⟨z, hz, rfl⟩ := List.mem_map.1 hy
        obtain ⟨hz1, hz2⟩ := List.mem_filter.1 hz
        exact hm _ _ (he z (List.mem_append_left _ hz1)).1 v1 hz2 ho (hs'.2.2 z hz1 x (by simp))
      have hlen : (goP cG aG l).length < 4096 := by
        have : (goP cG aG l).length ≤ l.length := by unfold goP; rw [List.length_map]; exact List.length_filter_le ..
        simp at hl; omega
      have hno : lkM (cG x.1).1 (goP cG aG l) = none := lkM_none.2 fun y hy e => by
        have := hlt y hy
        rw [e, adLt_irrefl] at this; cases this
      have hk : ((contG cG aG (copyC x.2)).kind == 0) = false := by rw [contG_kind]; exact v3
      have := put_new (x := ((cG x.1).1, contG cG aG (copyC x.2))) hno hlen ⟨H.cell _ v1 ho, contG_valid H v2, hk, contG_copy cG aG x.2, contG_ok (okC_copy v5)⟩
      rw [this.2, setM_last hlt]
    · rw [if_neg ho, if_neg ho]
theorem goP_ok {cG : Ad → Ad × Bool} {aG : ArT → ArT × Bool} (H : RoadV cG aG) (hm : MonoC cG) {l : PG} (h : GOk l) : GOk (goP cG aG l) := by
  refine ⟨?_, ?_, ?_⟩
  · unfold goP SortedM
    rw [List.pairwise_map, List.pairwise_filter]
    refine h.sorted.imp_of_mem fun {a b} ha hb hl oa ob => hm _ _ (h.each a ha).1 (h.each b hb).1 oa ob hl
  · have : (goP cG aG l).length ≤ l.length := by unfold goP; rw [List.length_map]; exact List.length_filter_le ..
    have := h.many
    omega
  · intro y hy
    obtain ⟨z, hz, rfl⟩ := List.mem_map.1 hy
    obtain ⟨hz1, hz2⟩ := List.mem_filter.1 hz
    obtain ⟨v1, v2, v3, v4, v5⟩ := h.each z hz1
    exact ⟨H.cell _ v1 hz2, contG_valid H v2, by rw [contG_kind]; exact v3, contG_copy cG aG z.2, contG_ok (okC_copy v5)⟩
theorem goP_get {cG : Ad → Ad × Bool} {aG : ArT → ArT × Bool} (H : RoadV cG aG) (hm : MonoC cG) {l : PG} (h : GOk l) {x : Ad × ContT} (hx : x ∈ l) (ho : (cG x.1).2 = true) : lkM (cG x.1).1 (goP cG aG l) = some (contG cG aG x.2) := by
  have : contG cG aG x.2 = contG cG aG (copyC x.2) := by rw [(h.each x hx).2.2.2.1]
  rw [this]
  exact lkM_of_mem (goP_ok H hm h).sorted (List.mem_map.2 ⟨x, List.mem_filter.2 ⟨hx, ho⟩, rfl⟩)
theorem goStop_all {cG : Ad → Ad × Bool} {n : Int} {l : PG} (h : goStop cG n l = false) (hn : 0 < n) : ∀ x ∈ l, (cG x.1).2 = true := fun x hx => by
  unfold goStop at h
  have := List.any_eq_false.1 h x hx
  simpa [hn] using this
theorem lines_monoC {cols : Bool} {k n : Int} (h : LB (manyL cols) k n) : MonoC (cellF cols ⟨k, n, manyL cols⟩) := fun _ _ ha hb oa ob hl => lines_mono h ha hb oa ob hl
end Go.Proofs.YtdoeejhdenifpaaGreatDoor
/- Two values are the same: value.Same answers as their keys do. -/
namespace Go.Proofs.YtdoeejhdenifpaaGreatDoor
open Go.RowKit Go.Sort

/-! ### value.Same -/
theorem compare_0 : ∀ (a b : List UInt8), Lib.compareBytes a b = 0 ↔ a = b
  | [], [] => by simp [Lib.compareBytes]
  | [], _ :: _ => by simp [Lib.compareBytes]
  | _ :: _, [] => by simp [Lib.compareBytes]
  | x :: a, y :: b => by
    unfold Lib.compareBytes
    by_cases h1 : x < y
    · simp only [h1, if_true]
      refine ⟨fun h => by simp at h, fun h => ?_⟩
      cases h; exact absurd h1 (UInt8.lt_irrefl _)
    · by_cases h2 : y < x
      · simp only [h1, h2, if_false, if_true]
        refine ⟨fun h => by simp at h, fun h => ?_⟩
        cases h; exact absurd h2 (UInt8.lt_irrefl _)
      · have h3 : x = y := by
          rw [UInt8.not_lt] at h1 h2
          exact UInt8.le_antisymm h2 h1
        subst h3
        simp only [h1, if_false, compare_0 a b, List.cons.injEq, true_and]
set_option maxRecDepth 100000 in
theorem bytesCompare_any (a b : ByteArray) (w : World) : Calls Tryz.prog 157 #[.string a, .string b] w fun e w' => e = .returned (.int .i64 (Lib.compareBytes a.data.toList b.data.toList)) ∧ w = w' := by
  go_enter Tryz.func157, Tryz.ntmps157
  go_wp2
  rw [run_callFunc_extern Tryz.func170 (by kernel_rfl) (by kernel_rfl) (by kernel_rfl) (e := Extern.BytealgCompare.compare) (by kernel_rfl), Lib.run_compareString]
  simp only [Result.andThen]
  rw [Oper.upon_value]
  go_wp2
  go_ret
  exact ⟨rfl, rfl⟩
theorem sCompare_any (a b : ByteArray) (w : World) : Calls Tryz.prog 125 #[.string a, .string b] w fun e w' => e = .returned (.int .i64 (Lib.compareBytes a.data.toList b.data.toList)) ∧ w = w' := by
  have HC := Lib.hid (bytesCompare_any a b w)
  go_enter Tryz.func125, Tryz.ntmps125
  go_wp2_with (refine (HC.out).mono ?_; rintro e w' ⟨rfl, rfl⟩)
  go_ret
  exact ⟨rfl, rfl⟩
def oneB (b : Bool) : Int := if b then 1 else 0
theorem vone_any (b : Bool) (w : World) : Calls Tryz.prog 126 #[.bool b] w fun e w' => e = .returned (.int .i64 (oneB b)) ∧ w = w' := by
  cases b <;> (go_enter Tryz.func126, Tryz.ntmps126; go_wp2; go_ret; exact ⟨rfl, rfl⟩)
def placeX (x : Nat) : Int := if ordX x x != some .eq then 9223372036854775807 else if signX x = true then wrap64 (wrap64 (-(wrap64 (absX x))) - 1) else wrap64 (absX x)
set_option maxHeartbeats 1000000 in
theorem place_any (x : Nat) (w : World) : Calls Tryz.prog 156 #[.float .f64 x] w fun e w' => e = .returned (.int .i64 (placeX x)) ∧ w = w' := by
  have HC := Lib.hid (Abs_any x w)
  have HS := Lib.hid (Signbit_any x w)
  generalize hn : placeX x = ans
  have HA := Lib.hid hn
  unfold placeX ordX at HA
  generalize absX x = ax at HC HA
  clear hn
  go_enter Tryz.func156, Tryz.ntmps156
  go_wp2_with (first | (go_at_call 168; refine (HC.out).mono ?_; rintro e w' ⟨rfl, rfl⟩) | (go_at_call 169; refine (HS.out).mono ?_; rintro e w' ⟨rfl, rfl⟩))
  all_goals (go_ret; refine ⟨?_, rfl⟩; rw [← HA.out]; simp [*]; done)
def pordX (a b : Nat) : Int := cmpI (placeX a) (placeX b)
theorem pOrder_any (a b : Nat) (w : World) : Calls Tryz.prog 124 #[.float .f64 a, .float .f64 b] w fun e w' => e = .returned (.int .i64 (pordX a b)) ∧ w = w' := by
  have HC := Lib.hid (place_any a w)
  have HS := Lib.hid (place_any b w)
  generalize hn : pordX a b = ans
  have HA := Lib.hid hn
  unfold pordX cmpI at HA
  generalize placeX a = pa at HC HA
  generalize placeX b = pb at HS HA
  clear hn
  go_enter Tryz.func124, Tryz.ntmps124
  go_wp2_with (first | (refine (HC.out).mono ?_; clear HC; rintro e w' ⟨rfl, rfl⟩) | (refine (HS.out).mono ?_; clear HS; rintro e w' ⟨rfl, rfl⟩))
  all_goals (go_ret; refine ⟨?_, rfl⟩; rw [← HA.out])
  all_goals (first | (have hq1 : pa < pb := by omega
                      rw [if_pos hq1]; rfl) | (have hq1 : ¬ pa < pb := by omega
                                               have hq2 : pb < pa := by omega
                                               rw [if_neg hq1, if_pos hq2]; rfl) | (have hq1 : ¬ pa < pb := by omega
                                                                                    have hq2 : ¬ pb < pa := by omega
                                                                                    rw [if_neg hq1, if_neg hq2]; rfl))
/-- How two values stand, their kinds being the same. -/
def restO (a b : ValT) : Int :=
  if (a.kind == 1) = true then pordX a.x b.x else if (a.kind == 2) = true then Lib.compareBytes a.s.data.toList b.s.data.toList
  else if (a.kind == 3) = true then cmpI (oneB a.b) (oneB b.b) else if (a.kind == 4) = true then cmpI a.f b.f else 0
def orderV (a b : ValT) : Int := if (cmpI a.kind b.kind == 0) = true then restO a b else cmpI a.kind b.kind
set_option maxRecDepth 100000 in
set_option maxHeartbeats 4000000 in
theorem vOrder_any (a b : ValT) (w : World) : Calls Tryz.prog 82 #[valV a, valV b] w fun e w' => e = .returned (.int .i64 (orderV a b)) ∧ Gr w w' := by
  obtain ⟨w0, hw0, hg0, hs0, c0, c1, c2, c3, c4⟩ := boxV w a 44
  obtain ⟨w1, hw1, hg1, hs1, d0, d1, d2, d3, d4⟩ := boxV w0 b 44
  rw [hs0] at d0 d1 d2 d3 d4
  have cc := fun o => (hg1.xt.cells).1 w.heap.size o (by omega)
  have k0 := (cc 0).trans c0
  have k1 := (cc 1).trans c1
  have k2 := (cc 2).trans c2
  have k3 := (cc 3).trans c3
  have k4 := (cc 4).trans c4
  clear c0 c1 c2 c3 c4 cc hs1
  have HG := Lib.hid (hg0.trans hg1)
  clear hg0 hg1
  have HK := Lib.hid (fun w => compare_any a.kind b.kind w)
  have HF := Lib.hid (fun w => compare_any a.f b.f w)
  have HO := Lib.hid (fun w => compare_any (oneB a.b) (oneB b.b) w)
  have HP := Lib.hid (fun w => pOrder_any a.x b.x w)
  have HS := Lib.hid (fun w => sCompare_any a.s b.s w)
  have H1 := Lib.hid (fun w => vone_any a.b w)
  have H2 := Lib.hid (fun w => vone_any b.b w)
  generalize hn : orderV a b = ans
  have HA := Lib.hid hn
  unfold orderV restO at HA
  clear hn
  generalize cmpI a.kind b.kind = ck at HK HA
  generalize cmpI a.f b.f = cf at HF HA
  generalize cmpI (oneB a.b) (oneB b.b) = co at HO HA
  generalize pordX a.x b.x = po at HP HA
  generalize Lib.compareBytes a.s.data.toList b.s.data.toList = so at HS HA
  generalize oneB a.b = oa at HO H1
  generalize oneB b.b = ob at HO H2
  cases hck : ck == 0
  · go_enter Tryz.func82, Tryz.ntmps82
    go_wp2_with (go_at_call 123; refine (HK.out _).mono ?_; rintro e w' ⟨rfl, rfl⟩)
    go_ret
    exact ⟨by rw [← HA.out]; simp [hck], HG.out⟩
  cases h1 : a.kind == 1
  rotate_left
  · go_enter Tryz.func82, Tryz.ntmps82
    go_wp2_with (first | (go_at_call 123; refine (HK.out _).mono ?_; rintro e w' ⟨rfl, rfl⟩) | (go_at_call 124; refine (HP.out _).mono ?_; rintro e w' ⟨rfl, rfl⟩))
    go_ret
    exact ⟨by rw [← HA.out]; simp [hck, h1], HG.out⟩
  cases h2 : a.kind == 2
  rotate_left
  · go_enter Tryz.func82, Tryz.ntmps82
    go_wp2_with (first | (go_at_call 123; refine (HK.out _).mono ?_; rintro e w' ⟨rfl, rfl⟩) | (go_at_call 125; refine (HS.out _).mono ?_; rintro e w' ⟨rfl, rfl⟩))
    go_ret
    exact ⟨by rw [← HA.out]; simp [hck, h1, h2], HG.out⟩
  cases h3 : a.kind == 3
  rotate_left
  · go_enter Tryz.func82, Tryz.ntmps82
    go_wp2_with (first | (go_at_call 123; refine (HK.out _).mono ?_; clear HK; rintro e w' ⟨rfl, rfl⟩))
    go_quiet (first
      | ((go_at_call 126; exact Calls.quiet_of_same ((H1.out _).mono fun _ _ h => ⟨h.1, h.2.symm⟩)))
      | ((go_at_call 126; exact Calls.quiet_of_same ((H2.out _).mono fun _ _ h => ⟨h.1, h.2.symm⟩)))
      | ((go_at_call 123; exact Calls.quiet_of_same ((HO.out _).mono fun _ _ h => ⟨h.1, h.2.symm⟩))))
    go_wp2_with fail
    go_ret
    exact ⟨by rw [← HA.out]; simp [hck, h1, h2, h3], HG.out.drewN _⟩
  cases h4 : a.kind == 4
  · go_enter Tryz.func82, Tryz.ntmps82
    go_wp2_with (first | (go_at_call 123; refine (HK.out _).mono ?_; clear HK; rintro e w' ⟨rfl, rfl⟩))
    go_ret
    exact ⟨by rw [← HA.out]; simp [hck, h1, h2, h3, h4], HG.out⟩
  · go_enter Tryz.func82, Tryz.ntmps82
    go_wp2_with (first | (go_at_call 123; refine (HK.out _).mono ?_; clear HK; rintro e w' ⟨rfl, rfl⟩) | (go_at_call 123; refine (HF.out _).mono ?_; clear HF; rintro e w' ⟨rfl, rfl⟩))
    go_ret
    exact ⟨by rw [← HA.out]; simp [hck, h1, h2, h3, h4], HG.out⟩
/-- What a value is the same by. -/
inductive KeyV where
  | n (p : Int) | s (l : List UInt8) | b (b : Bool) | f (f : Int) | o
def keyV (v : ValT) : Int × KeyV := (v.kind, if (v.kind == 1) = true then .n (placeX v.x) else if (v.kind == 2) = true then .s v.s.data.toList else if (v.kind == 3) = true then .b v.b else if (v.kind == 4) = true then .f v.f else .o)
theorem cmpI_0 (a b : Int) : cmpI a b = 0 ↔ a = b := by
  unfold cmpI
  split <;> (try split) <;> omega
theorem order_key (a b : ValT) : orderV a b = 0 ↔ keyV a = keyV b := by
  unfold orderV restO keyV
  cases hc : cmpI a.kind b.kind == 0
  · have h : ¬ a.kind = b.kind := by rw [← cmpI_0]; simpa using hc
    simp only [Bool.false_eq_true, if_false]
    refine ⟨fun h2 => absurd ((cmpI_0 _ _).1 h2) h, fun h2 => absurd (congrArg Prod.fst h2) h⟩
  · have h : a.kind = b.kind := by rw [← cmpI_0]; simpa using hc
    rw [h]
    simp only [if_true]
    by_cases h1 : (b.kind == 1) = true
    · simp only [h1, if_true]; unfold pordX; rw [cmpI_0]; simp
    · simp only [h1, Bool.false_eq_true, if_false]
      by_cases h2 : (b.kind == 2) = true
      · simp only [h2, if_true]; rw [compare_0]; simp
      · simp only [h2, Bool.false_eq_true, if_false]
        by_cases h3 : (b.kind == 3) = true
        · simp only [h3, if_true]; rw [cmpI_0]; cases a.b <;> cases b.b <;> simp [oneB]
        · simp only [h3, Bool.false_eq_true, if_false]
          by_cases h4 : (b.kind == 4) = true
          · simp only [h4, if_true]; rw [cmpI_0]; simp
          · simp [h4]
noncomputable def sameVB (a b : ValT) : Bool := @decide (keyV a = keyV b) (Classical.propDecidable _)
theorem vSame_any (a b : ValT) (w : World) : Calls Tryz.prog 50 #[valV a, valV b] w fun e w' => e = .returned (.bool (sameVB a b)) ∧ Gr w w' := by
  obtain ⟨w0, hw0, hg0, hs0, c0, c1, c2, c3, c4⟩ := boxV w a 44
  obtain ⟨w1, hw1, hg1, hs1, d0, d1, d2, d3, d4⟩ := boxV w0 b 44
  rw [hs0] at d0 d1 d2 d3 d4
  have cc := fun o => (hg1.xt.cells).1 w.heap.size o (by omega)
  have k0 := (cc 0).trans c0
  have k1 := (cc 1).trans c1
  have k2 := (cc 2).trans c2
  have k3 := (cc 3).trans c3
  have k4 := (cc 4).trans c4
  clear c0 c1 c2 c3 c4 cc hs1
  have HG := Lib.hid (hg0.trans hg1)
  clear hg0 hg1
  have HC := Lib.hid (vOrder_any a b w1)
  have HK := Lib.hid (order_key a b)
  generalize orderV a b = ov at HC HK
  go_enter Tryz.func50, Tryz.ntmps50
  go_wp2_with (refine (HC.out).mono ?_; rintro e w2 ⟨rfl, hg2⟩; have HG2 := Lib.hid hg2; clear hg2)
  go_ret
  refine ⟨?_, HG.out.trans HG2.out⟩
  have hk := HK.out
  unfold sameVB
  by_cases h : ov = 0
  · have h2 := hk.1 h
    simp [h, h2]
  · have h2 : ¬ keyV a = keyV b := fun e => h (hk.2 e)
    simp [h, h2]
end Go.Proofs.YtdoeejhdenifpaaGreatDoor
