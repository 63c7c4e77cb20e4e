import Derived.Test.YtakcadkffmfneaaDoorA2
import Derived.Test.YtakcadkffmfneaaDoorD6
import Derived.Laws.Rows
import Derived.Laws.ResultCell
import Derived.Laws.EntriesVeiled
/- move: where a line is brought; where those from one to another one are. -/
namespace Go.Proofs.YtakcadkffmfneaaDoor
open Go.RowKit Go.Sort

/-- Lines put in (or taken out, below 0) at one; how many there are. -/
structure LinT where
  at_ : Int
  n : Int
  many : Int
abbrev linV (l : LinT) : Value := .agg #[.int .i64 l.at_, .int .i64 l.n, .int .i64 l.many]
def lineF (l : LinT) (k : Int) : Int × Bool :=
  if k < l.at_ then (k, true) else if 0 ≤ l.n then (wrap64 (k + l.n), decide (wrap64 (k + l.n) ≤ l.many)) else (wrap64 (k + l.n), decide (wrap64 (l.at_ - l.n) ≤ k))
set_option maxRecDepth 100000 in
set_option maxHeartbeats 2000000 in
theorem line_any (l : LinT) (k : Int) (w : World) :
    Calls Tryd.prog 46 #[linV l, .int .i64 k] w fun e w' => e = .returned (.tuple #[.int .i64 (lineF l k).1, .bool (lineF l k).2]) ∧ Gr w w' := by
  obtain ⟨a, n, m⟩ := l
  unfold lineF
  simp only
  obtain ⟨w0, hw0⟩ : ∃ w0, w.alloc (.cells #[.int .i64 a, .int .i64 n, .int .i64 m] 73) = w0 := ⟨_, rfl⟩
  have hr : w0.heap[w.heap.size]? = some (.cells #[.int .i64 a, .int .i64 n, .int .i64 m] 73 (0, 0)) := by rw [← hw0]; exact (MapKept.heap_alloc w _).1
  have c0 : w0.cell? ⟨w.heap.size, 0, none⟩ = some (.int .i64 a) := by simp [World.cell?, hr]
  have c1 : w0.cell? ⟨w.heap.size, 1, none⟩ = some (.int .i64 n) := by simp [World.cell?, hr]
  have c2 : w0.cell? ⟨w.heap.size, 2, none⟩ = some (.int .i64 m) := by simp [World.cell?, hr]
  have HG : Hid (Gr w w0) := by unfold Hid; rw [← hw0]; exact (Gr.refl _).alloc _
  clear hr
  by_cases h1 : k < a
  · rw [if_pos h1]
    go_enter Tryd.func46, Tryd.ntmps46
    go_wp2_with fail
    go_ret2
    exact ⟨rfl, HG.out⟩
  rw [if_neg h1]
  by_cases h2 : 0 ≤ n
  · rw [if_pos h2]
    obtain ⟨s, hs⟩ : ∃ s, wrap64 (k + n) = s := ⟨_, rfl⟩
    go_enter Tryd.func46, Tryd.ntmps46
    go_wp2_with fail
    go_quiet (fail)
    go_wp2_with fail
    go_ret2
    exact ⟨by simp [hs], HG.out.drewN _⟩
  · rw [if_neg h2]
    obtain ⟨s, hs⟩ : ∃ s, wrap64 (k + n) = s := ⟨_, rfl⟩
    obtain ⟨q, hq⟩ : ∃ q, wrap64 (a - n) = q := ⟨_, rfl⟩
    go_enter Tryd.func46, Tryd.ntmps46
    go_wp2_with fail
    go_quiet (fail)
    go_wp2_with fail
    go_ret2
    exact ⟨by simp [hs, hq], HG.out.drewN _⟩
def spanG (l : LinT) : Nat → Int → Int → Int → Int × Int
  | 0, _, f, t => (f, t)
  | n + 1, k, f, t => if (lineF l k).2 = true then spanG l n (k + 1) (if f = 0 then (lineF l k).1 else f) (lineF l k).1 else spanG l n (k + 1) f t
def spanF (l : LinT) (a b : Int) : Int × Int × Bool := ((spanG l (b - a + 1).toNat a 0 0).1, (spanG l (b - a + 1).toNat a 0 0).2, decide (0 < (spanG l (b - a + 1).toNat a 0 0).1))
theorem spanG_step {l : LinT} {k b f t : Int} (h : k ≤ b) : spanG l (b - k + 1).toNat k f t = if (lineF l k).2 = true then spanG l (b - (k + 1) + 1).toNat (k + 1) (if f = 0 then (lineF l k).1 else f) (lineF l k).1 else spanG l (b - (k + 1) + 1).toNat (k + 1) f t := by
  have e : (b - k + 1).toNat = (b - (k + 1) + 1).toNat + 1 := by omega
  rw [e]; rfl
theorem spanG_end {l : LinT} {k b f t : Int} (h : b < k) : spanG l (b - k + 1).toNat k f t = (f, t) := by
  have e : (b - k + 1).toNat = 0 := by omega
  rw [e]; rfl
set_option maxRecDepth 100000 in
set_option maxHeartbeats 4000000 in
theorem span_any (l : LinT) (a b : Int) (w : World) (ha : -4611686018427387904 ≤ a) (hb : b ≤ 4611686018427387904) :
    Calls Tryd.prog 48 #[linV l, .int .i64 a, .int .i64 b] w fun e w' => e = .returned (.tuple #[.int .i64 (spanF l a b).1, .int .i64 (spanF l a b).2.1, .bool (spanF l a b).2.2]) ∧ Gr w w' := by
  obtain ⟨w0, hw0⟩ : ∃ w0, w.alloc (.cells #[.int .i64 l.at_, .int .i64 l.n, .int .i64 l.many] 73) = w0 := ⟨_, rfl⟩
  have hr : w0.heap[w.heap.size]? = some (.cells #[.int .i64 l.at_, .int .i64 l.n, .int .i64 l.many] 73 (0, 0)) := by rw [← hw0]; exact (MapKept.heap_alloc w _).1
  have c0 : w0.cell? ⟨w.heap.size, 0, none⟩ = some (.int .i64 l.at_) := by simp [World.cell?, hr]
  have c1 : w0.cell? ⟨w.heap.size, 1, none⟩ = some (.int .i64 l.n) := by simp [World.cell?, hr]
  have c2 : w0.cell? ⟨w.heap.size, 2, none⟩ = some (.int .i64 l.many) := by simp [World.cell?, hr]
  have HG : Hid (Gr w w0) := by unfold Hid; rw [← hw0]; exact (Gr.refl _).alloc _
  have hs0 : w0.heap.size = w.heap.size + 1 := by rw [← hw0]; simp
  unfold spanF
  obtain ⟨r, hr0⟩ : ∃ r, spanG l (b - a + 1).toNat a 0 0 = r := ⟨_, rfl⟩
  have HR := Lib.hid hr0
  rw [hr0]
  clear hr hr0
  go_enter Tryd.func48, Tryd.ntmps48
  go_wp2_with fail
  clear hw0
  go_loopw [9, 10, 11] (fun s9 s10 s11 wr => ∃ k f t : Int, -4611686018427387904 ≤ k ∧ s11 = .int .i64 k ∧ s9 = .int .i64 f ∧ s10 = .int .i64 t ∧ Hid (spanG l (b - k + 1).toNat k f t = r) ∧ Hid (Gr w0 wr)) (fun _ _ s11 _ => (b + 1 - intOf s11).toNat)
  case atStart => exact ⟨a, 0, 0, ha, rfl, rfl, rfl, HR, Gr.refl _⟩
  case round =>
    obtain ⟨k, f, t, hk, rfl, rfl, rfl, HS, HGr⟩ := hrel
    have k0 := ((HGr.out.xt.cells).1 w.heap.size 0 (by omega)).trans c0
    have k1 := ((HGr.out.xt.cells).1 w.heap.size 1 (by omega)).trans c1
    have k2 := ((HGr.out.xt.cells).1 w.heap.size 2 (by omega)).trans c2
    by_cases hlt : k ≤ b
    · have hst := HS.out
      rw [spanG_step hlt] at hst
      have HST := Lib.hid hst
      have HC := Lib.hid (line_any l k wr)
      generalize lineF l k = lf at HC HST
      obtain ⟨m, ok⟩ := lf
      simp only at HC HST
      have hadd : wrap64 (k + 1) = k + 1 := by unfold wrap64; omega
      clear hst
      go_wp2_with fail
      refine (HC.out).mono ?_
      rintro e w2 ⟨rfl, hg2⟩
      have HG2 := Lib.hid (HGr.out.trans hg2)
      clear hg2 k0 k1 k2
      cases ok
      · have HN : Hid (spanG l (b - (k + 1) + 1).toNat (k + 1) f t = r) := by have h := HST.out; unfold Hid; simpa using h
        go_wp2_with fail
        go_roundw
        case rel => exact ⟨k + 1, f, t, by omega, rfl, rfl, rfl, HN, HG2.out⟩
        case measure => simp [intOf]; omega
      · by_cases hf : f = 0
        · subst hf
          have HN : Hid (spanG l (b - (k + 1) + 1).toNat (k + 1) m m = r) := by have h := HST.out; unfold Hid; simpa using h
          go_wp2_with fail
          go_roundw
          case rel => exact ⟨k + 1, m, m, by omega, rfl, rfl, rfl, HN, HG2.out⟩
          case measure => simp [intOf]; omega
        · have hfb : (f == 0) = false := by simpa using hf
          have HN : Hid (spanG l (b - (k + 1) + 1).toNat (k + 1) f m = r) := by have h := HST.out; unfold Hid; simpa [hf] using h
          go_wp2_with fail
          go_roundw
          case rel => exact ⟨k + 1, f, m, by omega, rfl, rfl, rfl, HN, HG2.out⟩
          case measure => simp [intOf]; omega
    · have hE := HS.out
      rw [spanG_end (by omega)] at hE
      have HE := Lib.hid hE
      clear hE
      go_wp2_with fail
      refine bodyPost_ret (v := .tuple #[.int .i64 f, .int .i64 t, .bool (decide (0 < f))]) (by simp [results]) rfl ?_
      exact ⟨by rw [← HE.out], HG.out.trans HGr.out⟩
end Go.Proofs.YtakcadkffmfneaaDoor
/- move: the roads of lines put in or taken out (closures). -/
namespace Go.Proofs.YtakcadkffmfneaaDoor
open Go.RowKit Go.Sort

theorem rowX {w w' : World} (hx : Xt w w') {b : Nat} {o : Obj} (h : w.heap[b]? = some o) : w'.heap[b]? = some o := (hx.block b (Array.getElem?_eq_some_iff.1 h).1).trans h
/-- Lines in a cell of their own, and whether they are columns. -/
structure LinAt (w : World) (pc pl : Nat) (cols : Bool) (l : LinT) : Prop where
  c : w.cell? ⟨pc, 0, none⟩ = some (.bool cols)
  c0 : w.cell? ⟨pl, 0, none⟩ = some (.int .i64 l.at_)
  c1 : w.cell? ⟨pl, 1, none⟩ = some (.int .i64 l.n)
  c2 : w.cell? ⟨pl, 2, none⟩ = some (.int .i64 l.many)
theorem LinAt.xt {w w' : World} {pc pl : Nat} {cols : Bool} {l : LinT} (h : LinAt w pc pl cols l) (hx : Xt w w') : LinAt w' pc pl cols l :=
  ⟨((hx.cells).1 _ _ (World.block_lt_of_cell? w _ h.c)).trans h.c, ((hx.cells).1 _ _ (World.block_lt_of_cell? w _ h.c0)).trans h.c0, ((hx.cells).1 _ _ (World.block_lt_of_cell? w _ h.c1)).trans h.c1, ((hx.cells).1 _ _ (World.block_lt_of_cell? w _ h.c2)).trans h.c2⟩
def cellF (cols : Bool) (l : LinT) (a : Int × Int) : (Int × Int) × Bool := if cols = true then (((lineF l a.1).1, a.2), (lineF l a.1).2) else ((a.1, (lineF l a.2).1), (lineF l a.2).2)
theorem cells2 {w : World} {b : Nat} {u v : Value} {T : TypeId} (h : w.heap[b]? = some (.cells #[u, v] T (0, 0))) : w.cell? ⟨b, 0, none⟩ = some u ∧ w.cell? ⟨b, 1, none⟩ = some v ∧ w.frozen? ⟨b, 0, none⟩ = false ∧ w.frozen? ⟨b, 1, none⟩ = false := by
  refine ⟨?_, ?_, ?_, ?_⟩ <;> simp [World.cell?, World.frozen?, h]
set_option maxRecDepth 100000 in
set_option maxHeartbeats 4000000 in
theorem road1_any (cols : Bool) (l : LinT) (a : Int × Int) (pc pl : Nat) (w : World) (h : LinAt w pc pl cols l) :
    Calls Tryd.prog 45 #[.agg #[.int .i64 a.1, .int .i64 a.2], .pointer (some ⟨pc, 0, none⟩), .pointer (some ⟨pl, 0, none⟩)] w fun e w' => e = .returned (.tuple #[.agg #[.int .i64 (cellF cols l a).1.1, .int .i64 (cellF cols l a).1.2], .bool (cellF cols l a).2]) ∧ Xt w w' := by
  obtain ⟨B, hB⟩ : ∃ B, w.heap.size = B := ⟨_, rfl⟩
  obtain ⟨w0, hw0⟩ : ∃ w0, w.alloc (.cells #[.int .i64 a.1, .int .i64 a.2] 28) = w0 := ⟨_, rfl⟩
  have hs0 : w0.heap.size = B + 1 := by rw [← hw0, ← hB]; simp
  obtain ⟨w1, hw1⟩ : ∃ w1, w0.alloc (.cells #[.int .i64 0, .int .i64 0] 28) = w1 := ⟨_, rfl⟩
  have hx1 : Xt w w1 := by rw [← hw1, ← hw0]; exact ((Xt.refl w).alloc _).alloc _
  have HB : Hid (w1.heap[B]? = some (.cells #[.int .i64 a.1, .int .i64 a.2] 28 (0, 0))) := by
    unfold Hid; rw [← hw1]; exact (Below.heap_alloc w0 _ _ (by omega)).trans (by rw [← hw0, ← hB]; exact (MapKept.heap_alloc w _).1)
  have HR : Hid (w1.heap[B + 1]? = some (.cells #[.int .i64 0, .int .i64 0] 28 (0, 0))) := by
    unfold Hid; rw [← hw1, ← hs0]; exact (MapKept.heap_alloc w0 _).1
  obtain ⟨c, c0, c1, c2⟩ := h.xt hx1
  obtain ⟨b0, b1, f0, f1⟩ := cells2 HB.out
  have HX1 := Lib.hid hx1
  have hBB := Lib.hid hB
  clear hx1 h
  unfold cellF
  cases cols
  ·
    have HC := Lib.hid (line_any l a.2)
    generalize lineF l a.2 = r at HC ⊢
    obtain ⟨m, ok⟩ := r
    go_enter Tryd.func45, Tryd.ntmps45
    go_wp2_with fail
    refine (HC.out _).mono ?_
    rintro e w2 ⟨rfl, hg2⟩
    have hb2 := rowX hg2.xt HB.out
    have hr2 := rowX hg2.xt HR.out
    obtain ⟨b0, b1, f0, f1⟩ := cells2 hb2
    obtain ⟨r0, r1, g0, g1⟩ := cells2 hr2
    have HX2 := Lib.hid (HX1.out.trans hg2.xt)
    obtain ⟨w3, hw3⟩ : ∃ w3, w2.setCell ⟨B, 1, none⟩ (.int .i64 m) = w3 := ⟨_, rfl⟩
    have hb3 : w3.heap[B]? = some (.cells #[.int .i64 a.1, .int .i64 m] 28 (0, 0)) := by rw [← hw3]; exact setCell_row hb2 1 _
    have hr3 : w3.heap[B + 1]? = some (.cells #[.int .i64 0, .int .i64 0] 28 (0, 0)) := by rw [← hw3]; exact (Below.heap_setCell _ _ _ _ (by simp)).trans hr2
    have hx3 : Xt w w3 := by rw [← hw3]; exact HX2.out.grownB (setCell_grown _ _ _ _) (fun q hq => by cases hq; rw [hBB.out]; exact Nat.le_refl _)
    obtain ⟨d0, d1, _, _⟩ := cells2 hb3
    obtain ⟨e0, e1, g2, g3⟩ := cells2 hr3
    have hrow : ((w3.setCell ⟨B + 1, 0, none⟩ (.int .i64 a.1)).setCell ⟨B + 1, 1, none⟩ (.int .i64 m)).heap[B + 1]? = some (.cells #[.int .i64 a.1, .int .i64 m] 28 (0, 0)) := setCell_row (setCell_row hr3 0 _) 1 _
    have hxe : Xt w ((w3.setCell ⟨B + 1, 0, none⟩ (.int .i64 a.1)).setCell ⟨B + 1, 1, none⟩ (.int .i64 m)) := (hx3.grownB (setCell_grown _ _ _ _) (fun q hq => by cases hq; rw [hBB.out]; omega)).grownB (setCell_grown _ _ _ _) (fun q hq => by cases hq; rw [hBB.out]; omega)
    clear hw0 hw1 c c0 c1 c2 hb2 hr2 hg2
    go_wp2_with fail
    (try simp only [Exit.inBlock, Exit.then])
    refine bodyPost_ret (v := .tuple #[.agg #[.int .i64 a.1, .int .i64 m], .bool ok]) ?_ rfl ⟨rfl, hxe⟩
    rw [results_cell_tmp rfl]
    show ((asAddr (.pointer (some ⟨B + 1, 0, none⟩))).run _ _).andThen _ = _
    simp only [asAddr, Sem.run_pure, Result.andThen_ok, run_loadVar_row _ _ _ 28 _ _ _ hrow Tryd.underlying28 rfl (by kernel_rfl)]
    rfl
  ·
    have HC := Lib.hid (line_any l a.1)
    generalize lineF l a.1 = r at HC ⊢
    obtain ⟨m, ok⟩ := r
    go_enter Tryd.func45, Tryd.ntmps45
    go_wp2_with fail
    refine (HC.out _).mono ?_
    rintro e w2 ⟨rfl, hg2⟩
    have hb2 := rowX hg2.xt HB.out
    have hr2 := rowX hg2.xt HR.out
    obtain ⟨b0, b1, f0, f1⟩ := cells2 hb2
    obtain ⟨r0, r1, g0, g1⟩ := cells2 hr2
    have HX2 := Lib.hid (HX1.out.trans hg2.xt)
    obtain ⟨w3, hw3⟩ : ∃ w3, w2.setCell ⟨B, 0, none⟩ (.int .i64 m) = w3 := ⟨_, rfl⟩
    have hb3 : w3.heap[B]? = some (.cells #[.int .i64 m, .int .i64 a.2] 28 (0, 0)) := by rw [← hw3]; exact setCell_row hb2 0 _
    have hr3 : w3.heap[B + 1]? = some (.cells #[.int .i64 0, .int .i64 0] 28 (0, 0)) := by rw [← hw3]; exact (Below.heap_setCell _ _ _ _ (by simp)).trans hr2
    have hx3 : Xt w w3 := by rw [← hw3]; exact HX2.out.grownB (setCell_grown _ _ _ _) (fun q hq => by cases hq; rw [hBB.out]; exact Nat.le_refl _)
    obtain ⟨d0, d1, _, _⟩ := cells2 hb3
    obtain ⟨e0, e1, g2, g3⟩ := cells2 hr3
    have hrow : ((w3.setCell ⟨B + 1, 0, none⟩ (.int .i64 m)).setCell ⟨B + 1, 1, none⟩ (.int .i64 a.2)).heap[B + 1]? = some (.cells #[.int .i64 m, .int .i64 a.2] 28 (0, 0)) := setCell_row (setCell_row hr3 0 _) 1 _
    have hxe : Xt w ((w3.setCell ⟨B + 1, 0, none⟩ (.int .i64 m)).setCell ⟨B + 1, 1, none⟩ (.int .i64 a.2)) := (hx3.grownB (setCell_grown _ _ _ _) (fun q hq => by cases hq; rw [hBB.out]; omega)).grownB (setCell_grown _ _ _ _) (fun q hq => by cases hq; rw [hBB.out]; omega)
    clear hw0 hw1 c c0 c1 c2 hb2 hr2 hg2
    go_wp2_with fail
    (try simp only [Exit.inBlock, Exit.then])
    refine bodyPost_ret (v := .tuple #[.agg #[.int .i64 m, .int .i64 a.2], .bool ok]) ?_ rfl ⟨rfl, hxe⟩
    rw [results_cell_tmp rfl]
    show ((asAddr (.pointer (some ⟨B + 1, 0, none⟩))).run _ _).andThen _ = _
    simp only [asAddr, Sem.run_pure, Result.andThen_ok, run_loadVar_row _ _ _ 28 _ _ _ hrow Tryd.underlying28 rfl (by kernel_rfl)]
    rfl
end Go.Proofs.YtakcadkffmfneaaDoor
/- move: the areas' road of lines put in or taken out (made by mkm3.py). -/
namespace Go.Proofs.YtakcadkffmfneaaDoor
open Go.RowKit Go.Sort

/-- An area's four numbers. -/
structure ArT where
  a : Int
  b : Int
  c : Int
  d : Int
abbrev arT (x : ArT) : Value := .agg #[.int .i64 x.a, .int .i64 x.b, .int .i64 x.c, .int .i64 x.d]
def areaF (cols : Bool) (l : LinT) (x : ArT) : ArT × Bool := if cols = true then (⟨(spanF l x.a x.c).1, x.b, (spanF l x.a x.c).2.1, x.d⟩, (spanF l x.a x.c).2.2) else (⟨x.a, (spanF l x.b x.d).1, x.c, (spanF l x.b x.d).2.1⟩, (spanF l x.b x.d).2.2)
def ArT.ok (x : ArT) : Prop := -4611686018427387904 ≤ x.a ∧ -4611686018427387904 ≤ x.b ∧ x.c ≤ 4611686018427387904 ∧ x.d ≤ 4611686018427387904
theorem cells4 {w : World} {b : Nat} {u v x y : Value} {T : TypeId} (h : w.heap[b]? = some (.cells #[u, v, x, y] T (0, 0))) : (w.cell? ⟨b, 0, none⟩ = some u ∧ w.cell? ⟨b, 1, none⟩ = some v ∧ w.cell? ⟨b, 2, none⟩ = some x ∧ w.cell? ⟨b, 3, none⟩ = some y) ∧ w.frozen? ⟨b, 0, none⟩ = false ∧ w.frozen? ⟨b, 1, none⟩ = false ∧ w.frozen? ⟨b, 2, none⟩ = false ∧ w.frozen? ⟨b, 3, none⟩ = false := by
  refine ⟨⟨?_, ?_, ?_, ?_⟩, ?_, ?_, ?_, ?_⟩ <;> simp [World.cell?, World.frozen?, h]
set_option maxRecDepth 100000 in
set_option maxHeartbeats 4000000 in
theorem road2_any (cols : Bool) (l : LinT) (x : ArT) (hx : x.ok) (pc pl : Nat) (w : World) (h : LinAt w pc pl cols l) :
    Calls Tryd.prog 47 #[arT x, .pointer (some ⟨pc, 0, none⟩), .pointer (some ⟨pl, 0, none⟩)] w fun e w' => e = .returned (.tuple #[arT (areaF cols l x).1, .bool (areaF cols l x).2]) ∧ Xt w w' := by
  obtain ⟨B, hB⟩ : ∃ B, w.heap.size = B := ⟨_, rfl⟩
  obtain ⟨w0, hw0⟩ : ∃ w0, w.alloc (.cells #[.int .i64 x.a, .int .i64 x.b, .int .i64 x.c, .int .i64 x.d] 54) = w0 := ⟨_, rfl⟩
  have hs0 : w0.heap.size = B + 1 := by rw [← hw0, ← hB]; simp
  obtain ⟨w1, hw1⟩ : ∃ w1, w0.alloc (.cells #[.int .i64 0, .int .i64 0, .int .i64 0, .int .i64 0] 54) = w1 := ⟨_, rfl⟩
  have hx1 : Xt w w1 := by rw [← hw1, ← hw0]; exact ((Xt.refl w).alloc _).alloc _
  have HB : Hid (w1.heap[B]? = some (.cells #[.int .i64 x.a, .int .i64 x.b, .int .i64 x.c, .int .i64 x.d] 54 (0, 0))) := by
    unfold Hid; rw [← hw1]; exact (Below.heap_alloc w0 _ _ (by omega)).trans (by rw [← hw0, ← hB]; exact (MapKept.heap_alloc w _).1)
  have HR : Hid (w1.heap[B + 1]? = some (.cells #[.int .i64 0, .int .i64 0, .int .i64 0, .int .i64 0] 54 (0, 0))) := by
    unfold Hid; rw [← hw1, ← hs0]; exact (MapKept.heap_alloc w0 _).1
  obtain ⟨c, c0, c1, c2⟩ := h.xt hx1
  obtain ⟨⟨b0, b1, b2, b3⟩, f0, f1, f2, f3⟩ := cells4 HB.out
  obtain ⟨q1, q2, q3, q4⟩ := hx
  have HX1 := Lib.hid hx1
  have hBB := Lib.hid hB
  clear hx1 h
  unfold areaF
  cases cols
  · have HC := Lib.hid (fun w => span_any l x.b x.d w (by omega) (by omega))
    generalize spanF l x.b x.d = r at HC ⊢
    obtain ⟨m1, m2, ok⟩ := r
    go_enter Tryd.func47, Tryd.ntmps47
    go_wp2_with fail
    refine (HC.out _).mono ?_
    rintro e w2 ⟨rfl, hg2⟩
    have hb2 := rowX hg2.xt HB.out
    have hr2 := rowX hg2.xt HR.out
    obtain ⟨⟨b0, b1, b2, b3⟩, f0, f1, f2, f3⟩ := cells4 hb2
    obtain ⟨⟨r0, r1, r2, r3⟩, g0, g1, g2, g3⟩ := cells4 hr2
    have HX2 := Lib.hid (HX1.out.trans hg2.xt)
    obtain ⟨w3, hw3⟩ : ∃ w3, (w2.setCell ⟨B, 1, none⟩ (.int .i64 m1)).setCell ⟨B, 3, none⟩ (.int .i64 m2) = w3 := ⟨_, rfl⟩
    have hb3 : w3.heap[B]? = some (.cells #[.int .i64 x.a, .int .i64 m1, .int .i64 x.c, .int .i64 m2] 54 (0, 0)) := by rw [← hw3]; exact setCell_row (setCell_row hb2 1 _) 3 _
    have hr3 : w3.heap[B + 1]? = some (.cells #[.int .i64 0, .int .i64 0, .int .i64 0, .int .i64 0] 54 (0, 0)) := by rw [← hw3]; exact (Below.heap_setCell _ _ _ _ (by simp)).trans ((Below.heap_setCell _ _ _ _ (by simp)).trans hr2)
    have hx3 : Xt w w3 := by rw [← hw3]; exact (HX2.out.grownB (setCell_grown _ _ _ _) (fun q hq => by cases hq; rw [hBB.out]; exact Nat.le_refl _)).grownB (setCell_grown _ _ _ _) (fun q hq => by cases hq; rw [hBB.out]; exact Nat.le_refl _)
    obtain ⟨⟨d0, d1, d2, d3⟩, _⟩ := cells4 hb3
    obtain ⟨⟨e0, e1, e2, e3⟩, h0, h1, h2, h3⟩ := cells4 hr3
    have hrow : ((((w3.setCell ⟨B + 1, 0, none⟩ (.int .i64 x.a)).setCell ⟨B + 1, 1, none⟩ (.int .i64 m1)).setCell ⟨B + 1, 2, none⟩ (.int .i64 x.c)).setCell ⟨B + 1, 3, none⟩ (.int .i64 m2)).heap[B + 1]? = some (.cells #[.int .i64 x.a, .int .i64 m1, .int .i64 x.c, .int .i64 m2] 54 (0, 0)) := (setCell_row (setCell_row (setCell_row (setCell_row hr3 0 _) 1 _) 2 _) 3 _)
    have hxe : Xt w ((((w3.setCell ⟨B + 1, 0, none⟩ (.int .i64 x.a)).setCell ⟨B + 1, 1, none⟩ (.int .i64 m1)).setCell ⟨B + 1, 2, none⟩ (.int .i64 x.c)).setCell ⟨B + 1, 3, none⟩ (.int .i64 m2)) := ((((hx3.grownB (setCell_grown _ _ _ _) (fun q hq => by cases hq; rw [hBB.out]; omega)).grownB (setCell_grown _ _ _ _) (fun q hq => by cases hq; rw [hBB.out]; omega)).grownB (setCell_grown _ _ _ _) (fun q hq => by cases hq; rw [hBB.out]; omega)).grownB (setCell_grown _ _ _ _) (fun q hq => by cases hq; rw [hBB.out]; omega))
    clear hw0 hw1 c c0 c1 c2 hb2 hr2 hg2
    go_wp2_with fail
    (try simp only [Exit.inBlock, Exit.then])
    refine bodyPost_ret (v := .tuple #[.agg #[.int .i64 x.a, .int .i64 m1, .int .i64 x.c, .int .i64 m2], .bool ok]) ?_ rfl ⟨rfl, hxe⟩
    rw [results_cell_tmp rfl]
    show ((asAddr (.pointer (some ⟨B + 1, 0, none⟩))).run _ _).andThen _ = _
    simp only [asAddr, Sem.run_pure, Result.andThen_ok, run_loadVar_row _ _ _ 54 _ _ _ hrow Tryd.underlying54 rfl (by kernel_rfl)]
    rfl
  · have HC := Lib.hid (fun w => span_any l x.a x.c w (by omega) (by omega))
    generalize spanF l x.a x.c = r at HC ⊢
    obtain ⟨m1, m2, ok⟩ := r
    go_enter Tryd.func47, Tryd.ntmps47
    go_wp2_with fail
    refine (HC.out _).mono ?_
    rintro e w2 ⟨rfl, hg2⟩
    have hb2 := rowX hg2.xt HB.out
    have hr2 := rowX hg2.xt HR.out
    obtain ⟨⟨b0, b1, b2, b3⟩, f0, f1, f2, f3⟩ := cells4 hb2
    obtain ⟨⟨r0, r1, r2, r3⟩, g0, g1, g2, g3⟩ := cells4 hr2
    have HX2 := Lib.hid (HX1.out.trans hg2.xt)
    obtain ⟨w3, hw3⟩ : ∃ w3, (w2.setCell ⟨B, 0, none⟩ (.int .i64 m1)).setCell ⟨B, 2, none⟩ (.int .i64 m2) = w3 := ⟨_, rfl⟩
    have hb3 : w3.heap[B]? = some (.cells #[.int .i64 m1, .int .i64 x.b, .int .i64 m2, .int .i64 x.d] 54 (0, 0)) := by rw [← hw3]; exact setCell_row (setCell_row hb2 0 _) 2 _
    have hr3 : w3.heap[B + 1]? = some (.cells #[.int .i64 0, .int .i64 0, .int .i64 0, .int .i64 0] 54 (0, 0)) := by rw [← hw3]; exact (Below.heap_setCell _ _ _ _ (by simp)).trans ((Below.heap_setCell _ _ _ _ (by simp)).trans hr2)
    have hx3 : Xt w w3 := by rw [← hw3]; exact (HX2.out.grownB (setCell_grown _ _ _ _) (fun q hq => by cases hq; rw [hBB.out]; exact Nat.le_refl _)).grownB (setCell_grown _ _ _ _) (fun q hq => by cases hq; rw [hBB.out]; exact Nat.le_refl _)
    obtain ⟨⟨d0, d1, d2, d3⟩, _⟩ := cells4 hb3
    obtain ⟨⟨e0, e1, e2, e3⟩, h0, h1, h2, h3⟩ := cells4 hr3
    have hrow : ((((w3.setCell ⟨B + 1, 0, none⟩ (.int .i64 m1)).setCell ⟨B + 1, 1, none⟩ (.int .i64 x.b)).setCell ⟨B + 1, 2, none⟩ (.int .i64 m2)).setCell ⟨B + 1, 3, none⟩ (.int .i64 x.d)).heap[B + 1]? = some (.cells #[.int .i64 m1, .int .i64 x.b, .int .i64 m2, .int .i64 x.d] 54 (0, 0)) := (setCell_row (setCell_row (setCell_row (setCell_row hr3 0 _) 1 _) 2 _) 3 _)
    have hxe : Xt w ((((w3.setCell ⟨B + 1, 0, none⟩ (.int .i64 m1)).setCell ⟨B + 1, 1, none⟩ (.int .i64 x.b)).setCell ⟨B + 1, 2, none⟩ (.int .i64 m2)).setCell ⟨B + 1, 3, none⟩ (.int .i64 x.d)) := ((((hx3.grownB (setCell_grown _ _ _ _) (fun q hq => by cases hq; rw [hBB.out]; omega)).grownB (setCell_grown _ _ _ _) (fun q hq => by cases hq; rw [hBB.out]; omega)).grownB (setCell_grown _ _ _ _) (fun q hq => by cases hq; rw [hBB.out]; omega)).grownB (setCell_grown _ _ _ _) (fun q hq => by cases hq; rw [hBB.out]; omega))
    clear hw0 hw1 c c0 c1 c2 hb2 hr2 hg2
    go_wp2_with fail
    (try simp only [Exit.inBlock, Exit.then])
    refine bodyPost_ret (v := .tuple #[.agg #[.int .i64 m1, .int .i64 x.b, .int .i64 m2, .int .i64 x.d], .bool ok]) ?_ rfl ⟨rfl, hxe⟩
    rw [results_cell_tmp rfl]
    show ((asAddr (.pointer (some ⟨B + 1, 0, none⟩))).run _ _).andThen _ = _
    simp only [asAddr, Sem.run_pure, Result.andThen_ok, run_loadVar_row _ _ _ 54 _ _ _ hrow Tryd.underlying54 rfl (by kernel_rfl)]
    rfl
end Go.Proofs.YtakcadkffmfneaaDoor
/- move: the roads of lines, as two func values. -/
namespace Go.Proofs.YtakcadkffmfneaaDoor
open Go.RowKit Go.Sort

abbrev roadV (pc pl : Nat) : Value := .agg #[.func (.func 45) #[] #[.pointer (some ⟨pc, 0, none⟩), .pointer (some ⟨pl, 0, none⟩)], .func (.func 47) #[] #[.pointer (some ⟨pc, 0, none⟩), .pointer (some ⟨pl, 0, none⟩)]]
set_option maxRecDepth 100000 in
set_option maxHeartbeats 4000000 in
theorem road_any (cols : Bool) (l : LinT) (w : World) :
    Calls Tryd.prog 32 #[linV l, .bool cols] w fun e w' => ∃ pc pl, e = .returned (roadV pc pl) ∧ LinAt w' pc pl cols l ∧ Xt w w' := by
  go_enter Tryd.func32, Tryd.ntmps32
  go_wp2_with fail
  obtain ⟨w0, hw0⟩ : ∃ w0, w.alloc (.cells #[.int .i64 l.at_, .int .i64 l.n, .int .i64 l.many] 73) = w0 := ⟨_, rfl⟩
  rw [hw0]
  have hs0 : w0.heap.size = w.heap.size + 1 := by rw [← hw0]; simp
  obtain ⟨w1, hw1⟩ : ∃ w1, w0.alloc (.cells #[.bool cols] 4) = w1 := ⟨_, rfl⟩
  rw [hw1]
  have hs1 : w1.heap.size = w.heap.size + 1 + 1 := by rw [← hw1]; simp [hs0]
  have hr0 : w1.heap[w.heap.size]? = some (.cells #[.int .i64 l.at_, .int .i64 l.n, .int .i64 l.many] 73 (0, 0)) := by
    rw [← hw1]; exact (Below.heap_alloc w0 _ _ (by omega)).trans (by rw [← hw0]; exact (MapKept.heap_alloc w _).1)
  have hr1 : w1.heap[w.heap.size + 1]? = some (.cells #[.bool cols] 4 (0, 0)) := by rw [← hw1, ← hs0]; exact (MapKept.heap_alloc w0 _).1
  have hx1 : Xt w w1 := by rw [← hw1, ← hw0]; exact ((Xt.refl w).alloc _).alloc _
  have hL : LinAt w1 (w.heap.size + 1) w.heap.size cols l := ⟨by simp [World.cell?, hr1], by simp [World.cell?, hr0], by simp [World.cell?, hr0], by simp [World.cell?, hr0]⟩
  refine bodyPost_ret (results_cell_row rfl _ _ (w.heap.size + 1 + 1) _ _ _ _ rfl (by rw [← hs1]; exact (MapKept.heap_alloc w1 _).1) Tryd.underlying79 rfl (by kernel_rfl)) rfl ?_
  exact ⟨_, _, rfl, hL.xt ((Xt.refl w1).alloc _), hx1.alloc _⟩
end Go.Proofs.YtakcadkffmfneaaDoor
