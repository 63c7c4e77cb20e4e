import Derived.Test.YtfpdleljhbkehaaDoorB2
import Derived.Test.YtfpdleljhbkehaaDoorB4
import Derived.Test.YtfpdleljhbkehaaDoorW51
import Derived.Test.YtfpdleljhbkehaaDoorA7
import Derived.RangeFuncWrites
import Derived.Test.YtfpdleljhbkehaaDoorA2
import Derived.Test.YtfpdleljhbkehaaDoorW25
/- Lists of puts that came in; what is kept while a grid is put into. -/
namespace Go.Proofs.YtfpdleljhbkehaaDoor
open Go.RowKit Go.Sort Go.MapKept Go.Maps Go.Shelf

/-! ### puts that came in -/
structure PI where
  a : Ad
  c : ContT
  p : Option Addr
  cap : Nat
def inC1 (x : PI) : List Value := [.int .i64 x.a.1, .int .i64 x.a.2, .int .i64 x.c.kind, .int .i64 x.c.v.kind, .float .f64 x.c.v.x, .string x.c.v.s, .bool x.c.v.b, .int .i64 x.c.v.f, .int .i64 x.c.t.kind, .int .i64 x.c.t.op, .float .f64 x.c.t.x, .string x.c.t.s, .bool x.c.t.b, .int .i64 x.c.t.f, .int .i64 x.c.t.ref.a.1, .int .i64 x.c.t.ref.a.2, .bool x.c.t.ref.cf, .bool x.c.t.ref.rf, .int .i64 x.c.t.to.a.1, .int .i64 x.c.t.to.a.2, .bool x.c.t.to.cf, .bool x.c.t.to.rf, .slice x.p x.c.t.args.length x.cap]
abbrev PI.cv (x : PI) : Value := contV x.c x.p x.c.t.args.length x.cap
structure PutsIn (w : World) (v : Value) (l : List PI) : Prop where
  sl : SlOf w inC1 23 v l
  args : ∀ x ∈ l, x.c.ok ∧ ∃ n, ArgsIn w n (.slice x.p x.c.t.args.length x.cap) x.c.t.args
theorem SlOf.keptC {α : Type} {w w' : World} {enc : α → List Value} {sz : Nat} {v : Value} {l : List α} (h : SlOf w enc sz v l) (hx : CellsIn w w') : SlOf w' enc sz v l := by
  obtain ⟨a, cap, rfl, h1, h2, h3⟩ := h
  exact ⟨a, cap, rfl, h1, h2, fun hl => let ⟨b, off, e, hc⟩ := h3 hl; ⟨b, off, e, fun j x hx' i u hu => hx _ _ _ (hc j x hx' i u hu)⟩⟩
theorem PutsIn.kept {w w' : World} {v : Value} {l : List PI} (h : PutsIn w v l) (hx : CellsIn w w') : PutsIn w' v l :=
  ⟨h.sl.keptC hx, fun x hx' => let ⟨h1, n, hn⟩ := h.args x hx'; ⟨h1, n, hn.kept hx⟩⟩
theorem PutsIn.xt {w w' : World} {v : Value} {l : List PI} (h : PutsIn w v l) (hx : Xt w w') : PutsIn w' v l := h.kept hx.cellsIn
/-- A put's cells. -/
theorem PutsIn.at {w : World} {a : Option Addr} {m cap i : Nat} {l : List PI} {x : PI} (h : PutsIn w (.slice a m cap) l) (hx : l[i]? = some x) :
    ∃ b off, a = some ⟨b, off, none⟩ ∧ w.cell? ⟨b, off + i * 23, none⟩ = some (.int .i64 x.a.1) ∧ w.cell? ⟨b, off + i * 23 + 1, none⟩ = some (.int .i64 x.a.2) ∧ w.rangeAt b (off + i * 23 + 2) ((inC1 x).drop 2) ∧ x.c.ok ∧ ∃ n, ArgsIn w n (.slice x.p x.c.t.args.length x.cap) x.c.t.args := by
  obtain ⟨a', cap', e, h1, h2, h3⟩ := h.sl
  cases e
  obtain ⟨b, off, rfl, hc⟩ := h3 (by intro e; subst e; simp at hx)
  refine ⟨b, off, rfl, hc i x hx 0 _ rfl, hc i x hx 1 _ rfl, fun j v hv => ?_, h.args x (List.mem_of_getElem? hx)⟩
  rw [List.getElem?_drop] at hv
  have := hc i x hx (2 + j) v hv
  rw [← Nat.add_assoc] at this
  exact this
theorem PutsIn.shape {w : World} {v : Value} {l : List PI} (h : PutsIn w v l) : ∃ a cap, v = .slice a l.length cap ∧ l.length ≤ cap ∧ cap ≤ 9223372036854775807 := by
  obtain ⟨a, cap, e, h1, h2, _⟩ := h.sl
  exact ⟨a, cap, e, h1, h2⟩
theorem GridIs.other {w w' : World} {g1 m1 g2 m2 : Nat} {M1 M2 : GM} (h : GridIs w g2 m2 M2) (h1 : GridIs w g1 m1 M1) (hg : w.grownBy w' (some m1)) (hne : m1 ≠ m2) : GridIs w' g2 m2 M2 :=
  h.kept (h1.cellsIn hg) (hg.block m2 h.lt.2 (fun e => hne (by cases e; rfl)))
theorem own_no_map {w : World} {base : Nat} {T : TypeId} {sz n : Nat} {v : Value} {xs : List Value} (h : w.ownsRow base T sz v n xs) {m : Nat} {E : List (Ad × Value)} (hm : MapIs w m E) : v.ownBlock ≠ some m := by
  rcases h.2 with ⟨rfl, _⟩ | ⟨g, cap, cur, rfl, _, hg, _⟩
  · intro e; cases e
  · intro e
    cases e
    obtain ⟨es, c, hm, _⟩ := hm
    rw [hg] at hm; cases hm
theorem PutsOwn.other {w w' : World} {g1 m1 : Nat} {M1 M1' : GM} {base : Nat} {v : Value} {l : List PutE} (h : PutsOwn w base v l) (h1 : GridIs w g1 m1 M1) (h1' : GridIs w' g1 m1 M1') (hg : w.grownBy w' (some m1)) : PutsOwn w' base v l := by
  obtain ⟨E, hm, _⟩ := h1.map
  obtain ⟨E', hm', _⟩ := h1'.map
  have hno := own_no_map h.own hm
  refine ⟨World.ownsRow.kept h.own hg ?_, fun x hx => (h.args x hx).keep (fun _ hb _ => hb) (fun b o _ hlt => ?_)⟩
  · cases hb : v.ownBlock with
    | none => exact Or.inl rfl
    | some q => exact Or.inr (fun e => hno (by rw [hb]; exact e))
  · by_cases hbm : b = m1
    · subst hbm
      rw [hm.nocell, hm'.nocell]
    · exact World.cell?_of_block (w := w) (a := ⟨b, o, none⟩) (hg.block b hlt (fun e => hbm (by cases e; rfl)))
/-! ### what an iterator over a grid has told, collected -/
def toP (pre : List TE) : List PutE := pre.map fun x => (x.1, (copyC x.2.1, x.2.2))
theorem toP_snoc (pre : List TE) (x : TE) : toP (pre ++ [x]) = toP pre ++ [(x.1, (copyC x.2.1, x.2.2))] := by simp [toP]
theorem cellsIn_walk {w w' : World} {row : Option Nat} (hg : w.grownBy w' row) (hr : ∀ r, row = some r → ∃ o : Obj, w.heap[r]? = some o ∧ o.isCells = false) : CellsIn w w' := fun b o u hu => by
  refine (World.cell?_of_block (w := w) (a := ⟨b, o, none⟩) (hg.block b (World.block_lt_of_cell? w _ hu) (fun e => ?_))).trans hu
  obtain ⟨ob, h1, h2⟩ := hr b e.symm
  simp only [World.cell?, h1] at hu
  cases ob <;> simp_all [Obj.isCells]
theorem PutsOwn.walk {w w' : World} {row : Option Nat} {base : Nat} {v : Value} {l : List PutE} (h : PutsOwn w base v l) (hg : w.grownBy w' row) (hr : ∀ r, row = some r → ∃ o : Obj, w.heap[r]? = some o ∧ o.isCells = false) : PutsOwn w' base v l :=
  ⟨h.own.own_from hg hr, fun x hx => let ⟨h1, n, hn⟩ := h.args x hx; ⟨h1, n, hn.kept (cellsIn_walk hg hr)⟩⟩
theorem keepsFrom_xt {w w' : World} (hx : Xt w w') (B : Nat) : KeepsFrom B w w' := ⟨hx.size, fun k _ _ hk _ => (hx.block k (Array.getElem?_eq_some_iff.1 hk).1).trans hk⟩
theorem PutsOwn.cell {w : World} {base : Nat} {v : Value} {l : List PutE} (h : PutsOwn w base v l) {b : Nat} (hb : b < base) (o : Nat) (u : Value) : PutsOwn (w.setCell ⟨b, o, none⟩ u) base v l :=
  ⟨World.ownsRow.kept h.own (setCell_grown w b o u) (own_ne h.own hb), fun x hx => (h.args x hx).keep (fun _ hb _ => hb) (fun b' o' hb' _ => World.cell?_setCell_far _ _ _ _ (by show b ≠ b'; omega))⟩
theorem KeepsT.trans' {A : Nat → Bool} {X Y Z : World} (h : KeepsT A X Y) (k : KeepsT A Y Z) : KeepsT A X Z := h.trans k
/-- A slice's own row is grown: whatever else lies as it lay. -/
theorem PutsOwn.grown_keeps {w w' : World} {base : Nat} {v : Value} {l : List PutE} (h : PutsOwn w base v l) (hg : w.grownBy w' v.ownBlock) (B : Nat) : KeepsFrom B w w' ∧ KeepsT (fun _ => false) w w' := by
  have key : ∀ (k : Nat) (o : Obj), w.heap[k]? = some o → (∀ cs fr, o ≠ .cells cs 47 fr) → w'.heap[k]? = some o := fun k o hk ho => by
    refine (hg.block k (Array.getElem?_eq_some_iff.1 hk).1 (fun e => ?_)).trans hk
    rcases h.own.2 with ⟨h1, _⟩ | ⟨g, cap, cur, h1, _, hgb, _⟩
    · rw [h1] at e; cases e
    · rw [h1] at e
      cases e
      rw [hk] at hgb
      cases hgb
      exact ho _ _ rfl
  refine ⟨⟨hg.size, fun k o _ hk ho => key k o hk fun cs fr e => by rw [e] at ho; cases ho⟩, ⟨hg.size, fun k o hk ho => key k o hk fun cs fr e => by rw [e] at ho; simp [keptO] at ho⟩⟩
end Go.Proofs.YtfpdleljhbkehaaDoor
/- GridBack: three grids, a list of puts in a cell, a mark. -/
namespace Go.Proofs.YtfpdleljhbkehaaDoor
open Go.RowKit Go.Sort Go.MapKept Go.Maps Go.Shelf

theorem swap_perm {α : Type} (l : List α) (i j : Nat) (x y : α) (hx : l[i]? = some x) (hy : l[j]? = some y) : ((l.set i y).set j x).Perm l := by
  obtain ⟨hi, rfl⟩ := List.getElem?_eq_some_iff.1 hx
  obtain ⟨hj, rfl⟩ := List.getElem?_eq_some_iff.1 hy
  have h := Array.swap_perm (xs := l.toArray) (i := i) (j := j) (by simpa using hi) (by simpa using hj)
  have := h.toList
  simpa [Array.swap] using this
theorem swap_take {α : Type} (l : List α) (i j : Nat) (x y : α) (hij : i ≤ j) : ((l.set i y).set j x).take i = l.take i := by
  rw [List.take_set_of_le hij, List.take_set_of_le (Nat.le_refl _)]
theorem swap_at {α : Type} (l : List α) (i j : Nat) (x y : α) (hx : l[i]? = some x) (hy : l[j]? = some y) : ((l.set i y).set j x)[i]? = some y := by
  have hi := (List.getElem?_eq_some_iff.1 hx).1
  rw [List.getElem?_set]
  by_cases h : j = i
  · subst h
    rw [if_pos rfl, List.length_set, if_pos hi, ← hy, hx]
  · rw [if_neg h, List.getElem?_set, if_pos rfl, if_pos hi]
structure GB (w : World) (D B ma mb mc : Nat) (MA MB MC : GM) (v : Value) (lst : List PutE) (wr : World) : Prop where
  ga : GridIs wr (ma + 1) ma MA
  gb : GridIs wr (mb + 1) mb MB
  gc : GridIs wr (mc + 1) mc MC
  row : wr.heap[B]? = some (.cells #[v] 44 (0, 0))
  puts : PutsOwn wr (B + 1) v lst
  late : wr.heap[D]? = some (.deferred (some []))
  xt : Xt w wr
  far : w.heap.size ≤ ma ∧ ma < mb ∧ mb < mc ∧ w.heap.size ≤ B ∧ mc + 1 < B
theorem GB.up {w : World} {D B ma mb mc : Nat} {MA MB MC : GM} {v : Value} {lst : List PutE} {wr wr' : World} (h : GB w D B ma mb mc MA MB MC v lst wr) (hx : Xt wr wr') : GB w D B ma mb mc MA MB MC v lst wr' :=
  ⟨h.ga.xt hx, h.gb.xt hx, h.gc.xt hx, (hx.block _ (Array.getElem?_eq_some_iff.1 h.row).1).trans h.row, h.puts.xt hx, (hx.block _ (Array.getElem?_eq_some_iff.1 h.late).1).trans h.late, h.xt.trans hx, h.far⟩
theorem grid_row {w w' : World} {g m : Nat} {M : GM} (h : GridIs w g m M) (hg : w.grownBy w' (some m)) {k : Nat} {o : Obj} (hk : w.heap[k]? = some o) (ho : ∀ es c, o ≠ .map es c) : w'.heap[k]? = some o := by
  refine (hg.block k (Array.getElem?_eq_some_iff.1 hk).1 (fun e => ?_)).trans hk
  cases e
  obtain ⟨E, ⟨es, c, hm, _⟩, _⟩ := h.map
  rw [hk] at hm; cases hm; exact ho _ _ rfl
theorem GB.putC {w : World} {D B ma mb mc : Nat} {MA MB MC MC' : GM} {v : Value} {lst : List PutE} {wr wr' : World} (h : GB w D B ma mb mc MA MB MC v lst wr) (hc : GridIs wr' (mc + 1) mc MC') (hg : wr.grownBy wr' (some mc)) : GB w D B ma mb mc MA MB MC' v lst wr' :=
  ⟨h.ga.other h.gc hg (by have := h.far; omega), h.gb.other h.gc hg (by have := h.far; omega), hc, grid_row h.gc hg h.row (fun _ _ e => by cases e), h.puts.other h.gc hc hg, grid_row h.gc hg h.late (fun _ _ e => by cases e), h.xt.grownB hg (fun m hm => by cases hm; have := h.far; omega), h.far⟩
theorem GB.putA {w : World} {D B ma mb mc : Nat} {MA MA' MB MC : GM} {v : Value} {lst : List PutE} {wr wr' : World} (h : GB w D B ma mb mc MA MB MC v lst wr) (hc : GridIs wr' (ma + 1) ma MA') (hg : wr.grownBy wr' (some ma)) : GB w D B ma mb mc MA' MB MC v lst wr' :=
  ⟨hc, h.gb.other h.ga hg (by have := h.far; omega), h.gc.other h.ga hg (by have := h.far; omega), grid_row h.ga hg h.row (fun _ _ e => by cases e), h.puts.other h.ga hc hg, grid_row h.ga hg h.late (fun _ _ e => by cases e), h.xt.grownB hg (fun m hm => by cases hm; exact h.far.1), h.far⟩
/-- A put of the list: its cells. -/
theorem PutsOwn.at {w : World} {base n i : Nat} {a : Option Addr} {cap : Nat} {l : List PutE} {x : PutE} (h : PutsOwn w base (.slice a n cap) l) (hx : l[i]? = some x) :
    ∃ g, a = some ⟨g, 0, none⟩ ∧ base ≤ g ∧ w.cell? ⟨g, i * 23, none⟩ = some (.int .i64 x.1.1) ∧ w.cell? ⟨g, i * 23 + 1, none⟩ = some (.int .i64 x.1.2) ∧ w.cell? ⟨g, i * 23 + 2, none⟩ = some (.int .i64 x.2.1.kind) ∧ w.rangeAt g (i * 23 + 2) (ceC x.2) ∧ w.rangeAt g (i * 23) (putC x) ∧ w.there g (i * 23) 23 ∧ smallT x.2.1.t ∧ ∃ n, ArgsIn w n (.slice x.2.2 x.2.1.t.args.length x.2.1.t.args.length) x.2.1.t.args := by
  have hne : l ≠ [] := by intro e; subst e; simp at hx
  obtain ⟨g, c', e, hb, hc, hR⟩ := RowL.of_own h.own putC_len hne
  cases e
  have hcell := hR.cell hx
  obtain ⟨hs, n, hn⟩ := h.args x (List.mem_of_getElem? hx)
  refine ⟨g, rfl, hb, hcell 0 _ rfl, hcell 1 _ rfl, hcell 2 _ rfl, fun j v hv => ?_, fun j v hv => hcell j v hv, fun j hj => ?_, hs, n, hn.args⟩
  · have := hcell (2 + j) v (by rw [show putC x = adC x.1 ++ ceC x.2 from rfl, List.getElem?_append_right (by simp [adC])]; simpa [adC] using hv)
    rw [← Nat.add_assoc] at this
    exact this
  · have hi := (List.getElem?_eq_some_iff.1 hx).1
    obtain ⟨cur, hg, hsz, hd, _⟩ := hR
    have hlt : i * 23 + j < cur.size := by
      have := Nat.mul_le_mul_right 23 (show i + 1 ≤ _ from Nat.le_trans hi hd)
      omega
    exact ⟨by simp [World.cell?, hg, hlt], by simp [World.frozen?, hg]⟩
/-- Two puts of the list change places. -/
theorem PutsOwn.swap {w : World} {base n i j : Nat} {a : Option Addr} {cap : Nat} {l : List PutE} {x y : PutE} (h : PutsOwn w base (.slice a n cap) l) (hx : l[i]? = some x) (hy : l[j]? = some y) :
    ∃ g, a = some ⟨g, 0, none⟩ ∧ base ≤ g ∧ g < w.heap.size ∧ w.there g (i * 23) 23 ∧ (w.setCells g (i * 23) (putC y)).there g (j * 23) 23 ∧ w.grownBy ((w.setCells g (i * 23) (putC y)).setCells g (j * 23) (putC x)) (some g) ∧ w.grownBy (w.setCells g (i * 23) (putC y)) (some g) ∧
      PutsOwn ((w.setCells g (i * 23) (putC y)).setCells g (j * 23) (putC x)) base (.slice a n cap) ((l.set i y).set j x) := by
  have hne : l ≠ [] := by intro e; subst e; simp at hx
  obtain ⟨g, c', e, hb, hc, hR⟩ := RowL.of_own h.own putC_len hne
  cases e
  have hi := (List.getElem?_eq_some_iff.1 hx).1
  have hj := (List.getElem?_eq_some_iff.1 hy).1
  have there : ∀ {w : World} {d : List PutE} {k : Nat}, RowL w g 47 cap 23 putC d → k < d.length → w.there g (k * 23) 23 := fun {w d k} hR hk t ht => by
    obtain ⟨cur, hg, hsz, hd, _⟩ := hR
    have hlt : k * 23 + t < cur.size := by
      have := Nat.mul_le_mul_right 23 (show k + 1 ≤ _ from Nat.le_trans hk hd)
      omega
    exact ⟨by simp [World.cell?, hg, hlt], by simp [World.frozen?, hg]⟩
  have hR1 := hR.set putC_len hi y
  have hR2 := hR1.set putC_len (show j < (l.set i y).length by simpa using hj) x
  have hg1 := setCells_grown g (putC y) (i * 23) w
  have hg2 := setCells_grown g (putC x) (j * 23) (w.setCells g (i * 23) (putC y))
  have hg12 : w.grownBy ((w.setCells g (i * 23) (putC y)).setCells g (j * 23) (putC x)) (some g) := ⟨hg2.os.trans hg1.os, hg2.tape.trans hg1.tape, hg2.output.trans hg1.output, Nat.le_trans hg1.size hg2.size, fun k hk hne => (hg2.block k (Nat.lt_of_lt_of_le hk hg1.size) hne).trans (hg1.block k hk hne)⟩
  have hown := hR2.own putC_len hc hb l.length (by simp)
  rw [List.take_of_length_le (by simp)] at hown
  have hlt : g < w.heap.size := by obtain ⟨cur, hg, _⟩ := hR; exact (Array.getElem?_eq_some_iff.1 hg).1
  refine ⟨g, rfl, hb, hlt, there hR hi, there hR1 (by simpa using hj), hg12, hg1, ⟨hown, fun z hz => ?_⟩⟩
  refine (h.args z ((swap_perm l i j x y hx hy).mem_iff.1 hz)).keep (fun _ hb _ => hb) (fun b o hb hlt => World.cell?_of_block (w := w) (a := ⟨b, o, none⟩) (hg12.block b hlt (fun e => hb.2 (by cases e; rfl))))
/-- No content's nodes lie in the list's own row. -/
def atS (v : Value) (w : World) (M : GM) : Prop := ∀ x ∈ M, ∃ n, ArgsS (fun b => v.ownBlock ≠ some b) w n (.slice x.2.2 x.2.1.t.args.length x.2.1.t.args.length) x.2.1.t.args
theorem atS.kept {v : Value} {w w' : World} {M : GM} (h : atS v w M) (hx : CellsIn w w') : atS v w' M := fun x hm => let ⟨n, hn⟩ := h x hm; ⟨n, hn.kept hx⟩
theorem atS.put {v : Value} {w w' : World} {M M' : GM} {a : Ad} {c : ContT} {p : Option Addr} (h : atS v w M) (hx : CellsIn w w') (hc : (M' = M ∨ M' = delM a M) ∨ M' = setM a (copyC c, p) M ∧ locS w w' c p) (hv : ∀ g, v.ownBlock = some g → g < w.heap.size) : atS v w' M' := by
  rcases hc with (rfl | rfl) | ⟨rfl, n, hn⟩
  · exact h.kept hx
  · exact fun x hm => h.kept hx x (List.mem_filter.1 hm).1
  · intro x hm
    rcases mem_setM hm with rfl | hm
    · refine ⟨n, ?_⟩
      show ArgsS _ _ _ (.slice p (copyT c.t).args.length (copyT c.t).args.length) (copyT c.t).args
      rw [copyT_len, copyT_args]
      exact hn.keep (fun b hb _ e => by have := hv b e; omega) (fun _ _ _ _ => rfl)
    · exact h.kept hx x hm
theorem atS.of {v : Value} {w w' : World} {gb mb : Nat} {M : GM} (h : GridIs w gb mb M) (hx : Xt w w') (hv : ∀ g, v.ownBlock = some g → w.heap.size ≤ g) : atS v w' M := fun x hm => by
  obtain ⟨_, n, hn⟩ := h.args x hm
  exact ⟨n, (hn.toS.keep (fun b hb _ e => by have := hv b e; omega) (fun _ _ _ _ => rfl) : ArgsS (fun b => v.ownBlock ≠ some b) w n _ _).kept hx.cellsIn⟩
structure GBS (w : World) (D B ma mb mc : Nat) (MA MB MC : GM) (v : Value) (lst : List PutE) (wr : World) : Prop where
  g : GB w D B ma mb mc MA MB MC v lst wr
  sa : atS v wr MA
  sb : atS v wr MB
  sc : atS v wr MC
theorem GBS.up {w : World} {D B ma mb mc : Nat} {MA MB MC : GM} {v : Value} {lst : List PutE} {wr wr' : World} (h : GBS w D B ma mb mc MA MB MC v lst wr) (hx : Xt wr wr') : GBS w D B ma mb mc MA MB MC v lst wr' :=
  ⟨h.g.up hx, h.sa.kept hx.cellsIn, h.sb.kept hx.cellsIn, h.sc.kept hx.cellsIn⟩
theorem GBS.putC {w : World} {D B ma mb mc : Nat} {MA MB MC MC' : GM} {v : Value} {lst : List PutE} {wr wr' : World} {a : Ad} {c : ContT} {p : Option Addr} (h : GBS w D B ma mb mc MA MB MC v lst wr) (hc : GridIs wr' (mc + 1) mc MC') (hg : wr.grownBy wr' (some mc)) (hl : (MC' = MC ∨ MC' = delM a MC) ∨ MC' = setM a (copyC c, p) MC ∧ locS wr wr' c p) : GBS w D B ma mb mc MA MB MC' v lst wr' :=
  have hx := h.g.gc.cellsIn hg
  ⟨h.g.putC hc hg, h.sa.kept hx, h.sb.kept hx, h.sc.put hx hl (fun g e => (World.ownsRow.lt h.g.puts.own g e).2)⟩
theorem GridIs.swapped {v : Value} {w w' : World} {gb mb g : Nat} {M : GM} (h : GridIs w gb mb M) (hs : atS v w M) (hv : v.ownBlock = some g) (hg : w.grownBy w' (some g)) (h1 : gb ≠ g) (h2 : mb ≠ g) : GridIs w' gb mb M := by
  refine ⟨(World.cell?_of_block (w := w) (a := ⟨gb, 0, none⟩) (hg.block gb h.lt.1 (fun e => h1 (by cases e; rfl)))).trans h.cell, let ⟨E, q1, q2⟩ := h.map; ⟨E, q1.of_heap (hg.block mb h.lt.2 (fun e => h2 (by cases e; rfl))), q2⟩, h.sorted, fun x hm => ?_, h.many⟩
  obtain ⟨n, hn⟩ := hs x hm
  exact ⟨(h.args x hm).1, n, (hn.keep (S' := fun b => v.ownBlock ≠ some b) (fun _ hb _ => hb) (fun b o hb hlt => World.cell?_of_block (w := w) (a := ⟨b, o, none⟩) (hg.block b hlt (fun e => hb (by rw [hv]; exact e.symm))))).args⟩
theorem atS.swapped {v : Value} {w w' : World} {g : Nat} {M : GM} (hs : atS v w M) (hv : v.ownBlock = some g) (hg : w.grownBy w' (some g)) : atS v w' M := fun x hm => by
  obtain ⟨n, hn⟩ := hs x hm
  exact ⟨n, hn.keep (fun _ hb _ => hb) (fun b o hb hlt => World.cell?_of_block (w := w) (a := ⟨b, o, none⟩) (hg.block b hlt (fun e => hb (by rw [hv]; exact e.symm))))⟩
theorem GBS.swapped {w : World} {D B ma mb mc : Nat} {MA MB MC : GM} {v : Value} {lst lst' : List PutE} {wr wr' : World} {g : Nat} (h : GBS w D B ma mb mc MA MB MC v lst wr) (hp : PutsOwn wr' (B + 1) v lst') (hg : wr.grownBy wr' (some g)) (hv : v.ownBlock = some g) : GBS w D B ma mb mc MA MB MC v lst' wr' := by
  have hbg : B + 1 ≤ g := (World.ownsRow.lt h.g.puts.own g hv).1
  have hf := h.g.far
  have hcells : ∃ cs fr, wr.heap[g]? = some (.cells cs 47 fr) := by
    rcases h.g.puts.own.2 with ⟨h1, _⟩ | ⟨q, cap, cur, h1, _, hq, _⟩
    · rw [h1] at hv; cases hv
    · rw [h1] at hv; cases hv; exact ⟨_, _, hq⟩
  obtain ⟨cs, fr, hgc⟩ := hcells
  refine ⟨⟨h.g.ga.swapped h.sa hv hg (by omega) (by omega), h.g.gb.swapped h.sb hv hg (by omega) (by omega), h.g.gc.swapped h.sc hv hg (by omega) (by omega), (hg.block B (Array.getElem?_eq_some_iff.1 h.g.row).1 (fun e => by cases e; omega)).trans h.g.row, hp, (hg.block D (Array.getElem?_eq_some_iff.1 h.g.late).1 (fun e => by cases e; have := h.g.late; rw [hgc] at this; cases this)).trans h.g.late, h.g.xt.grownB hg (fun m hm => by cases hm; omega), hf⟩, h.sa.swapped hv hg, h.sb.swapped hv hg, h.sc.swapped hv hg⟩
end Go.Proofs.YtfpdleljhbkehaaDoor
