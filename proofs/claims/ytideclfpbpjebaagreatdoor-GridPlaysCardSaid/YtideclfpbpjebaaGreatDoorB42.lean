import Derived.Test.YtideclfpbpjebaaGreatDoorB41
import Derived.Test.YtideclfpbpjebaaGreatDoorB40
namespace Go.Proofs.YtideclfpbpjebaaGreatDoor
section
open Go.RowKit Go.Sort Go.Maps Go.Shelf Go.MapKept
attribute [local go_sem] Oper.semAt_some

/-- All rows but the documents' grids are as they were. -/
def Keep (W W' : World) : Prop := ∀ (b : Nat) (cur : Array Value) (T : TypeId), T ≠ 31 → W.heap[b]? = some (Obj.cells cur T (0, 0)) → W'.heap[b]? = some (Obj.cells cur T (0, 0))
theorem Keep.xt {W W' : World} (h : Xt W W') : Keep W W' := fun _ _ _ _ hb => rowX h hb
theorem Keep.trans {X Y Z : World} (h : Keep X Y) (k : Keep Y Z) : Keep X Z := fun b cur T hT hb => k b cur T hT (h b cur T hT hb)
theorem Keep.map {W W' : World} {m : Nat} {E : List (Ad × Value)} (hm : MapIs W m E) (hg : W.grownBy W' (some m)) : Keep W W' := fun b cur T _ hb => by
  refine (hg.block b (Array.getElem?_eq_some_iff.1 hb).1 (fun e => ?_)).trans hb
  obtain ⟨es, clock, hes, _⟩ := hm
  rw [Option.some.inj e, hes] at hb; cases hb
theorem Keep.doc {W W' : World} {r : Nat} {l : List PI} (hd : DG W r l) (hg : W.grownBy W' (some r)) : Keep W W' := fun b cur T hT hb => by
  refine (hg.block b (Array.getElem?_eq_some_iff.1 hb).1 (fun e => ?_)).trans hb
  obtain ⟨v, hv, _⟩ := hd.obj
  rw [Option.some.inj e, hv] at hb
  injection hb with hb
  injection hb with h1 h2 h3
  exact hT h2.symm
theorem Keep.far {W W' : World} {row : Option Nat} (hg : W.grownBy W' row) (hr : ∀ r, row = some r → ∃ o : Obj, W.heap[r]? = some o ∧ o.isCells = false) : Keep W W' := fun _ _ _ _ hb => rowCells_own hb hg hr
/-- The rows that within reads. -/
structure WR (wb gs rs k B C N g r r' : Nat) (o : OpT) (cnt : Nat) (W : World) : Prop where
  world : W.heap[wb]? = some (Obj.cells #[.slice (some ⟨gs, 0, none⟩) 2 2, .slice (some ⟨rs, 0, none⟩) 2 2] 34 (0, 0))
  grids : ∃ cur : Array Value, W.heap[gs]? = some (Obj.cells cur 25 (0, 0)) ∧ cur[k]? = some (.pointer (some ⟨g, 0, none⟩))
  docs : ∃ cur : Array Value, W.heap[rs]? = some (Obj.cells cur 28 (0, 0)) ∧ cur[k]? = some (.pointer (some ⟨r, 0, none⟩))
  b0 : W.heap[B]? = some (Obj.cells #[.pointer (some ⟨wb, 0, none⟩)] 24 (0, 0))
  b1 : W.heap[B + 1]? = some (Obj.cells #[.int .i64 k] 3 (0, 0))
  b2 : W.heap[B + 1 + 1]? = some (Obj.cells (opC o).toArray 50 (0, 0))
  b3 : W.heap[B + 1 + 1 + 1]? = some (Obj.cells #[.bool false] 4 (0, 0))
  b7 : W.heap[C]? = some (Obj.cells #[.pointer (some ⟨r', 0, none⟩)] 28 (0, 0))
  b9 : W.heap[N]? = some (Obj.cells #[.int .i64 cnt] 3 (0, 0))
section
variable {wb gs rs k j B C N g m r r' : Nat} {o : OpT} {cnt : Nat} {W W' : World}
theorem WR.keep (h : WR wb gs rs k B C N g r r' o cnt W) (hk : Keep W W') : WR wb gs rs k B C N g r r' o cnt W' :=
  ⟨hk _ _ _ (by decide) h.world, h.grids.imp fun c hc => ⟨hk _ _ _ (by decide) hc.1, hc.2⟩, h.docs.imp fun c hc => ⟨hk _ _ _ (by decide) hc.1, hc.2⟩, hk _ _ _ (by decide) h.b0, hk _ _ _ (by decide) h.b1, hk _ _ _ (by decide) h.b2, hk _ _ _ (by decide) h.b3, hk _ _ _ (by decide) h.b7, hk _ _ _ (by decide) h.b9⟩
theorem WR.cells (h : WR wb gs rs k B C N g r r' o cnt W) : (W.cell? ⟨wb, 0, none⟩ = some (.slice (some ⟨gs, 0, none⟩) 2 2) ∧ W.cell? ⟨wb, 1, none⟩ = some (.slice (some ⟨rs, 0, none⟩) 2 2)) ∧ (W.cell? ⟨gs, k, none⟩ = some (.pointer (some ⟨g, 0, none⟩)) ∧ W.cell? ⟨rs, k, none⟩ = some (.pointer (some ⟨r, 0, none⟩))) ∧
    (W.cell? ⟨B, 0, none⟩ = some (.pointer (some ⟨wb, 0, none⟩)) ∧ W.cell? ⟨B + 1, 0, none⟩ = some (.int .i64 k)) ∧ (W.cell? ⟨B + 1 + 1, 2, none⟩ = some (.int .i64 o.n) ∧ W.cell? ⟨B + 1 + 1, 3, none⟩ = some (.int .i64 o.x.a.1) ∧ W.cell? ⟨B + 1 + 1, 4, none⟩ = some (.int .i64 o.x.a.2)) ∧ (W.cell? ⟨C, 0, none⟩ = some (.pointer (some ⟨r', 0, none⟩)) ∧ W.cell? ⟨N, 0, none⟩ = some (.int .i64 cnt)) := by
  obtain ⟨c, c1, c2⟩ := h.grids
  obtain ⟨d, d1, d2⟩ := h.docs
  obtain ⟨⟨_, _, q2, q3, q4⟩, _⟩ := opC_at h.b2
  have hw := h.world
  exact ⟨⟨by simp [World.cell?, hw], by simp [World.cell?, hw]⟩, ⟨by simpa [World.cell?, c1] using c2, by simpa [World.cell?, d1] using d2⟩, ⟨(one_row h.b0).1, (one_row h.b1).1⟩, ⟨q2, q3, q4⟩, (one_row h.b7).1, (one_row h.b9).1⟩
/-- The count goes on. -/
theorem WR.count (h : WR wb gs rs k B C N g r r' o cnt W) (hN : N ≠ wb ∧ N ≠ gs ∧ N ≠ rs ∧ N ≠ B ∧ N ≠ B + 1 ∧ N ≠ B + 1 + 1 ∧ N ≠ B + 1 + 1 + 1 ∧ N ≠ C) (c' : Nat) : WR wb gs rs k B C N g r r' o c' (W.setCell ⟨N, 0, none⟩ (.int .i64 (c' : Int))) := by
  have hk : ∀ {b : Nat}, b ≠ N → (W.setCell ⟨N, 0, none⟩ (.int .i64 (c' : Int))).heap[b]? = W.heap[b]? := fun hb => Below.heap_setCell _ _ _ _ hb
  obtain ⟨n1, n2, n3, n4, n5, n6, n7, n8⟩ := hN
  exact ⟨(hk n1.symm).trans h.world, h.grids.imp fun c hc => ⟨(hk n2.symm).trans hc.1, hc.2⟩, h.docs.imp fun c hc => ⟨(hk n3.symm).trans hc.1, hc.2⟩, (hk n4.symm).trans h.b0, (hk n5.symm).trans h.b1, (hk n6.symm).trans h.b2, (hk n7.symm).trans h.b3, (hk n8.symm).trans h.b7, setCell_row h.b9 0 _⟩
/-- What is kept of all nodes' lists. -/
def KeepA (W W' : World) : Prop := ∀ (n : Nat) (av : Value) (l : List NodeT), ArgsIn W n av l → ArgsIn W' n av l
theorem KeepA.xt (h : Xt W W') : KeepA W W' := fun _ _ _ ha => ha.xt h
theorem KeepA.trans {X Y Z : World} (h : KeepA X Y) (k : KeepA Y Z) : KeepA X Z := fun n av l ha => k n av l (h n av l ha)
theorem KeepA.cells (h : CellsIn W W') : KeepA W W' := fun _ _ _ ha => ha.kept h
theorem KeepA.one {x : Nat} {u : Value} {T : TypeId} (hr : W.heap[x]? = some (Obj.cells #[u] T (0, 0))) (hg : W.grownBy W' (some x)) : KeepA W W' := fun _ _ _ ha =>
  ha.but (rb := x) (fun o v hv => by
    have h2 : (#[u] : Array Value)[o]? = some v := by simpa [World.cell?, hr] using hv
    have := (Array.getElem?_eq_some_iff.1 h2).1
    simp at this
    exact this) (fun b o v hb hv => (World.cell?_of_block (w := W) (a := ⟨b, o, none⟩) (hg.block b (World.block_lt_of_cell? W _ hv) (fun e => hb (Option.some.inj e)))).trans hv)
/-- A step within a round. -/
structure Tr (m B4 : Nat) (W W' : World) : Prop where
  from_ : KeepsFrom B4 W W'
  args : KeepA W W'
  kept : KeepsT (fun i => i == 2 * m + 1) W W'
theorem Tr.trans {B4 : Nat} {X Y Z : World} (h : Tr m B4 X Y) (k : Tr m B4 Y Z) : Tr m B4 X Z := ⟨h.from_.trans k.from_, h.args.trans k.args, h.kept.trans k.kept⟩
theorem Tr.xt {B4 : Nat} (h : Xt W W') : Tr m B4 W W' := ⟨keepsFrom_xt h _, KeepA.xt h, KeepsT.of_xt h⟩
theorem Tr.map {B4 : Nat} {E : List (Ad × Value)} (hm : MapIs W m E) (hg : W.grownBy W' (some m)) (hB : m < B4) : Tr m B4 W W' :=
  ⟨KeepsFrom.of_grownBy hg (fun j e => by cases e; exact hB), KeepA.cells (CellsIn.of_grown hm hg), KeepsT.of_grown hg (fun j ob e ho => by
    cases e
    obtain ⟨es, clock, hes, _⟩ := hm
    rw [hes] at ho; cases ho
    simp [keptO])⟩
theorem Tr.one {B4 x : Nat} {u : Value} {T : TypeId} (hr : W.heap[x]? = some (Obj.cells #[u] T (0, 0))) (hg : W.grownBy W' (some x)) (hB : x < B4) (hT : (T == 36 || T == 86 || T == 25) = false) : Tr m B4 W W' :=
  ⟨KeepsFrom.of_grownBy hg (fun j e => by cases e; exact hB), KeepA.one hr hg, KeepsT.of_grown hg (fun j ob e ho => by
    cases e
    rw [hr] at ho; cases ho
    have h2 : ((2 * T : Nat) == 2 * m + 1) = false := by simp; omega
    simp only [keptO, hT, h2, Bool.or_self])⟩
end
theorem St.far {w0 w w' : World} {wb gs rs k j : Nat} {p q : G5} {row : Option Nat} (h : St w0 w wb gs rs k j p q) (hg : w.grownBy w' row) (hr : ∀ r, row = some r → ∃ o : Obj, w.heap[r]? = some o ∧ o.isCells = false) (hm : ∀ r, row = some r → r ≠ p.m ∧ r ≠ q.m ∧ w0.heap.size ≤ r) : St w0 w' wb gs rs k j p q := by
  have hc := cellsIn_walk hg hr
  have hd : ∀ {r : Nat} {l : List PI}, DG w r l → DG w' r l := fun hd => by
    obtain ⟨v, hv, hP⟩ := hd.obj
    exact ⟨⟨v, rowCells_own hv hg hr, hP.kept hc⟩, hd.sorted, hd.many, hd.small⟩
  exact ⟨h.hx.grownB hg (fun m e => (hm m e).2.2), rowCells_own h.world hg hr, h.grids.imp fun c hc => ⟨rowCells_own hc.1 hg hr, hc.2⟩, h.docs.imp fun c hc => ⟨rowCells_own hc.1 hg hr, hc.2⟩,
    ⟨h.pa.g.kept hc (hg.block _ h.pa.g.lt.2 (fun e => (hm _ e.symm).1 rfl)), hd h.pa.r, h.pa.e, h.pa.ok, h.pa.n1, h.pa.n2⟩, ⟨h.pb.g.kept hc (hg.block _ h.pb.g.lt.2 (fun e => (hm _ e.symm).2.1 rfl)), hd h.pb.r, h.pb.e, h.pb.ok, h.pb.n1, h.pb.n2⟩, h.ne, h.low⟩
theorem DG.far {w w' : World} {r : Nat} {l : List PI} {row : Option Nat} (hd : DG w r l) (hg : w.grownBy w' row) (hr : ∀ r, row = some r → ∃ o : Obj, w.heap[r]? = some o ∧ o.isCells = false) : DG w' r l := by
  obtain ⟨v, hv, hP⟩ := hd.obj
  exact ⟨⟨v, rowCells_own hv hg hr, hP.kept (cellsIn_walk hg hr)⟩, hd.sorted, hd.many, hd.small⟩
theorem DG.one_ {w w' : World} {x r : Nat} {u : Value} {T : TypeId} {l : List PI} (hd : DG w r l) (hr : w.heap[x]? = some (Obj.cells #[u] T (0, 0))) (hg : w.grownBy w' (some x)) (hne : r ≠ x) : DG w' r l := by
  obtain ⟨v, hv, hP⟩ := hd.obj
  refine ⟨⟨v, (hg.block r hd.lt (fun e => hne (Option.some.inj e))).trans hv, hP.but (rb := x) (fun o v hv => ?_) (fun b o v hb hv => (World.cell?_of_block (w := w) (a := ⟨b, o, none⟩) (hg.block b (World.block_lt_of_cell? w _ hv) (fun e => hb (Option.some.inj e)))).trans hv)⟩, hd.sorted, hd.many, hd.small⟩
  have h2 : (#[u] : Array Value)[o]? = some v := by simpa [World.cell?, hr] using hv
  have := (Array.getElem?_eq_some_iff.1 h2).1
  simp at this
  exact this
/-- A row of one cell that is none of theirs has been written. -/
theorem St.one {w0 w w' : World} {wb gs rs k j x : Nat} {p q : G5} {u : Value} {T : TypeId} (h : St w0 w wb gs rs k j p q) (hr : w.heap[x]? = some (Obj.cells #[u] T (0, 0))) (hg : w.grownBy w' (some x)) (hx : w0.heap.size ≤ x) (n : x ≠ wb ∧ x ≠ gs ∧ x ≠ rs) (np : x ≠ p.g ∧ x ≠ p.m ∧ x ≠ p.r) (nq : x ≠ q.g ∧ x ≠ q.m ∧ x ≠ q.r) : St w0 w' wb gs rs k j p q := by
  have hone : ∀ o v, w.cell? ⟨x, o, none⟩ = some v → o ≤ 1 := fun o v hv => by
    have h2 : (#[u] : Array Value)[o]? = some v := by simpa [World.cell?, hr] using hv
    have := (Array.getElem?_eq_some_iff.1 h2).1
    simp at this
    omega
  have hk : ∀ {b : Nat} {ob : Obj}, x ≠ b → w.heap[b]? = some ob → w'.heap[b]? = some ob := fun hb h => (hg.block _ (Array.getElem?_eq_some_iff.1 h).1 (fun e => hb (Option.some.inj e).symm)).trans h
  exact ⟨h.hx.grownB hg (fun m e => by cases e; exact hx), hk n.1 h.world, h.grids.imp fun c hc => ⟨hk n.2.1 hc.1, hc.2⟩, h.docs.imp fun c hc => ⟨hk n.2.2 hc.1, hc.2⟩, h.pa.two hg hone np.1 np.2.1 np.2.2, h.pb.two hg hone nq.1 nq.2.1 nq.2.2, h.ne, h.low⟩
/-- What holds between two rounds of within. -/
structure WI (w0 : World) (wb gs rs k j B C N g m r r' : Nat) (q : G5) (o : OpT) (n : Nat) (l0 : List PI) (cnt : Nat) (W : World) : Prop where
  rows : WR wb gs rs k B C N g r r' o cnt W
  st : ∃ M l, St w0 W wb gs rs k j ⟨g, m, M, r, l⟩ q
  was : DG W r' l0
  args : ArgsIn W n (.slice o.x.p o.x.c.t.args.length o.x.cap) o.x.c.t.args
section
variable {w0 : World} {wb gs rs k j B C N g m r r' : Nat} {q : G5} {o : OpT} {n : Nat} {l0 : List PI} {cnt : Nat} {W W' : World}
theorem WI.xt (h : WI w0 wb gs rs k j B C N g m r r' q o n l0 cnt W) (hx : Xt W W') : WI w0 wb gs rs k j B C N g m r r' q o n l0 cnt W' :=
  ⟨h.rows.keep (Keep.xt hx), let ⟨M, l, hs⟩ := h.st; ⟨M, l, hs.xt hx⟩, h.was.xt hx, h.args.xt hx⟩
theorem WI.far {row : Option Nat} (h : WI w0 wb gs rs k j B C N g m r r' q o n l0 cnt W) (hg : W.grownBy W' row) (hr : ∀ r, row = some r → ∃ o : Obj, W.heap[r]? = some o ∧ o.isCells = false) (hm : ∀ r, row = some r → r ≠ m ∧ r ≠ q.m ∧ w0.heap.size ≤ r) : WI w0 wb gs rs k j B C N g m r r' q o n l0 cnt W' :=
  ⟨h.rows.keep (Keep.far hg hr), let ⟨M, l, hs⟩ := h.st; ⟨M, l, hs.far hg hr hm⟩, h.was.far hg hr, h.args.kept (cellsIn_walk hg hr)⟩
theorem WI.count (h : WI w0 wb gs rs k j B C N g m r r' q o n l0 cnt W) (hw : w0.heap.size ≤ N) (hN : N ≠ wb ∧ N ≠ gs ∧ N ≠ rs ∧ N ≠ B ∧ N ≠ B + 1 ∧ N ≠ B + 1 + 1 ∧ N ≠ B + 1 + 1 + 1 ∧ N ≠ C) (hM : N ≠ g ∧ N ≠ m ∧ N ≠ r) (hQ : N ≠ q.g ∧ N ≠ q.m ∧ N ≠ q.r) (hR : r' ≠ N) :
    WI w0 wb gs rs k j B C N g m r r' q o n l0 (cnt + 1) (W.setCell ⟨N, 0, none⟩ (.int .i64 ((cnt + 1 : Nat) : Int))) := by
  have hg : W.grownBy (W.setCell ⟨N, 0, none⟩ (.int .i64 ((cnt + 1 : Nat) : Int))) (some N) := setCell_grown _ _ _ _
  obtain ⟨M, l, hs⟩ := h.st
  exact ⟨h.rows.count hN _, ⟨M, l, hs.one h.rows.b9 hg hw ⟨hN.1, hN.2.1, hN.2.2.1⟩ hM hQ⟩, h.was.one_ h.rows.b9 hg hR, KeepA.one h.rows.b9 hg _ _ _ h.args⟩
/-- Both of a pair have been put into. -/
theorem WI.put {M : GM} {l : List PI} {w1 w2 : World} {M' : GM} {l' : List PI} (h : WI w0 wb gs rs k j B C N g m r r' q o n l0 cnt W) (hs : St w0 W wb gs rs k j ⟨g, m, M, r, l⟩ q) (hg1 : W.grownBy w1 (some m)) (hD1 : DG w1 r l) (hg2 : w1.grownBy w2 (some r)) (hp : Pair w2 g m M' r l') (hR : r' ≠ m ∧ r' ≠ r) : WI w0 wb gs rs k j B C N g m r r' q o n l0 cnt w2 := by
  obtain ⟨E, hm, he⟩ := hs.pa.g.map
  obtain ⟨v, hv, _⟩ := hD1.obj
  have hk : KeepA W w2 := (KeepA.cells (CellsIn.of_grown hm hg1)).trans (KeepA.one hv hg2)
  exact ⟨h.rows.keep ((Keep.map hm hg1).trans (Keep.doc hD1 hg2)), ⟨M', l', hs.put (p := ⟨g, m, M, r, l⟩) hg1 hD1 hg2 hp⟩, (h.was.byMap hs.pa.g hg1 hR.1).byDoc hD1 hg2 hR.2, hk _ _ _ h.args⟩
end

set_option maxRecDepth 100000 in
set_option maxHeartbeats 2000000 in
theorem within_any (w0 w : World) (wb gs rs k j : Nat) (p q : G5) (o : OpT) (n : Nat) (hT : Tabs w0) (h : St w0 w wb gs rs k j p q) (hkj : k < 2 ∧ j < 2 ∧ k + j = 1) (ho : I64 o.on ∧ I64 o.n) (hok : o.x.c.ok) (hsm : smallT o.x.c.t) (hin : ArgsIn w n (.slice o.x.p o.x.c.t.args.length o.x.cap) o.x.c.t.args) :
    Calls Tryz.prog 33 #[.pointer (some ⟨wb, 0, none⟩), .int .i64 k, opV o] w (StepR w0 wb gs rs k j) := by
  obtain ⟨B, hB⟩ : ∃ B, w.heap.size = B := ⟨_, rfl⟩
  have HT := Lib.hid hT
  have HOK := Lib.hid hok
  have HSM := Lib.hid hsm
  have HO := Lib.hid ho
  have HKJ := Lib.hid hkj
  have H0 := Lib.hid h
  have HL0 : Hid (w0.heap.size ≤ wb ∧ w0.heap.size ≤ gs ∧ w0.heap.size ≤ rs ∧ w0.heap.size ≤ p.m ∧ w0.heap.size ≤ p.r ∧ w0.heap.size ≤ q.m ∧ w0.heap.size ≤ q.r) := h.low
  have hlt : wb < B ∧ gs < B ∧ rs < B ∧ p.g < B ∧ p.m < B ∧ p.r < B ∧ q.g < B ∧ q.m < B ∧ q.r < B := by
    rw [← hB]
    obtain ⟨c, c1, _⟩ := h.grids
    obtain ⟨d, d1, _⟩ := h.docs
    exact ⟨(Array.getElem?_eq_some_iff.1 h.world).1, (Array.getElem?_eq_some_iff.1 c1).1, (Array.getElem?_eq_some_iff.1 d1).1, h.pa.g.lt.1, h.pa.g.lt.2, h.pa.r.lt, h.pb.g.lt.1, h.pb.g.lt.2, h.pb.r.lt⟩
  have HLT := Lib.hid hlt
  have hws : w0.heap.size ≤ B := by rw [← hB]; exact h.hx.size
  have hnil := fun (W : World) (fn : Fn) (fi ca : Array Value) => run_eql_func_nil (P := Tryz.prog) W 55 _ _ _ fn fi ca Tryz.underlying55
  obtain ⟨u1, u2, u3, u4, e1, s1, e2, s2, e3, s3, e4, s4, HX4, HR0, HR1, HR2, HR3⟩ := bx4 hB #[.pointer (some ⟨wb, 0, none⟩)] #[.int .i64 k] (opC o).toArray #[.bool false] 24 3 50 4
  have H4 := Lib.hid (h.xt HX4.out)
  have HIN4 := Lib.hid (hin.xt HX4.out)
  have hk2 : (k : Int) < 2 := by omega
  have HF : Hid (∀ V, Xt u4 V → V.cell? ⟨B, 0, none⟩ = some (.pointer (some ⟨wb, 0, none⟩)) ∧ V.cell? ⟨B + 1, 0, none⟩ = some (.int .i64 k) ∧ V.cell? ⟨wb, 0, none⟩ = some (.slice (some ⟨gs, 0, none⟩) 2 2) ∧ V.cell? ⟨wb, 1, none⟩ = some (.slice (some ⟨rs, 0, none⟩) 2 2) ∧ V.cell? ⟨gs, k, none⟩ = some (.pointer (some ⟨p.g, 0, none⟩)) ∧ V.cell? ⟨rs, k, none⟩ = some (.pointer (some ⟨p.r, 0, none⟩))) := Lib.hid fun V hV => by
    obtain ⟨q0, q1, q2, _, q4, _⟩ := (H4.out.xt hV).cells
    exact ⟨(one_row (rowX hV HR0.out)).1, (one_row (rowX hV HR1.out)).1, q0, q1, q2, q4⟩
  have HDC := Lib.hid (fun (V : World) (hV : Xt u4 V) => dclone_any p.r p.l V (H4.out.pa.r.xt hV))
  clear h hin hT hok hsm hkj hlt ho
  refine (callsIn_wide (n := 25)).1 ?_
  refine callsIn_of_wp_marks Tryz.func33 rfl trivial ?_ rfl
  simp only [Tryz.ntmps33, List.size_toArray, List.length_cons, List.length_nil, Nat.reduceAdd, Nat.reduceSub, Array.replicate_succ, Array.replicate_zero, List.push_toArray, List.append_toArray, List.nil_append, List.cons_append]
  refine wpIn_wide.2 ?_
  refine wp_mono (Q := noPanic (bodyPostM Fence.wide 25 Tryz.prog Tryz.f33 (StepR w0 wb gs rs k j))) ?_ noPanic_le
  go_upto_region 1 with fail
  have HS4 := Lib.hid s4
  clear e1 e2 e3 e4 s1 s2 s3 s4
  refine rg (fun V => Xt u4 V) (Xt.refl _).drew fun hHeld => ?_
  refine tk HF.out 0 ?_
  refine tk HF.out 1 ?_
  refine tk HF.out 2 ?_
  refine tk HF.out 3 ?_
  refine tk HF.out 4 ?_
  refine tk HF.out 5 ?_
  refine tk HF.out 6 ?_
  refine rd2 7 8 (fun K hK => ?ca) fun K hK => ?cb
  case' ca =>
    go_simp
    refine (HDC.out _ (Xt.refl _).drew).mono ?_
    rintro e w2 ⟨r', rfl, hD2, hr', hx2⟩
    have HX2 : Hid (Xt u4 w2) := Lib.hid ((Xt.refl _).drew.trans hx2)
    have hr4 : u4.heap.size ≤ r' := hr'
    have hrl := hD2.lt
    have HD2 := Lib.hid hD2
    refine ko hK HX2.out fun hHe => ?_
    clear hK K hD2 hx2 hr'
    obtain ⟨C, hC⟩ : ∃ C, w2.heap.size = C := ⟨_, rfl⟩
    obtain ⟨wS, hwS⟩ : ∃ wS, w2.alloc (.cells #[.pointer none] 28) = wS := ⟨_, rfl⟩
    have hxS : Xt w2 wS := by rw [← hwS]; exact (Xt.refl _).alloc _
    have HRS : Hid (wS.heap[C]? = some (Obj.cells #[.pointer none] 28 (0, 0))) := by unfold Hid; rw [← hwS, ← hC]; exact (MapKept.heap_alloc w2 _).1
    have HXS : Hid (Xt u4 wS) := Lib.hid (HX2.out.trans hxS)
    have HDS := Lib.hid (HD2.out.xt hxS)
    have hC4 : u4.heap.size ≤ C := by have := HX2.out.size; omega
    have hrC : r' ≠ C := by omega
    refine rdH 8 fun K hK => ?_
    go_simp
    refine ko hK HXS.out fun hHe2 => ?_
    clear hK K hxS hHe hHe2 hHeld hwS hC hrl HX2 HD2
  case' cb =>
    obtain ⟨C, hC⟩ : ∃ C, u4.heap.size = C := ⟨_, rfl⟩
    obtain ⟨w2, hw2⟩ : ∃ w2, (u4.alloc (.cells #[.pointer none] 28)).drew = w2 := ⟨_, rfl⟩
    have hx2 : Xt u4 w2 := by rw [← hw2]; exact ((Xt.refl _).alloc _).drew
    have hr2 : w2.heap[C]? = some (Obj.cells #[.pointer none] 28 (0, 0)) := by rw [← hw2, ← hC]; exact (MapKept.heap_alloc u4 _).1
    have hz2 := (Array.getElem?_eq_some_iff.1 hr2).1
    have HX2 := Lib.hid hx2
    have HR2' := Lib.hid hr2
    go_simp
    refine ko hK HX2.out fun hHe => ?_
    clear hK K hx2 hr2
    refine rdH 7 fun K hK => ?_
    go_simp
    refine (HDC.out _ HX2.out).mono ?_
    rintro e wS ⟨r', rfl, hD2, hr', hxS⟩
    have hr4 : u4.heap.size ≤ r' := by omega
    have hC4 : u4.heap.size ≤ C := by omega
    have hrC : r' ≠ C := by omega
    have HDS := Lib.hid hD2
    have HXS : Hid (Xt u4 wS) := Lib.hid (HX2.out.trans hxS)
    have HRS := Lib.hid (rowX hxS HR2'.out)
    refine ko hK HXS.out fun hHe2 => ?_
    clear hK K hD2 hxS hHe hHe2 hHeld hw2 hC hz2 hr' HX2 HR2'
  all_goals
    obtain ⟨w4, hw4⟩ : ∃ w4, wS.setCell ⟨C, 0, none⟩ (.pointer (some ⟨r', 0, none⟩)) = w4 := ⟨_, rfl⟩
    have hg4 : wS.grownBy w4 (some C) := by rw [← hw4]; exact setCell_grown _ _ _ _
    have HRC : Hid (w4.heap[C]? = some (Obj.cells #[.pointer (some ⟨r', 0, none⟩)] 28 (0, 0))) := by unfold Hid; rw [← hw4]; exact setCell_row HRS.out 0 _
    have HX4' : Hid (Xt u4 w4) := Lib.hid (HXS.out.grownB hg4 (fun q hq => by cases hq; exact hC4))
    have HDW := Lib.hid (HDS.out.one_ HRS.out hg4 hrC)
    obtain ⟨c3, f3⟩ := one_row HRS.out
    refine rdH 9 fun K hK => ?_
    go_simp
    refine ko hK HX4'.out fun hHe3 => ?_
    clear hK K
    refine wpAnyH_done (by kernel_rfl) ?_ _
    clear hHe3 hw4 c3 f3 hg4 HRS HXS HDS
    go_wp2_with fail
    have HXD : Hid (Xt u4 w4.drew) := Lib.hid HX4'.out.drew
    refine rg (fun V => Xt u4 V) HXD.out fun hHeld => ?_
    refine tk HF.out 0 ?_
    refine tk HF.out 1 ?_
    refine tk HF.out 2 ?_
    refine tk HF.out 3 ?_
    refine tk HF.out 4 ?_
    refine tk HF.out 5 ?_
    refine tk HF.out 6 ?_
    refine rdH 7 fun K hK => ?_
    go_simp
    refine (all_call _ _).mono ?_
    rintro e w5 ⟨rfl, hw5⟩
    have HX5 : Hid (Xt u4 w5) := Lib.hid (by rw [hw5]; exact (HXD.out.alloc _).alloc _)
    have HW5 := Lib.hid hw5
    refine ko hK HX5.out fun hHe => ?_
    clear hK K hw5
    refine tk HF.out 8 ?_
    refine wpAnyH_done (by kernel_rfl) ?_ _
    clear hHeld hHe
    have hrB : B < r' := by have := HS4.out; omega
    have hCB : B + 1 + 1 + 1 < C := by have := HS4.out; omega
    obtain ⟨D, hD⟩ : ∃ D, w4.heap.size = D := ⟨_, rfl⟩
    obtain ⟨V1, hV1⟩ : ∃ V1, w4.drew.alloc (.cells #[.pointer (some ⟨p.g, 0, none⟩)] 25) = V1 := ⟨_, rfl⟩
    have hD1 : w4.drew.heap.size = D := hD
    have s1 : V1.heap.size = D + 1 := by rw [← hV1]; simp [hD]
    have hw5 := HW5.out
    rw [hV1] at hw5
    have s5 : w5.heap.size = D + 1 + 1 := by rw [hw5]; simp [s1]
    have hxV1 : Xt w4 V1 := by rw [← hV1]; exact (Xt.refl _).drew.alloc _
    have hxV5 : Xt V1 w5 := by rw [hw5]; exact (Xt.refl _).alloc _
    have hrg : V1.heap[D]? = some (Obj.cells #[.pointer (some ⟨p.g, 0, none⟩)] 25 (0, 0)) := by rw [← hV1, ← hD1]; exact (MapKept.heap_alloc w4.drew _).1
    have hrw : w5.heap[D + 1]? = some (Obj.cells #[.func (.func 35) #[] #[]] 86 (0, 0)) := by rw [hw5, ← s1]; exact (MapKept.heap_alloc V1 _).1
    have HRG := Lib.hid (rowX hxV5 hrg)
    have HRW := Lib.hid hrw
    have HX45 : Hid (Xt w4 w5) := Lib.hid (hxV1.trans hxV5)
    have HS5 := Lib.hid s5
    have hD4 : u4.heap.size ≤ D := by rw [← hD]; exact HX4'.out.size
    have hrD : r' < D := by rw [← hD]; exact HDW.out.lt
    have hCD : C < D := by rw [← hD]; exact (Array.getElem?_eq_some_iff.1 HRC.out).1
    clear hV1 hw5 HW5 hxV1 hxV5 hrg hrw s1 s5 hD1
    simp only [hD]
    clear hD
    go_upto_region 6 with fail
    obtain ⟨N, hN⟩ : ∃ N, w5.heap.size = N := ⟨_, rfl⟩
    obtain ⟨W0, hW0⟩ : ∃ W0, w5.alloc (.cells #[.int .i64 0] 3) = W0 := ⟨_, rfl⟩
    simp only [hW0, hN]
    have hND : D + 1 < N := by rw [← hN, HS5.out]; omega
    have hxW : Xt w5 W0 := by rw [← hW0]; exact (Xt.refl _).alloc _
    have hsW : N < W0.heap.size := by rw [← hW0, ← hN]; simp
    have hrN : W0.heap[N]? = some (Obj.cells #[.int .i64 0] 3 (0, 0)) := by rw [← hW0, ← hN]; exact (MapKept.heap_alloc w5 _).1
    have HX0 : Hid (Xt u4 W0) := Lib.hid (HX5.out.trans hxW)
    have HI0 : Hid (WI w0 wb gs rs k j B C N p.g p.m p.r r' q o n p.l 0 W0) := Lib.hid (by
      have hS := H4.out.xt HX0.out
      exact ⟨⟨hS.world, hS.grids.imp fun c hc => ⟨hc.1, hc.2.2.1⟩, hS.docs.imp fun c hc => ⟨hc.1, hc.2.2.1⟩, rowX HX0.out HR0.out, rowX HX0.out HR1.out, rowX HX0.out HR2.out, rowX HX0.out HR3.out, rowX (HX45.out.trans hxW) HRC.out, hrN⟩, ⟨p.M, p.l, hS⟩, HDW.out.xt (HX45.out.trans hxW), HIN4.out.xt HX0.out⟩)
    have HG0 := Lib.hid (H4.out.pa.g.xt HX0.out)
    have HGR := Lib.hid (rowX hxW HRG.out)
    have HGW := Lib.hid (rowX hxW HRW.out)
    have HOK0 := Lib.hid H4.out.pa.ok
    have HER := Lib.hid H4.out.pa.e
    have hs4 := HS4.out
    clear hW0 hN hrN hxW HX5 HX45 HRC HDW HRG HRW HX4' HXD HF
    go_wp2_with fail
    generalize hA0 : Act.mk _ _ = a0
    refine (wpIn_wide (n := 25)).1 ?_
    obtain ⟨l1, l2, l3, l4, l5, l6, l7, l8, l9⟩ := HLT.out
    refine rangeFunc_tolp (n := 25) (by omega) (gf := 59) (lb := #[.pointer (some ⟨D, 0, none⟩), .pointer (some ⟨D + 1, 0, none⟩)]) (by subst hA0; rfl) (enters_of Tryz.func59 (by kernel_rfl) rfl)
      (some1_tolp (fun i => i == 2 * p.m + 1) 35 #[] (enters_of Tryz.func35 (by kernel_rfl) rfl) (fun _ => true) 0 KeepA (fun _ hx => KeepA.xt hx) KeepA.trans (fun _ => True) (fun _ _ _ _ _ => trivial) (fun a W _ => all1_any a W) (25 - 1) (by omega) D (D + 1) p.g p.m p.M W0 (Nat.zero_le _) HG0.out (fun W' h x hx => ⟨(HG0.out.args x hx).1, (HG0.out.args x hx).2.imp fun n hn => h _ _ _ hn⟩) trivial (by omega) (one_row HGR.out).1 HGW.out (fun i hi => by simp; omega))
      (fun h k => ⟨h.1.trans k.1, h.2.trans k.2⟩) (fun W l o o' hl ho hc hw => ⟨KeepA.cells (cellsIn_walk (grownBy_putObj' W l o') (fun r e => by cases e; exact ⟨o, ho, hc⟩)), KeepsT.of_grown (grownBy_putObj' W l o') (fun j o2 e h2 => by cases e; rw [ho] at h2; cases h2; cases o <;> simp_all [keptO, Obj.isCells, Obj.isWalk])⟩) (Below.refl _ _) (fun _ => rfl)
      (fun pre W => WI w0 wb gs rs k j B C N p.g p.m p.r r' q o n p.l pre.length W)
      (fun _ _ _ => False)
      (fun s X Y row hs hg hr => hs.far hg (fun r e => (hr r e).2) (fun r e => by have := (hr r e).1; exact ⟨by omega, by omega, by omega⟩))
      (fun c s X Y row hs hg hr => hs)
      HI0.out
      (fun pre x a' W => ∃ (z : CE) (y : PI) (Bx By nT : Nat), z = (x.2.1, x.2.2) ∧ p.l[pre.length]? = some y ∧ y.a = x.1 ∧ y.c = x.2.1 ∧ W.heap[Bx]? = some (.cells #[.int .i64 x.1.1, .int .i64 x.1.2] 36 (0, 0)) ∧ W.heap[By]? = some (.cells (rowC21 z.1 z.2) 46 (0, 0)) ∧ ArgsIn W nT (.slice z.2 z.1.t.args.length z.1.t.args.length) z.1.t.args ∧
        a' = { tmps := (((a0.tmps.setIfInBounds 32 (adW x.1)).setIfInBounds 33 (ceV z)).setIfInBounds 10 (.pointer (some ⟨Bx, 0, none⟩))).setIfInBounds 11 (.pointer (some ⟨By, 0, none⟩)), defers := [] })
      (fun pre x a' _ (X Y : World) row hs hg hr => by
        obtain ⟨z, y, Bx, By, nT, e1, e2, e3, e4, h1, h2, h4, h5⟩ := hs
        exact ⟨z, y, Bx, By, nT, e1, e2, e3, e4, rowCells_own h1 hg (fun r e => (hr r e).2), rowCells_own h2 hg (fun r e => (hr r e).2), h4.kept (cellsIn_walk hg (fun r e => (hr r e).2)), h5⟩)
      ?assign ?body ?done ?stop
    case stop =>
      rintro D' c pre W hD hSp hf hK
      exact hf.elim
    case done =>
      rintro D' xs W hD hS hI hK
      subst hA0
      have hn : xs.length = p.l.length := by
        have h1 := congrArg List.length hS
        rw [List.filter_eq_self.2 (fun _ _ => rfl), List.length_map, List.length_map] at h1
        have h2 := congrArg List.length HER.out
        rw [er_len, pis_len] at h2
        omega
      rw [hn] at hI
      have HI := Lib.hid hI
      have HK := Lib.hid hK
      obtain ⟨vv, hvc, hvP⟩ := hI.was.cell
      obtain ⟨la, lc, rfl, hlc, hlc2⟩ := hvP.shape
      obtain ⟨_, _, _, _, m0, m1⟩ := hI.rows.cells
      have HFQ : Hid (∀ V, Wr (fun b => b = B + 1 + 1 + 1) W V → V.cell? ⟨N, 0, none⟩ = some (.int .i64 p.l.length) ∧ V.cell? ⟨C, 0, none⟩ = some (.pointer (some ⟨r', 0, none⟩)) ∧ V.cell? ⟨r', 0, none⟩ = some (.slice la p.l.length lc)) := Lib.hid fun V hV => by
        have hk : ∀ b o u, b ≠ B + 1 + 1 + 1 → W.cell? ⟨b, o, none⟩ = some u → V.cell? ⟨b, o, none⟩ = some u := fun b o u hb hu => (World.cell?_of_block (a := ⟨b, o, none⟩) (hV.block b (World.block_lt_of_cell? _ _ hu) hb)).trans hu
        exact ⟨hk _ _ _ (by omega) m1, hk _ _ _ (by omega) m0, hk _ _ _ (by omega) hvc⟩
      clear hI hK hn hS m0 m1 hvc hvP
      go_wp2_with fail
      obtain ⟨c3, f3⟩ := one_row (rowX (Xt.refl W).drew HI.out.rows.b3)
      refine rg (fun V => Wr (fun b => b = B + 1 + 1 + 1) W V) (Wr.of_xt (Xt.refl W).drew) fun hHeld => ?_
      refine tk HFQ.out 0 ?_
      refine tk HFQ.out 1 ?_
      refine tk HFQ.out 2 ?_
      refine tk HFQ.out 3 ?_
      refine tk HFQ.out 4 ?_
      refine tk HFQ.out 5 ?_
      refine tk HFQ.out 6 ?_
      refine rdH 7 fun K hK => ?_
      go_simp
      refine ko hK ((Wr.of_xt (Xt.refl W).drew).trans (Wr.cell _ rfl)) fun hHe => ?_
      clear hK K
      refine wpAnyH_done (by kernel_rfl) ?_ _
      go_wp2_with fail
      obtain ⟨W', hW'⟩ : ∃ W', (W.setCell ⟨B + 1 + 1 + 1, 0, none⟩ (.bool true)).drew = W' := ⟨_, rfl⟩
      have k1 : W'.cell? ⟨B + 1 + 1 + 1, 0, none⟩ = some (.bool true) := by rw [← hW']; exact World.cell?_setCell_same _ _ _ c3
      have hKW : W'.heap[D']? = some (.deferred (some [])) := by rw [← hW']; exact (Below.heap_setCell _ _ _ _ (fun e => by simp at e; omega)).trans HK.out
      have k8' : (W'.putObj D' (.deferred none)).cell? ⟨B + 1 + 1 + 1, 0, none⟩ = some (.bool true) := (World.cell?_of_block (w := W') (a := ⟨B + 1 + 1 + 1, 0, none⟩) (World.putObj_heap_other (by show B + 1 + 1 + 1 ≠ D'; omega))).trans k1
      obtain ⟨Mz, lz, hsz⟩ := HI.out.st
      obtain ⟨o1, o2, o3, o4, o5, o6, o7⟩ := HL0.out
      have hs1 := hsz.one HI.out.rows.b3 (setCell_grown W (B + 1 + 1 + 1) 0 (.bool true)) (by omega) ⟨by omega, by omega, by omega⟩ ⟨by show B + 1 + 1 + 1 ≠ p.g; omega, by show B + 1 + 1 + 1 ≠ p.m; omega, by show B + 1 + 1 + 1 ≠ p.r; omega⟩ ⟨by omega, by omega, by omega⟩
      have hs2 : St w0 W' wb gs rs k j ⟨p.g, p.m, Mz, p.r, lz⟩ q := by rw [← hW']; exact hs1.xt (Xt.refl _).drew
      have hs3 := hs2.far (grownBy_putObj' W' D' (.deferred none)) (fun r e => by cases e; exact ⟨_, hKW, rfl⟩) (fun r e => by cases e; exact ⟨by show D' ≠ p.m; omega, by omega, by omega⟩)
      rw [hW']
      refine ⟨by simp, .inl ⟨_, _, rfl, run_takeDeferred hKW, ?_⟩⟩
      exact ⟨_, results_one6 rfl _ _ (B + 1 + 1 + 1) (.bool true) rfl (load_bool6 _ _ _ k8'), rfl, _, _, hs3⟩
    case assign =>
      rintro l0 pre x W K hI ⟨V, hIV, hxV, hsm, ⟨nT, hO⟩, i, hT⟩ hK
      subst hA0
      obtain ⟨y, hy, hya, hyc, hmem⟩ := told_next (k := p.l) (by rw [HER.out, List.filter_eq_self.2 (fun _ _ => rfl)]) hT
      obtain ⟨⟨c, d⟩, tc, tp⟩ := x
      have hcz : copyC tc = tc := (HOK0.out.each _ (by rw [← HER.out]; exact hmem)).2.2.2.1
      obtain ⟨z, hz⟩ : ∃ z : CE, z = (tc, tp) := ⟨_, rfl⟩
      have hzv : copyCV tc tp = ceV z := by rw [hz]; exact copy_val hcz
      have hOz : ArgsIn W nT (.slice z.2 z.1.t.args.length z.1.t.args.length) z.1.t.args := by
        rw [hz]
        simp only [copy_args hcz] at hO
        exact hO.args
      simp only [teV, hzv]
      have HZ := Lib.hid hz
      clear hz hzv hO hIV hsm hcz hT hmem
      obtain ⟨wA, hwA, hbA, hsA, kA0, kA1⟩ := box1 W c d 36
      obtain ⟨wZ, wR, hwZ, hwR, hrZ, hrR, hxR, hsR, hxZ, hsZ⟩ := boxR wA z
      rw [hsA] at hrZ hwR hrR
      have hrA : wA.heap[W.heap.size]? = some (.cells #[.int .i64 c, .int .i64 d] 36 (0, 0)) := by rw [← hwA]; exact World.alloc_heap_new W _
      have hxWR := Lib.hid (Xt.trans hbA hxR)
      have HRA := Lib.hid ((hxR.block _ (by omega)).trans hrA)
      have HRZ := Lib.hid hrZ
      have HRR := Lib.hid hrR
      have HWR := Lib.hid hwR
      clear hrZ hwR hrR hrA kA0 kA1 hbA hxZ hxR
      gi_wp2_with (first | (refine wpListIn_store_row (P := Tryz.prog) rfl 46 _ _ rfl (W.heap.size + 1) #[.int .i64 z.1.kind, .int .i64 z.1.v.kind, .float .f64 z.1.v.x, .string z.1.v.s, .bool z.1.v.b, .int .i64 z.1.v.f, .int .i64 z.1.t.kind, .int .i64 z.1.t.op, .float .f64 z.1.t.x, .string z.1.t.s, .bool z.1.t.b, .int .i64 z.1.t.f, .int .i64 z.1.t.ref.a.1, .int .i64 z.1.t.ref.a.2, .bool z.1.t.ref.cf, .bool z.1.t.ref.rf, .int .i64 z.1.t.to.a.1, .int .i64 z.1.t.to.a.2, .bool z.1.t.to.cf, .bool z.1.t.to.rf, .slice z.2 z.1.t.args.length z.1.t.args.length] rfl rfl 46 _ HRZ.out (by kernel_rfl) rfl (by simp [Value.oneCell']) ?_; rw [HWR.out]))
      have hx := hxWR.out
      refine hK _ _ (keepsFrom_xt hx _) ⟨KeepA.xt hx, KeepsT.of_xt hx⟩ (hI.xt hx) ?_
      refine ⟨z, y, W.heap.size, W.heap.size + 1, nT, HZ.out, hy, hya, hyc, HRA.out, HRR.out, hOz.xt hx, ?_⟩
      simp only [List.setIfInBounds_toArray, List.set_cons_zero, List.set_cons_succ]
      try rfl
    case body =>
      rintro l0 pre x a' W hl0 ⟨r, hr⟩ hI ⟨z, y, Bx, By, nT, hz, hy, hya, hyc, hBx, hBy, hA, rfl⟩ hlt
      subst hA0
      obtain ⟨⟨c, d⟩, tc, tp⟩ := x
      obtain ⟨ya, yc, yp, ycap⟩ := y
      simp only at hz hya hyc hBx
      subst hya hyc
      obtain ⟨nn, hn⟩ : ∃ nn, pre.length = nn := ⟨_, rfl⟩
      rw [hn] at hI hy
      have HI := Lib.hid hI
      have hnk := (List.getElem?_eq_some_iff.1 hy).1
      have hlm := hI.was.many
      obtain ⟨vv, hvc, hvP⟩ := hI.was.cell
      obtain ⟨la, lc, rfl, hlc, hlc2⟩ := hvP.shape
      obtain ⟨b, off, rfl, q0, q1, q2, hok, n0, hin⟩ := hvP.at hy
      simp only at q0 q1 hin
      have hki : (nn : Int) < (p.l.length : Int) := by omega
      obtain ⟨x0, x1, _, _⟩ := cells2 hBx
      have HBY := Lib.hid hBy
      have HXD : Hid (Xt W W.drew) := (Xt.refl W).drew
      have HF : Hid (∀ V, Xt W V → (V.cell? ⟨N, 0, none⟩ = some (.int .i64 nn) ∧ V.cell? ⟨C, 0, none⟩ = some (.pointer (some ⟨r', 0, none⟩)) ∧ V.cell? ⟨r', 0, none⟩ = some (.slice (some ⟨b, off, none⟩) p.l.length lc) ∧ V.cell? ⟨B + 1 + 1, 2, none⟩ = some (.int .i64 o.n)) ∧ (V.cell? ⟨Bx, 0, none⟩ = some (.int .i64 c) ∧ V.cell? ⟨Bx, 1, none⟩ = some (.int .i64 d)) ∧ V.cell? ⟨b, off + nn * 23, none⟩ = some (.int .i64 c) ∧ V.cell? ⟨b, off + nn * 23 + 1, none⟩ = some (.int .i64 d)) := Lib.hid fun V hV => by
        obtain ⟨_, _, _, ⟨m2, _⟩, m0, m1⟩ := (HI.out.rows.keep (Keep.xt hV)).cells
        exact ⟨⟨m1, m0, hV.cellsIn _ _ _ hvc, m2⟩, ⟨hV.cellsIn _ _ _ x0, hV.cellsIn _ _ _ x1⟩, hV.cellsIn _ _ _ q0, hV.cellsIn _ _ _ q1⟩
      have HFR : Hid (∀ V, Xt W V → V.rangeAt b (off + nn * 23 + 2) ((inC1 ⟨(c, d), yc, yp, ycap⟩).drop 2)) := Lib.hid fun V hV j u hu => hV.cellsIn _ _ _ (q2 j u hu)
      have hz1 : z.1 = yc := by rw [hz]
      have HJ := Lib.hid (just_any (nT + n0) z.1 yc z.2 yp z.1.t.args.length ycap W.drew (ArgsIn.upQ (Nat.le_add_right _ _) (hA.xt HXD.out)) (ArgsIn.upQ (Nat.le_add_left _ _) (hin.xt HXD.out)))
      rw [show eqCB z.1 yc = true from (eqCB_iff _ _).2 hz1] at HJ
      have HN := Lib.hid hn
      have HPK := Lib.hid (fun V => pickz_any o.n 3 V HO.out.2.1 HO.out.2.2 (by omega) (by omega))
      clear hr hBx hBy hz hA x0 x1 q0 q1 q2 hok hin hn hz1 hlt hy hI hvc hvP
      simp only [List.setIfInBounds_toArray, List.set_cons_zero, List.set_cons_succ]
      gi_wp2_with fail
      refine region_round (S := fun V => Xt W V) (by kernel_rfl) (by kernel_rfl) (fun _ _ h => h) HXD.out (fun hHeld => ?_)
      refine tk HF.out 0 ?_
      refine tk HF.out 1 ?_
      refine tk HF.out 2 ?_
      refine tk HF.out 3 ?_
      refine tk HF.out 4 ?_
      refine tk HF.out 5 ?_
      refine tkH 6 (.bool false) ?_ ?_
      · intro V hSw; go_simp; first | done | omega | (simp; omega)
      try simp only [Act.put, nm]
      refine tk HF.out 7 ?_
      refine tk HF.out 8 ?_
      refine tk HF.out 9 ?_
      refine tk HF.out 10 ?_
      refine tk HF.out 11 ?_
      refine tk HF.out 12 ?_
      refine tk HF.out 13 ?_
      refine tk HF.out 14 ?_
      refine tk HF.out 15 ?_
      refine tk HF.out 16 ?_
      refine tk HF.out 17 ?_
      refine tk HF.out 18 ?_
      refine tk HF.out 19 ?_
      refine tkH 20 (.agg (rowC21 z.1 z.2)) ?_ ?_
      · intro V hSw; exact exec_load_row 46 _ (by rfl) By (by rfl) 46 _ (0, 0) _ (rowX hSw HBY.out) Tryz.underlying46 rfl (by kernel_rfl)
      try simp only [Act.put, nm]
      refine tk HF.out 21 ?_
      refine tk HF.out 22 ?_
      refine tk HF.out 23 ?_
      refine tk HF.out 24 ?_
      refine tk HF.out 25 ?_
      refine tk HF.out 26 ?_
      refine tk HF.out 27 ?_
      refine tkH 28 (.agg ((inC1 ⟨(c, d), yc, yp, ycap⟩).drop 2).toArray) ?_ ?_
      · intro V hSw; exact exec_load_mid 46 _ (by rfl) b (off + nn * 23 + 2) (by rfl) ((inC1 ⟨(c, d), yc, yp, ycap⟩).drop 2) _ (HFR.out V hSw) Tryz.underlying46 rfl (by kernel_rfl)
      try simp only [Act.put, nm]
      refine rdH 29 fun K hK => ?_
      go_simp
      refine (HJ.out).mono ?_
      rintro e w7 ⟨rfl, hg7⟩
      have HX7 := Lib.hid (HXD.out.trans hg7.xt)
      refine ko hK HX7.out fun hHe => ?_
      clear hK K hg7
      refine tk HF.out 30 ?_
      refine tk HF.out 31 ?_
      refine wpAnyH_done (by kernel_rfl) ?_ _
      clear hHe hHeld HJ HXD
      gi_wp2_with fail
      have HXD : Hid (Xt W w7.drew) := Lib.hid HX7.out.drew
      refine region_round (S := fun V => Xt W V) (by kernel_rfl) (by kernel_rfl) (fun _ _ h => h) HXD.out (fun hHeld => ?_)
      refine tk HF.out 0 ?_
      refine tk HF.out 1 ?_
      refine tk HF.out 2 ?_
      refine rdH 3 fun K hK => ?_
      go_simp
      refine (HPK.out _).mono ?_
      rintro e w' ⟨rfl, rfl⟩
      refine ko hK HXD.out fun hHe => ?_
      clear hK K
      refine tk HF.out 4 ?_
      generalize ((nn : Int) == pickZ o.n 3) = bq
      refine wpAnyH_done (by kernel_rfl) ?_ _
      clear hHe hHeld HFR HBY HPK
      have hadd : IntKind.i64.wrap ((nn : Int) + 1) = (nn : Int) + 1 := by rw [IntKind.wrap_i64]; omega
      have hws2 := hws
      obtain ⟨o1, o2, o3, o4, o5, o6, o7⟩ := HL0.out
      cases bq
      · have HIE := Lib.hid (HI.out.xt HXD.out)
        obtain ⟨cn, fn⟩ := one_row HIE.out.rows.b9
        gi_wp2_with fail
        have hTE : Tr p.m W0.heap.size W (w7.drew.setCell ⟨N, 0, none⟩ (.int .i64 ((nn : Int) + 1))) := (Tr.xt HXD.out).trans (Tr.one HIE.out.rows.b9 (setCell_grown _ _ _ _) hsW (by decide))
        have hIE := HIE.out.count (by omega) ⟨by omega, by omega, by omega, by omega, by omega, by omega, by omega, by omega⟩ ⟨by omega, by omega, by omega⟩ ⟨by omega, by omega, by omega⟩ (by omega)
        rw [show ((nn + 1 : Nat) : Int) = (nn : Int) + 1 by omega] at hIE
        refine ⟨hTE.from_, ⟨hTE.args, hTE.kept⟩, ?_⟩
        show WI w0 wb gs rs k j B C N p.g p.m p.r r' q o n p.l (pre ++ [((c, d), yc, tp)]).length _
        rw [List.length_append, HN.out]
        exact hIE
      · gi_wp2_with fail
        have HX8 : Hid (Xt W w7.drew.drew) := Lib.hid HXD.out.drew
        obtain ⟨w8, hw8⟩ : ∃ w8, w7.drew.drew = w8 := ⟨_, rfl⟩
        rw [hw8] at HX8
        have HI8 := Lib.hid (HI.out.xt HX8.out)
        have HOWN := Lib.hid (gown_any n o.x.c o.x.p o.x.cap w8 HSM.out HI8.out.args)
        have HF2 : Hid (∀ V, WR wb gs rs k B C N p.g p.r r' o nn V → (V.cell? ⟨wb, 0, none⟩ = some (.slice (some ⟨gs, 0, none⟩) 2 2) ∧ V.cell? ⟨wb, 1, none⟩ = some (.slice (some ⟨rs, 0, none⟩) 2 2)) ∧ (V.cell? ⟨gs, k, none⟩ = some (.pointer (some ⟨p.g, 0, none⟩)) ∧ V.cell? ⟨rs, k, none⟩ = some (.pointer (some ⟨p.r, 0, none⟩))) ∧ (V.cell? ⟨B, 0, none⟩ = some (.pointer (some ⟨wb, 0, none⟩)) ∧ V.cell? ⟨B + 1, 0, none⟩ = some (.int .i64 k)) ∧ (V.cell? ⟨B + 1 + 1, 2, none⟩ = some (.int .i64 o.n) ∧ V.cell? ⟨B + 1 + 1, 3, none⟩ = some (.int .i64 o.x.a.1) ∧ V.cell? ⟨B + 1 + 1, 4, none⟩ = some (.int .i64 o.x.a.2))) := Lib.hid fun V hV => let h := hV.cells; ⟨h.1, h.2.1, h.2.2.1, h.2.2.2.1⟩
        have HRM : Hid (∀ V, WR wb gs rs k B C N p.g p.r r' o nn V → V.rangeAt (B + 1 + 1) 5 ((inC1 o.x).drop 2)) := Lib.hid fun V hV => (opC_at hV.b2).2.2
        refine region_round (S := fun V => WR wb gs rs k B C N p.g p.r r' o nn V) (by kernel_rfl) (by kernel_rfl) (fun _ _ h => h) (by rw [hw8]; exact HI8.out.rows) (fun hHeld => ?_)
        simp only [hw8] at hHeld ⊢
        clear hw8
        refine tk HF2.out 0 ?_
        refine tk HF2.out 1 ?_
        refine tk HF2.out 2 ?_
        refine tk HF2.out 3 ?_
        refine tk HF2.out 4 ?_
        refine tk HF2.out 5 ?_
        refine tk HF2.out 6 ?_
        refine tk HF2.out 7 ?_
        refine tk HF2.out 8 ?_
        refine tk HF2.out 9 ?_
        refine tkH 10 (.agg ((inC1 o.x).drop 2).toArray) ?_ ?_
        · intro V hSw; exact exec_load_mid 46 _ (by rfl) (B + 1 + 1) (5) (by rfl) ((inC1 o.x).drop 2) _ (HRM.out V hSw) Tryz.underlying46 rfl (by kernel_rfl)
        try simp only [Act.put, nm]
        refine rdH 11 fun K hK => ?_
        go_simp
        refine HOWN.out.mono ?_
        rintro e w9 ⟨a', c', rfl, hO9, hx9⟩
        have HX9 : Hid (Xt W w9) := Lib.hid (HX8.out.trans hx9)
        have HI9 := Lib.hid (HI.out.xt HX9.out)
        obtain ⟨M9, l9', hs9⟩ := HI9.out.st
        have HS9 := Lib.hid hs9
        have HPU := Lib.hid (gput_any n p.g p.m M9 o.x.a o.x.c a' c' w9 hs9.pa.g HOK.out (HT.out.xt hs9.hx) HSM.out hO9.args)
        obtain ⟨cd, hcd⟩ : ∃ z, codeP (pis l9') o.x.a o.x.c = z := ⟨_, rfl⟩
        unfold PutR at HPU
        rw [hs9.pa.code] at HPU
        dsimp only at HPU
        rw [hcd] at HPU
        have HCD := Lib.hid hcd
        refine ko hK HI9.out.rows fun hHe => ?_
        clear hK K hx9 hO9 hs9 hcd HOWN
        refine rdH 12 fun K hK => ?_
        go_simp
        refine HPU.out.mono ?_
        rintro e w10 ⟨ax, rfl, hG10, hg10⟩
        have HG10 := Lib.hid hG10
        have HB10 := Lib.hid hg10
        have hmap : ∃ E, MapIs w9 p.m E := let ⟨E, hm, _⟩ := HS9.out.pa.g.map; ⟨E, hm⟩
        obtain ⟨E9, hE9⟩ := hmap
        have HE9 := Lib.hid hE9
        have HR10 := Lib.hid (HI9.out.rows.keep (Keep.map hE9 hg10))
        refine ko hK HR10.out fun hHe2 => ?_
        clear hK K hG10 hg10 hE9 HPU
        refine tk HF2.out 13 ?_
        refine wpAnyH_done (by kernel_rfl) ?_ _
        clear hHeld hHe hHe2
        gi_wp2_with fail
        have HBD : Hid (w9.grownBy w10.drew (some p.m)) := Lib.hid (grownBy_far HB10.out (Xt.refl _).drew.grownN (fun r e => by cases e))
        have HDD := Lib.hid (HS9.out.pa.r.byMap HS9.out.pa.g HBD.out HS9.out.pa.n1)
        have HRD := Lib.hid (HR10.out.keep (Keep.xt (Xt.refl _).drew))
        have HDP := Lib.hid (dput_any n p.r l9' o.x.a o.x.c o.x.p o.x.cap w10.drew HDD.out HOK.out HSM.out (HI9.out.args.kept (CellsIn.of_grown HE9.out HBD.out)))
        unfold DPutR at HDP
        rw [HCD.out] at HDP
        refine region_round (S := fun V => WR wb gs rs k B C N p.g p.r r' o nn V) (by kernel_rfl) (by kernel_rfl) (fun _ _ h => h) HRD.out (fun hHeld => ?_)
        refine tk HF2.out 0 ?_
        refine tk HF2.out 1 ?_
        refine tk HF2.out 2 ?_
        refine tk HF2.out 3 ?_
        refine tk HF2.out 4 ?_
        refine tk HF2.out 5 ?_
        refine tk HF2.out 6 ?_
        refine tk HF2.out 7 ?_
        refine tk HF2.out 8 ?_
        refine tk HF2.out 9 ?_
        refine tk HF2.out 10 ?_
        refine tkH 11 (.agg ((inC1 o.x).drop 2).toArray) ?_ ?_
        · intro V hSw; exact exec_load_mid 46 _ (by rfl) (B + 1 + 1) (5) (by rfl) ((inC1 o.x).drop 2) _ (HRM.out V hSw) Tryz.underlying46 rfl (by kernel_rfl)
        try simp only [Act.put, nm]
        refine rdH 12 fun K hK => ?_
        go_simp
        refine HDP.out.mono ?_
        rintro e w11 ⟨l11, rfl, hD11, hp11, hg11⟩
        have HIE := Lib.hid (HI9.out.put HS9.out HBD.out HDD.out hg11 (HS9.out.pa.put HOK.out ax rfl (HG10.out.xt (Xt.refl _).drew) hg11 HDD.out hD11 hp11) ⟨by have := hrB; omega, by have := hrB; omega⟩)
        have hT11 : Tr p.m W0.heap.size W w11 := by
          obtain ⟨v, hv, _⟩ := HDD.out.obj
          exact (Tr.xt HX9.out).trans ((Tr.map HE9.out HBD.out (by omega)).trans (Tr.one hv hg11 (by show p.r < W0.heap.size; omega) (by decide)))
        have HT11 := Lib.hid hT11
        refine ko hK HIE.out.rows fun hHe => ?_
        clear hK K hD11 hp11 hg11 hT11 HDP
        refine tk HF2.out 13 ?_
        refine wpAnyH_done (by kernel_rfl) ?_ _
        clear hHeld hHe
        obtain ⟨cn, fn⟩ := one_row HIE.out.rows.b9
        gi_wp2_with fail
        have hTE : Tr p.m W0.heap.size W (w11.setCell ⟨N, 0, none⟩ (.int .i64 ((nn : Int) + 1))) := HT11.out.trans (Tr.one HIE.out.rows.b9 (setCell_grown _ _ _ _) hsW (by decide))
        have hIE := HIE.out.count (by omega) ⟨by omega, by omega, by omega, by omega, by omega, by omega, by omega, by omega⟩ ⟨by omega, by omega, by omega⟩ ⟨by omega, by omega, by omega⟩ (by omega)
        rw [show ((nn + 1 : Nat) : Int) = (nn : Int) + 1 by omega] at hIE
        refine ⟨hTE.from_, ⟨hTE.args, hTE.kept⟩, ?_⟩
        show WI w0 wb gs rs k j B C N p.g p.m p.r r' q o n p.l (pre ++ [((c, d), yc, tp)]).length _
        rw [List.length_append, HN.out]
        exact hIE
end
end Go.Proofs.YtideclfpbpjebaaGreatDoor
