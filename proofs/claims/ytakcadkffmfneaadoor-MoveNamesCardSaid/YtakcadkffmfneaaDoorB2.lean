import Derived.Test.YtakcadkffmfneaaDoorD6
/- formula.Copy's rounds, with the rows that its lists lie in (made by mk52.py). -/
namespace Go.Proofs.YtakcadkffmfneaaDoor
open Go.RowKit Go.Sort

/-- A whole row of nodes. -/
def NodeRow (w : World) (b : Nat) : Prop := ∃ (cur : Array Value) (cap : Nat), w.heap[b]? = some (.cells cur 37 (0, 0)) ∧ cur.size = cap * 15
theorem NodeRow.of_heap {w w' : World} {b : Nat} (h : NodeRow w b) (e : w'.heap[b]? = w.heap[b]?) : NodeRow w' b := let ⟨cur, cap, h1, h2⟩ := h; ⟨cur, cap, e.trans h1, h2⟩
/-- The rows that a round has laid. -/
structure CopyRowsR (wr : World) (S : Nat) (n : Nat) (ob : Option Nat) (l : List NodeT) (R : List (NodeT × Value)) : Prop where
  fst : R.map Prod.fst = copyL l
  args : ∀ (k : Nat) (r : NodeT × Value), R[k]? = some r → ∃ n', n = n' + 1 ∧ ArgsS (fun b => (S ≤ b ∧ ob ≠ some b) ∧ NodeRow wr b) wr n' r.2 r.1.args
/-- Copy's state: B its box, B + 1 the cell of its result. -/
structure CopyStR (w : World) (n : Nat) (t2 : NodeT) (l : List NodeT) (wr : World) (i : Nat) (va : Option Addr) (vn vc : Nat) : Prop where
  box : NodeAt wr w.heap.size 0 t2 va vn vc
  f14 : wr.frozen? ⟨w.heap.size, 14, none⟩ = false
  res : ∃ cs, wr.heap[w.heap.size + 1]? = some (.cells cs 37 (0, 0)) ∧ cs.size = 15
  ob : ∀ g, (Value.slice va vn vc).ownBlock = some g → w.heap.size + 2 ≤ g
  rows : ∃ R, wr.ownsRow 0 37 15 (.slice va vn vc) i (R.flatMap rowC) ∧ CopyRowsR wr (w.heap.size + 2) n (Value.slice va vn vc).ownBlock (l.take i) R
  xt : Xt w wr
/-- Where the loop begins. -/
theorem copy_startR {w w0 : World} {t : NodeT} {a : Option Addr} {m cap : Nat} (n ox : Nat) (l : List NodeT) (hc : NodeAt w0 w.heap.size 0 t a m cap) (hs : w0.heap.size = w.heap.size + 1) (hf : w0.frozen? ⟨w.heap.size, 14, none⟩ = false) (hg : Gr w w0) :
    CopyStR w n (.mk t.kind t.op ox t.s t.b t.f t.ref t.to t.args) l (((w0.setCell ⟨w.heap.size, 2, none⟩ (.float .f64 ox)).setCell ⟨w.heap.size, 14, none⟩ (.slice none 0 0)).alloc (.cells #[.int .i64 0, .int .i64 0, .float .f64 0, .string ⟨#[]⟩, .bool false, .int .i64 0, .int .i64 0, .int .i64 0, .bool false, .bool false, .int .i64 0, .int .i64 0, .bool false, .bool false, .slice none 0 0] 37)) 0 none 0 0 := by
  obtain ⟨w1, hw1⟩ : ∃ w1, w0.setCell ⟨w.heap.size, 2, none⟩ (.float .f64 ox) = w1 := ⟨_, rfl⟩
  rw [hw1]
  obtain ⟨w2, hw2⟩ : ∃ w2, w1.setCell ⟨w.heap.size, 14, none⟩ (.slice none 0 0) = w2 := ⟨_, rfl⟩
  rw [hw2]
  have s1 : w1.heap.size = w.heap.size + 1 := by rw [← hw1]; simpa using hs
  have s2 : w2.heap.size = w.heap.size + 1 := by rw [← hw2]; simpa using s1
  have k1 : ∀ o v, o ≠ 2 → w0.cell? ⟨w.heap.size, o, none⟩ = some v → w1.cell? ⟨w.heap.size, o, none⟩ = some v := fun o v ho h => by
    rw [← hw1]; exact (World.cell?_setCell_other w0 _ _ _ (by intro e; cases e; exact ho rfl)).trans h
  have k2 : ∀ o v, o ≠ 14 → w1.cell? ⟨w.heap.size, o, none⟩ = some v → w2.cell? ⟨w.heap.size, o, none⟩ = some v := fun o v ho h => by
    rw [← hw2]; exact (World.cell?_setCell_other w1 _ _ _ (by intro e; cases e; exact ho rfl)).trans h
  have k3 : ∀ o v (ob : Obj), w2.cell? ⟨w.heap.size, o, none⟩ = some v → (w2.alloc ob).cell? ⟨w.heap.size, o, none⟩ = some v := fun o v ob h =>
    (World.cell?_of_block (w := w2) (a := ⟨w.heap.size, o, none⟩) (Below.heap_alloc w2 ob _ (by show w.heap.size < _; omega))).trans h
  have x1 : Xt w w1 := by rw [← hw1]; exact hg.xt.grownB (setCell_grown _ _ _ _) (fun m hm => by cases hm; exact Nat.le_refl _)
  have x2 : Xt w w2 := by rw [← hw2]; exact x1.grownB (setCell_grown _ _ _ _) (fun m hm => by cases hm; exact Nat.le_refl _)
  refine ⟨⟨?_, ?_, ?_, ?_, ?_, ?_, ?_, ?_, ?_, ?_, ?_, ?_, ?_, ?_, ?_⟩, ?_, ?_, fun g hg => (by cases hg), ⟨[], ?_, ?_, fun k r hk => (by simp at hk)⟩, x2.alloc _⟩
  · exact k3 _ _ _ (k2 _ _ (by omega) (k1 _ _ (by omega) hc.c0))
  · exact k3 _ _ _ (k2 _ _ (by omega) (k1 _ _ (by omega) hc.c1))
  · refine k3 _ _ _ (k2 _ _ (by omega) ?_)
    rw [← hw1, Nat.zero_add]; exact World.cell?_setCell_same' w0 _ _ (by have := hc.c2; rw [Nat.zero_add] at this; rw [this]; rfl)
  · exact k3 _ _ _ (k2 _ _ (by omega) (k1 _ _ (by omega) hc.c3))
  · exact k3 _ _ _ (k2 _ _ (by omega) (k1 _ _ (by omega) hc.c4))
  · exact k3 _ _ _ (k2 _ _ (by omega) (k1 _ _ (by omega) hc.c5))
  · exact k3 _ _ _ (k2 _ _ (by omega) (k1 _ _ (by omega) hc.c6))
  · exact k3 _ _ _ (k2 _ _ (by omega) (k1 _ _ (by omega) hc.c7))
  · exact k3 _ _ _ (k2 _ _ (by omega) (k1 _ _ (by omega) hc.c8))
  · exact k3 _ _ _ (k2 _ _ (by omega) (k1 _ _ (by omega) hc.c9))
  · exact k3 _ _ _ (k2 _ _ (by omega) (k1 _ _ (by omega) hc.c10))
  · exact k3 _ _ _ (k2 _ _ (by omega) (k1 _ _ (by omega) hc.c11))
  · exact k3 _ _ _ (k2 _ _ (by omega) (k1 _ _ (by omega) hc.c12))
  · exact k3 _ _ _ (k2 _ _ (by omega) (k1 _ _ (by omega) hc.c13))
  · refine k3 _ _ _ ?_
    have h14 := k1 _ _ (by omega) hc.c14
    rw [Nat.zero_add] at h14
    rw [← hw2, Nat.zero_add]; exact World.cell?_setCell_same' w1 _ _ (by rw [h14]; rfl)
  · have q1 : w1.frozen? ⟨w.heap.size, 14, none⟩ = false := by rw [← hw1]; simp [hf]
    have q2 : w2.frozen? ⟨w.heap.size, 14, none⟩ = false := by rw [← hw2]; simp [q1]
    exact (World.frozen?_of_block (w := w2) (a := ⟨w.heap.size, 14, none⟩) (Below.heap_alloc w2 _ _ (by show w.heap.size < _; omega))).trans q2
  · rw [← s2]; exact ⟨_, (MapKept.heap_alloc w2 _).1, rfl⟩
  · exact World.ownsRow_nil _ _ _ _
  · rfl
/-- The child's box is pushed. -/
theorem copy_pushR {w wr w6 : World} {n n' i : Nat} {t2 x : NodeT} {l : List NodeT} {va a' : Option Addr} {vn vc : Nat} (hn : n = n' + 1) (h : CopyStR w n t2 l wr i va vn vc) (hx : l[i]? = some x) (hl : l.length ≤ 1099511627000) (h6 : Xt wr w6)
    (hA : ArgsS (fun b => wr.heap.size ≤ b ∧ NodeRow w6 b) w6 n' (.slice a' x.args.length x.args.length) (copyL x.args)) (wA : World) (hwA : w6.alloc (.cells #[.int .i64 x.kind, .int .i64 x.op, .float .f64 (oneX x.x), .string x.s, .bool x.b, .int .i64 x.f, .int .i64 x.ref.a.1, .int .i64 x.ref.a.2, .bool x.ref.cf, .bool x.ref.rf, .int .i64 x.to.a.1, .int .i64 x.to.a.2, .bool x.to.cf, .bool x.to.rf, .slice a' x.args.length x.args.length] 37) = wA) :
    ∃ va' vn' vc' w7, (Builtin.append_ #[35, 35] 35 #[.slice va vn vc, .slice (some ⟨w6.heap.size, 0, none⟩) 1 1]).run Tryd.prog wA = .ok (.slice va' vn' vc') w7 ∧ Xt w w6 ∧ Xt w wA ∧ Xt w w7 ∧ Xt w (w7.setCell ⟨w.heap.size, 14, none⟩ (.slice va' vn' vc')) ∧ (w6.cell? ⟨w.heap.size, 14, none⟩ = some (.slice va vn vc) ∧ wA.cell? ⟨w.heap.size, 14, none⟩ = some (.slice va vn vc) ∧ w7.cell? ⟨w.heap.size, 14, none⟩ = some (.slice va vn vc)) ∧ w7.frozen? ⟨w.heap.size, 14, none⟩ = false ∧ (∀ b o, wr.heap.size ≤ b → b < wA.heap.size → w7.cell? ⟨b, o, none⟩ = wA.cell? ⟨b, o, none⟩ ∧ (w7.setCell ⟨w.heap.size, 14, none⟩ (.slice va' vn' vc')).cell? ⟨b, o, none⟩ = wA.cell? ⟨b, o, none⟩) ∧
      CopyStR w n t2 l (w7.setCell ⟨w.heap.size, 14, none⟩ (.slice va' vn' vc')) (i + 1) va' vn' vc' := by
  obtain ⟨i0, hi, hz0, hz1, hz2⟩ := info_parts infoNode
  obtain ⟨hbox, hf14, ⟨cs, hres, hcs⟩, hob, ⟨R, hown, hRf, hRa⟩, hxt⟩ := h
  have hil : i < l.length := (List.getElem?_eq_some_iff.1 hx).1
  have hBr : w.heap.size < wr.heap.size := World.block_lt_of_cell? wr _ hbox.c0
  have hB1 : w.heap.size + 1 < wr.heap.size := (Array.getElem?_eq_some_iff.1 hres).1
  have h6s := h6.sz
  have hxtA : Xt wr wA := by rw [← hwA]; exact h6.alloc _
  have hAs : wA.heap.size = w6.heap.size + 1 := by rw [← hwA]; simp
  have hRl : R.length = i := by
    have := congrArg List.length hRf
    rw [copyL_map] at this
    simp at this; omega
  have hownA : wA.ownsRow 0 37 15 (.slice va vn vc) i (R.flatMap rowC) :=
    World.ownsRow.kept hown (row := none) ⟨hxtA.os, hxtA.tape, hxtA.output, hxtA.size, fun k hk _ => hxtA.block k hk⟩ (by
      cases (Value.slice va vn vc).ownBlock with
      | none => exact Or.inl rfl
      | some q => exact Or.inr (by simp))
  have hnews : ∀ (j : Nat) (u : Value), (nodeC (copyT x) (.slice a' x.args.length x.args.length))[j]? = some u → wA.cell? ((⟨w6.heap.size, 0, none⟩ : Addr).add j) = some u := by
    rw [← hwA]
    have := news_at w6 (nodeC (copyT x) (.slice a' x.args.length x.args.length)) 37 (b := w6.heap.size) rfl
    cases x
    exact this
  obtain ⟨v', w7, hpush, hown7, hg7, hwh⟩ := run_append_where (P := Tryd.prog) wA 35 35 37 i0 _ 15 128 Tryd.underlying35 hi hz0 hz1 hz2 rfl (by decide) (.slice va vn vc) i (R.flatMap rowC) hownA ⟨w6.heap.size, 0, none⟩ 1 1 (nodeC (copyT x) (.slice a' x.args.length x.args.length)) rfl hnews (nodeC_one _ _ rfl) (by unfold maxLen; omega) (by omega)
  obtain ⟨va', vc', rfl, hvc1, hvc2⟩ := ownsRow_base hown7
  have hobl : ∀ g, (Value.slice va vn vc).ownBlock = some g → g < wr.heap.size := fun g hg => (World.ownsRow.lt hown g hg).2
  have hob' : ∀ g, (Value.slice va' (i + 1) vc').ownBlock = some g → w.heap.size + 2 ≤ g ∧ g < w7.heap.size := by
    intro g hg
    have hlt := (World.ownsRow.lt hown7 g hg).2
    rcases hwh with e | e
    · rw [e] at hg; exact ⟨hob g hg, hlt⟩
    · have := e g hg; exact ⟨by omega, hlt⟩
  have hx7 : Xt w w7 := (hxt.trans hxtA).grownB hg7 (fun m hm => by have := hob m hm; omega)
  have hn0 : (Value.slice va vn vc).ownBlock ≠ some w.heap.size := fun e => by have := hob _ e; omega
  have hn1 : (Value.slice va vn vc).ownBlock ≠ some (w.heap.size + 1) := fun e => by have := hob _ e; omega
  have k7 : ∀ b o, b < wr.heap.size → (Value.slice va vn vc).ownBlock ≠ some b → w7.cell? ⟨b, o, none⟩ = wr.cell? ⟨b, o, none⟩ := fun b o hb hne =>
    (World.cell?_of_block (w := wA) (a := ⟨b, o, none⟩) (hg7.block b (by omega) (fun e => hne e.symm))).trans ((hxtA.cells).1 b o hb)
  have hc14 := (k7 w.heap.size 14 hBr hn0).trans hbox.c14
  have hcell : ∀ o v, o ≠ 14 → wr.cell? ⟨w.heap.size, o, none⟩ = some v → (w7.setCell ⟨w.heap.size, 14, none⟩ (.slice va' (i + 1) vc')).cell? ⟨w.heap.size, o, none⟩ = some v := fun o v ho hv =>
    (World.cell?_setCell_other w7 _ _ _ (by intro e; cases e; exact ho rfl)).trans ((k7 _ o hBr hn0).trans hv)
  have hf7 : w7.frozen? ⟨w.heap.size, 14, none⟩ = false :=
    (World.frozen?_of_block (w := wr) (a := ⟨w.heap.size, 14, none⟩) ((hg7.block _ (by omega) (fun e => hn0 e.symm)).trans (hxtA.block _ hBr))).trans hf14
  have k8 : ∀ b, b < wr.heap.size → b ≠ w.heap.size → (Value.slice va vn vc).ownBlock ≠ some b → (w7.setCell ⟨w.heap.size, 14, none⟩ (.slice va' (i + 1) vc')).heap[b]? = wr.heap[b]? := fun b hb hne hob =>
    (Below.heap_setCell _ _ _ _ hne).trans ((hg7.block b (by omega) (fun e => hob e.symm)).trans (hxtA.block b hb))
  refine ⟨va', i + 1, vc', w7, hpush, hxt.trans h6, hxt.trans hxtA, hx7, hx7.grownB (setCell_grown _ _ _ _) (fun m hm => by cases hm; exact Nat.le_refl _), ⟨((h6.cells).1 _ _ hBr).trans hbox.c14, ((hxtA.cells).1 _ _ hBr).trans hbox.c14, hc14⟩, hf7, fun b o hb hl => ?_, ?_⟩
  · have e7 : w7.cell? ⟨b, o, none⟩ = wA.cell? ⟨b, o, none⟩ := World.cell?_of_block (w := wA) (a := ⟨b, o, none⟩) (hg7.block b hl (fun e => by have := hobl b e.symm; omega))
    exact ⟨e7, (World.cell?_setCell_far _ _ _ _ (by show w.heap.size ≠ b; omega)).trans e7⟩
  refine ⟨⟨?_, ?_, ?_, ?_, ?_, ?_, ?_, ?_, ?_, ?_, ?_, ?_, ?_, ?_, ?_⟩, ?_, ?_, fun g hg => (hob' g hg).1, ?_, hx7.grownB (setCell_grown _ _ _ _) (fun m hm => by cases hm; exact Nat.le_refl _)⟩
  · exact hcell _ _ (by omega) hbox.c0
  · exact hcell _ _ (by omega) hbox.c1
  · exact hcell _ _ (by omega) hbox.c2
  · exact hcell _ _ (by omega) hbox.c3
  · exact hcell _ _ (by omega) hbox.c4
  · exact hcell _ _ (by omega) hbox.c5
  · exact hcell _ _ (by omega) hbox.c6
  · exact hcell _ _ (by omega) hbox.c7
  · exact hcell _ _ (by omega) hbox.c8
  · exact hcell _ _ (by omega) hbox.c9
  · exact hcell _ _ (by omega) hbox.c10
  · exact hcell _ _ (by omega) hbox.c11
  · exact hcell _ _ (by omega) hbox.c12
  · exact hcell _ _ (by omega) hbox.c13
  · rw [Nat.zero_add]; exact World.cell?_setCell_same' w7 _ _ (by rw [hc14]; rfl)
  · simp [hf7]
  · exact ⟨cs, (k8 _ hB1 (by omega) hn1).trans hres, hcs⟩
  · have e7 : (R ++ [(copyT x, Value.slice a' x.args.length x.args.length)]).flatMap rowC = R.flatMap rowC ++ nodeC (copyT x) (.slice a' x.args.length x.args.length) := by simp [rowC]
    refine ⟨R ++ [(copyT x, .slice a' x.args.length x.args.length)], ?_, ?_, ?_⟩
    · rw [e7]
      exact ownsRow_setCell_other hown7 (a := ⟨w.heap.size, 14, none⟩) (fun e => by have := (hob' _ e).1; simp at this; omega) _
    · rw [List.map_append, hRf, copyL_map, copyL_map, List.take_add_one, hx]; simp
    · intro k r hk
      have hk7 : ∀ b o, b < wr.heap.size → b ≠ w.heap.size → (Value.slice va vn vc).ownBlock ≠ some b → (w7.setCell ⟨w.heap.size, 14, none⟩ (.slice va' (i + 1) vc')).cell? ⟨b, o, none⟩ = wr.cell? ⟨b, o, none⟩ := fun b o hb hne hob =>
        World.cell?_of_block (w := wr) (a := ⟨b, o, none⟩) (k8 b hb hne hob)
      have hobn : ∀ b, b < w6.heap.size → (Value.slice va vn vc).ownBlock ≠ some b → (Value.slice va' (i + 1) vc').ownBlock ≠ some b := by
        intro b hb hne e
        rcases hwh with e' | e'
        · rw [e'] at e; exact hne e
        · have := e' b e; omega
      by_cases hkl : k < R.length
      · rw [List.getElem?_append_left hkl] at hk
        obtain ⟨n1, hn1', hAk⟩ := hRa k r hk
        exact ⟨n1, hn1', hAk.keep (fun b hb hlt => ⟨⟨hb.1.1, hobn b (by omega) hb.1.2⟩, hb.2.of_heap (k8 b hlt (by omega) hb.1.2)⟩) (fun b o hb hlt => hk7 b o hlt (by omega) hb.1.2)⟩
      · rw [List.getElem?_append_right (by omega)] at hk
        have hk0 : k - R.length = 0 := by
          rcases Nat.eq_zero_or_pos (k - R.length) with e | e
          · exact e
          · rw [List.getElem?_eq_none (by simp; omega)] at hk; cases hk
        rw [hk0] at hk
        simp only [List.getElem?_cons_zero, Option.some.injEq] at hk
        subst hk
        refine ⟨n', hn, ?_⟩
        have hk6h : ∀ b, wr.heap.size ≤ b → b < w6.heap.size → (w7.setCell ⟨w.heap.size, 14, none⟩ (.slice va' (i + 1) vc')).heap[b]? = w6.heap[b]? := by
          intro b hb hlt
          refine (Below.heap_setCell _ _ _ _ (by show b ≠ w.heap.size; omega)).trans ((hg7.block b (by omega) (fun e => by have := hobl b e.symm; omega)).trans ?_)
          rw [← hwA]
          exact Below.heap_alloc w6 _ b hlt
        have hA2 : ArgsS (fun b => wr.heap.size ≤ b ∧ NodeRow w6 b) w6 n' (.slice a' x.args.length x.args.length) (copyT x).args := by cases x; exact hA
        exact hA2.keep (fun b hb hlt => ⟨⟨by have := hb.1; omega, hobn b hlt (fun e => by have := hobl b e; have := hb.1; omega)⟩, hb.2.of_heap (hk6h b hb.1 hlt)⟩) (fun b o hb hlt => World.cell?_of_block (w := w6) (a := ⟨b, o, none⟩) (hk6h b hb.1 hlt))
/-- All are pushed. -/
theorem copy_endR {w wr w' : World} {n : Nat} {t2 : NodeT} {l : List NodeT} {va : Option Addr} {vn vc : Nat} (h : CopyStR w n t2 l wr l.length va vn vc) (hk : ∀ b, w.heap.size + 2 ≤ b → b < wr.heap.size → w'.heap[b]? = wr.heap[b]?) :
    vn = l.length ∧ l.length ≤ vc ∧ vc ≤ 9223372036854775807 ∧ ArgsS (fun b => w.heap.size ≤ b ∧ NodeRow w' b) w' n (.slice va l.length l.length) (copyL l) := by
  obtain ⟨_, _, _, hob, ⟨R, hown, hRf, hRa⟩, _⟩ := h
  obtain ⟨a2, c2, e, h1, h2⟩ := ownsRow_base hown
  cases e
  refine ⟨rfl, h1, h2, ?_⟩
  rw [List.take_length] at hRf
  have hRl : R.length = l.length := by have := congrArg List.length hRf; rw [copyL_map] at this; simpa using this
  have hcl : (copyL l).length = l.length := by rw [copyL_map]; simp
  cases n with
  | zero =>
    cases R with
    | nil =>
      have : l = [] := List.eq_nil_of_length_eq_zero (by rw [← hRl]; rfl)
      subst this
      exact ⟨rfl, _, _, rfl, by simp⟩
    | cons r R => obtain ⟨n', hn, _⟩ := hRa 0 r rfl; cases hn
  | succ n =>
    refine ⟨va, l.length, by rw [hcl], by rw [hcl]; exact Nat.le_refl _, by omega, fun hne => ?_⟩
    have hlne : l ≠ [] := fun e => hne (by subst e; rfl)
    rcases hown.2 with ⟨_, h0⟩ | ⟨g, cap, cur, e, _, hgc, _, _, hgs, _⟩
    · exact absurd (List.length_eq_zero_iff.1 h0) hlne
    · cases e
      have hg2 := hob g rfl
      have hgl := (World.ownsRow.lt hown g rfl).2
      refine ⟨g, 0, rfl, ⟨by omega, ⟨cur, vc, (hk g hg2 hgl).trans hgc, hgs⟩⟩, fun k t ht => ?_⟩
      rw [← hRf, List.getElem?_map] at ht
      obtain ⟨r, hr, rfl⟩ := Option.map_eq_some_iff.1 ht
      obtain ⟨n', hn', hA⟩ := hRa k r hr
      cases hn'
      refine ⟨r.2, fun i u hu => ?_, hA.keep (fun b hb hlt => ⟨by have := hb.1.1; omega, hb.2.of_heap (hk b hb.1.1 hlt)⟩) (fun b o hb hlt => World.cell?_of_block (w := wr) (a := ⟨b, o, none⟩) (hk b hb.1.1 hlt))⟩
      have hi : i < 15 := (List.getElem?_eq_some_iff.1 hu).1
      have hf := rflat_at rowC 15 rowC_len R k i r hr hi
      have := World.ownsRow.cells hown (g := g) rfl (k * 15 + i) u (hf.trans hu)
      rw [Nat.zero_add, World.cell?_of_block (w := wr) (a := ⟨g, k * 15 + i, none⟩) (hk g hg2 hgl)]
      rw [← this, Addr.add_lit, Nat.zero_add]
end Go.Proofs.YtakcadkffmfneaaDoor
/- A list of copies that grows in a node's args: what is known of it round by round; lists of one's own. -/
namespace Go.Proofs.YtakcadkffmfneaaDoor
open Go.RowKit Go.Sort

/-- A slice of nodes in whole rows of nodes, from the row's first place on, all its blocks with a property, so deep. -/
def OwnIn (S : Nat → Prop) (w : World) : Nat → Value → List NodeT → Prop
  | 0, av, l => l = [] ∧ ∃ a, av = .slice a 0 0
  | n + 1, av, l => ∃ a cap, av = .slice a l.length cap ∧ l.length ≤ cap ∧ cap ≤ 9223372036854775807 ∧ (0 < cap → ∃ b cur K, a = some ⟨b, 0, none⟩ ∧ S b ∧ w.heap[b]? = some (.cells cur 37 (0, 0)) ∧ cur.size = K * 15 ∧ cap ≤ K ∧
      ∀ k t, l[k]? = some t → ∃ av', (∀ i u, (nodeC t av')[i]? = some u → w.cell? ⟨b, k * 15 + i, none⟩ = some u) ∧ OwnIn S w n av' t.args)
theorem OwnIn.args {S : Nat → Prop} {w : World} : ∀ {n : Nat} {av : Value} {l : List NodeT}, OwnIn S w n av l → ArgsIn w n av l
  | 0, _, _, h => by obtain ⟨rfl, a, rfl⟩ := h; exact ⟨rfl, a, 0, rfl, by omega⟩
  | n + 1, _, _, h => by
    obtain ⟨a, cap, rfl, h1, h2, h3⟩ := h
    refine ⟨a, cap, rfl, h1, h2, fun hne => ?_⟩
    have hpos := List.length_pos_iff.2 hne
    obtain ⟨b, cur, K, rfl, _, _, _, _, hc⟩ := h3 (by omega)
    exact ⟨b, 0, rfl, fun k t ht => let ⟨av', q1, q2⟩ := hc k t ht; ⟨av', by simpa only [Nat.zero_add] using q1, q2.args⟩⟩
theorem OwnIn.keep {S S' : Nat → Prop} {w w' : World} (hS : ∀ b, S b → b < w.heap.size → S' b) (hk : ∀ b, S b → b < w.heap.size → w'.heap[b]? = w.heap[b]?) : ∀ {n : Nat} {av : Value} {l : List NodeT}, OwnIn S w n av l → OwnIn S' w' n av l
  | 0, _, _, h => h
  | n + 1, _, _, h => by
    obtain ⟨a, cap, rfl, h1, h2, h3⟩ := h
    refine ⟨a, cap, rfl, h1, h2, fun hpos => ?_⟩
    obtain ⟨b, cur, K, rfl, hb, hr, hK, hcK, hc⟩ := h3 hpos
    have hlt : b < w.heap.size := (Array.getElem?_eq_some_iff.1 hr).1
    exact ⟨b, cur, K, rfl, hS b hb hlt, (hk b hb hlt).trans hr, hK, hcK, fun k t ht => let ⟨av', q1, q2⟩ := hc k t ht; ⟨av', fun i u hu => (World.cell?_of_block (w := w) (a := ⟨b, k * 15 + i, none⟩) (hk b hb hlt)).trans (q1 i u hu), OwnIn.keep hS hk q2⟩⟩
theorem OwnIn.shape {S : Nat → Prop} {w : World} {n : Nat} {av : Value} {l : List NodeT} (h : OwnIn S w n av l) : ∃ a cap, av = .slice a l.length cap ∧ l.length ≤ cap ∧ cap ≤ 9223372036854775807 := h.args.shape
/-- The rows that a round has laid. -/
structure GRows (wr : World) (M : Nat) (g : NodeT → NodeT) (n : Nat) (ob : Option Nat) (l : List NodeT) (R : List (NodeT × Value)) : Prop where
  fst : R.map Prod.fst = l.map g
  args : ∀ (k : Nat) (r : NodeT × Value), R[k]? = some r → ∃ n', n = n' + 1 ∧ OwnIn (fun b => M ≤ b ∧ ob ≠ some b) wr n' r.2 r.1.args
/-- O the block of the node whose args grow; what they lie in begins at M. -/
structure GSt (w ws : World) (O M : Nat) (g : NodeT → NodeT) (n : Nat) (t2 : NodeT) (l : List NodeT) (wr : World) (i : Nat) (va : Option Addr) (vn vc : Nat) : Prop where
  lo : w.heap.size ≤ O ∧ O < M ∧ M = ws.heap.size ∧ M ≤ wr.heap.size
  box : NodeAt wr O 0 t2 va vn vc
  f14 : wr.frozen? ⟨O, 14, none⟩ = false
  none : i = 0 → vc = 0
  ob : ∀ q, (Value.slice va vn vc).ownBlock = some q → M ≤ q
  rows : ∃ R, wr.ownsRow 0 37 15 (.slice va vn vc) i (R.flatMap rowC) ∧ GRows wr M g n (Value.slice va vn vc).ownBlock (l.take i) R
  keep : ∀ b, b < M → b ≠ O → wr.heap[b]? = ws.heap[b]?
  xt : Xt w wr
theorem grow_start {w ws : World} {O : Nat} (g : NodeT → NodeT) (n : Nat) {t2 : NodeT} (l : List NodeT) (h1 : w.heap.size ≤ O) (h2 : O < ws.heap.size) (hb : NodeAt ws O 0 t2 none 0 0) (hf : ws.frozen? ⟨O, 14, none⟩ = false) (hx : Xt w ws) :
    GSt w ws O ws.heap.size g n t2 l ws 0 none 0 0 :=
  ⟨⟨h1, h2, rfl, Nat.le_refl _⟩, hb, hf, fun _ => rfl, fun q hq => (by cases hq), ⟨[], World.ownsRow_nil _ _ _ _, rfl, fun k r hk => (by simp at hk)⟩, fun _ _ _ => rfl, hx⟩
theorem GSt.lenR {R : List (NodeT × Value)} {g : NodeT → NodeT} {l : List NodeT} {i : Nat} (h : R.map Prod.fst = (l.take i).map g) (hi : i ≤ l.length) : R.length = i := by
  have := congrArg List.length h
  simp at this; omega
/-- The child's box is pushed. -/
theorem grow_push {w ws wr w6 : World} {O M n n' i : Nat} {g : NodeT → NodeT} {t2 x : NodeT} {l : List NodeT} {va a' : Option Addr} {vn vc c' : Nat} (hn : n = n' + 1) (h : GSt w ws O M g n t2 l wr i va vn vc) (hx : l[i]? = some x) (hl : l.length ≤ 1099511627000) (h6 : Xt wr w6)
    (hA : OwnIn (fun b => wr.heap.size ≤ b) w6 n' (.slice a' (g x).args.length c') (g x).args) (wA : World)
    (hwA : w6.alloc (.cells #[.int .i64 (g x).kind, .int .i64 (g x).op, .float .f64 (g x).x, .string (g x).s, .bool (g x).b, .int .i64 (g x).f, .int .i64 (g x).ref.a.1, .int .i64 (g x).ref.a.2, .bool (g x).ref.cf, .bool (g x).ref.rf, .int .i64 (g x).to.a.1, .int .i64 (g x).to.a.2, .bool (g x).to.cf, .bool (g x).to.rf, .slice a' (g x).args.length c'] 37) = wA) :
    ∃ va' vn' vc' w7, (Builtin.append_ #[35, 35] 35 #[.slice va vn vc, .slice (some ⟨w6.heap.size, 0, none⟩) 1 1]).run Tryd.prog wA = .ok (.slice va' vn' vc') w7 ∧ (w6.cell? ⟨O, 14, none⟩ = some (.slice va vn vc) ∧ wA.cell? ⟨O, 14, none⟩ = some (.slice va vn vc) ∧ w7.cell? ⟨O, 14, none⟩ = some (.slice va vn vc)) ∧ w7.frozen? ⟨O, 14, none⟩ = false ∧
      (∀ b, b < wr.heap.size → (b < M ∧ b ≠ O ∨ b < w.heap.size) → w6.heap[b]? = wr.heap[b]? ∧ wA.heap[b]? = wr.heap[b]? ∧ w7.heap[b]? = wr.heap[b]? ∧ (w7.setCell ⟨O, 14, none⟩ (.slice va' vn' vc')).heap[b]? = wr.heap[b]?) ∧
      (∀ b, wr.heap.size ≤ b → b < wA.heap.size → w7.heap[b]? = wA.heap[b]? ∧ (w7.setCell ⟨O, 14, none⟩ (.slice va' vn' vc')).heap[b]? = wA.heap[b]?) ∧
      GSt w ws O M g n t2 l (w7.setCell ⟨O, 14, none⟩ (.slice va' vn' vc')) (i + 1) va' vn' vc' := by
  obtain ⟨i0, hi, hz0, hz1, hz2⟩ := info_parts infoNode
  obtain ⟨⟨hO1, hO2, hM, hMr⟩, hbox, hf14, hnone, hob, ⟨R, hown, hRf, hRa⟩, hkeep, hxt⟩ := h
  have hil : i < l.length := (List.getElem?_eq_some_iff.1 hx).1
  have hBr : O < wr.heap.size := by omega
  have h6s := h6.sz
  have hxtA : Xt wr wA := by rw [← hwA]; exact h6.alloc _
  have hAs : wA.heap.size = w6.heap.size + 1 := by rw [← hwA]; simp
  have hRl : R.length = i := GSt.lenR hRf (by omega)
  have hownA : wA.ownsRow 0 37 15 (.slice va vn vc) i (R.flatMap rowC) :=
    World.ownsRow.kept hown (row := none) ⟨hxtA.os, hxtA.tape, hxtA.output, hxtA.size, fun k hk _ => hxtA.block k hk⟩ (by
      cases (Value.slice va vn vc).ownBlock with
      | none => exact Or.inl rfl
      | some q => exact Or.inr (by simp))
  have hnews : ∀ (j : Nat) (u : Value), (nodeC (g x) (.slice a' (g x).args.length c'))[j]? = some u → wA.cell? ((⟨w6.heap.size, 0, none⟩ : Addr).add j) = some u := by
    rw [← hwA]
    exact news_at w6 (nodeC (g x) (.slice a' (g x).args.length c')) 37 (b := w6.heap.size) rfl
  obtain ⟨v', w7, hpush, hown7, hg7, hwh⟩ := run_append_where (P := Tryd.prog) wA 35 35 37 i0 _ 15 128 Tryd.underlying35 hi hz0 hz1 hz2 rfl (by decide) (.slice va vn vc) i (R.flatMap rowC) hownA ⟨w6.heap.size, 0, none⟩ 1 1 (nodeC (g x) (.slice a' (g x).args.length c')) rfl hnews (nodeC_one _ _ rfl) (by unfold maxLen; omega) (by omega)
  obtain ⟨va', vc', rfl, hvc1, hvc2⟩ := ownsRow_base hown7
  have hobl : ∀ q, (Value.slice va vn vc).ownBlock = some q → q < wr.heap.size := fun q hq => (World.ownsRow.lt hown q hq).2
  have hob' : ∀ q, (Value.slice va' (i + 1) vc').ownBlock = some q → M ≤ q ∧ q < w7.heap.size := by
    intro q hq
    have hlt := (World.ownsRow.lt hown7 q hq).2
    rcases hwh with e | e
    · rw [e] at hq; exact ⟨hob q hq, hlt⟩
    · have := e q hq; exact ⟨by omega, hlt⟩
  have hx7 : Xt w w7 := (hxt.trans hxtA).grownB hg7 (fun m hm => by have := hob m hm; omega)
  have hn0 : (Value.slice va vn vc).ownBlock ≠ some O := fun e => by have := hob _ e; omega
  have k7h : ∀ b, b < wr.heap.size → (Value.slice va vn vc).ownBlock ≠ some b → w7.heap[b]? = wr.heap[b]? := fun b hb hne =>
    (hg7.block b (by omega) (fun e => hne e.symm)).trans (hxtA.block b hb)
  have k7 : ∀ b o, b < wr.heap.size → (Value.slice va vn vc).ownBlock ≠ some b → w7.cell? ⟨b, o, none⟩ = wr.cell? ⟨b, o, none⟩ := fun b o hb hne =>
    World.cell?_of_block (w := wr) (a := ⟨b, o, none⟩) (k7h b hb hne)
  have hc14 := (k7 O 14 hBr hn0).trans hbox.c14
  have hcell : ∀ o v, o ≠ 14 → wr.cell? ⟨O, o, none⟩ = some v → (w7.setCell ⟨O, 14, none⟩ (.slice va' (i + 1) vc')).cell? ⟨O, o, none⟩ = some v := fun o v ho hv =>
    (World.cell?_setCell_other w7 _ _ _ (by intro e; cases e; exact ho rfl)).trans ((k7 _ o hBr hn0).trans hv)
  have hf7 : w7.frozen? ⟨O, 14, none⟩ = false :=
    (World.frozen?_of_block (w := wr) (a := ⟨O, 14, none⟩) (k7h _ hBr hn0)).trans hf14
  have k8 : ∀ b, b < wr.heap.size → b ≠ O → (Value.slice va vn vc).ownBlock ≠ some b → (w7.setCell ⟨O, 14, none⟩ (.slice va' (i + 1) vc')).heap[b]? = wr.heap[b]? := fun b hb hne hob =>
    (Below.heap_setCell _ _ _ _ hne).trans (k7h b hb hob)
  have hsz7 : M ≤ w7.heap.size := by have := hg7.size; omega
  refine ⟨va', i + 1, vc', w7, hpush, ⟨((h6.cells).1 _ _ hBr).trans hbox.c14, ((hxtA.cells).1 _ _ hBr).trans hbox.c14, hc14⟩, hf7, fun b hb hor => ?_, fun b hb hl => ?_, ⟨⟨hO1, hO2, hM, by simpa using hsz7⟩, ?_, ?_, fun e => by omega, fun q hq => (hob' q hq).1, ?_, fun b hb hne => (k8 b (by omega) hne (fun e => by have := hob b e; omega)).trans (hkeep b hb hne), hx7.grownB (setCell_grown _ _ _ _) (fun m hm => by cases hm; exact hO1)⟩⟩
  · have hbM : b < M := by rcases hor with h | h <;> omega
    have hbO : b ≠ O := by rcases hor with h | h <;> omega
    exact ⟨h6.block b hb, hxtA.block b hb, k7h b hb (fun e => by have := hob b e; omega), k8 b hb hbO (fun e => by have := hob b e; omega)⟩
  · have e7 : w7.heap[b]? = wA.heap[b]? := hg7.block b hl (fun e => by have := hobl b e.symm; omega)
    exact ⟨e7, (Below.heap_setCell _ _ _ _ (by show b ≠ O; omega)).trans e7⟩
  · refine ⟨?_, ?_, ?_, ?_, ?_, ?_, ?_, ?_, ?_, ?_, ?_, ?_, ?_, ?_, ?_⟩
    · exact hcell _ _ (by omega) hbox.c0
    · exact hcell _ _ (by omega) hbox.c1
    · exact hcell _ _ (by omega) hbox.c2
    · exact hcell _ _ (by omega) hbox.c3
    · exact hcell _ _ (by omega) hbox.c4
    · exact hcell _ _ (by omega) hbox.c5
    · exact hcell _ _ (by omega) hbox.c6
    · exact hcell _ _ (by omega) hbox.c7
    · exact hcell _ _ (by omega) hbox.c8
    · exact hcell _ _ (by omega) hbox.c9
    · exact hcell _ _ (by omega) hbox.c10
    · exact hcell _ _ (by omega) hbox.c11
    · exact hcell _ _ (by omega) hbox.c12
    · exact hcell _ _ (by omega) hbox.c13
    · rw [Nat.zero_add]; exact World.cell?_setCell_same' w7 _ _ (by rw [hc14]; rfl)
  · simp [hf7]
  · have e7 : (R ++ [(g x, Value.slice a' (g x).args.length c')]).flatMap rowC = R.flatMap rowC ++ nodeC (g x) (.slice a' (g x).args.length c') := by simp [rowC]
    refine ⟨R ++ [(g x, .slice a' (g x).args.length c')], ?_, ?_, ?_⟩
    · rw [e7]
      exact ownsRow_setCell_other hown7 (a := ⟨O, 14, none⟩) (fun e => by have := (hob' _ e).1; simp at this; omega) _
    · rw [List.map_append, hRf, List.take_add_one, hx]; simp
    · intro k r hk
      have hobn : ∀ b, b < w6.heap.size → (Value.slice va vn vc).ownBlock ≠ some b → (Value.slice va' (i + 1) vc').ownBlock ≠ some b := by
        intro b hb hne e
        rcases hwh with e' | e'
        · rw [e'] at e; exact hne e
        · have := e' b e; omega
      by_cases hkl : k < R.length
      · rw [List.getElem?_append_left hkl] at hk
        obtain ⟨n1, hn1', hAk⟩ := hRa k r hk
        exact ⟨n1, hn1', hAk.keep (fun b hb hlt => ⟨hb.1, hobn b (by omega) hb.2⟩) (fun b hb hlt => k8 b hlt (by omega) hb.2)⟩
      · rw [List.getElem?_append_right (by omega)] at hk
        have hk0 : k - R.length = 0 := by
          rcases Nat.eq_zero_or_pos (k - R.length) with e | e
          · exact e
          · rw [List.getElem?_eq_none (by simp; omega)] at hk; cases hk
        rw [hk0] at hk
        simp only [List.getElem?_cons_zero, Option.some.injEq] at hk
        subst hk
        refine ⟨n', hn, ?_⟩
        refine hA.keep (fun b hb hlt => ⟨by omega, hobn b hlt (fun e => by have := hobl b e; omega)⟩) (fun b hb hlt => ?_)
        refine (Below.heap_setCell _ _ _ _ (by show b ≠ O; omega)).trans ((hg7.block b (by omega) (fun e => by have := hobl b e.symm; omega)).trans ?_)
        rw [← hwA]
        exact Below.heap_alloc w6 _ b hlt
/-- All are pushed. -/
theorem grow_end {w ws wr w' : World} {O M n : Nat} {g : NodeT → NodeT} {t2 : NodeT} {l : List NodeT} {va : Option Addr} {vn vc : Nat} (h : GSt w ws O M g n t2 l wr l.length va vn vc) (hk : ∀ b, M ≤ b → b < wr.heap.size → w'.heap[b]? = wr.heap[b]?) :
    vn = l.length ∧ l.length ≤ vc ∧ vc ≤ 9223372036854775807 ∧ ∀ c, c = vc ∨ c = l.length → OwnIn (fun b => M ≤ b) w' n (.slice va l.length c) (l.map g) := by
  obtain ⟨_, _, _, hnone, hob, ⟨R, hown, hRf, hRa⟩, _⟩ := h
  obtain ⟨a2, c2, e, h1, h2⟩ := ownsRow_base hown
  cases e
  refine ⟨rfl, h1, h2, fun c hc => ?_⟩
  rw [List.take_length] at hRf
  have hRl : R.length = l.length := by have := congrArg List.length hRf; simpa using this
  have hcl : (l.map g).length = l.length := by simp
  have hcv : l.length ≤ c ∧ c ≤ vc := by rcases hc with e | e <;> omega
  cases n with
  | zero =>
    cases R with
    | nil =>
      have : l = [] := List.eq_nil_of_length_eq_zero (by rw [← hRl]; rfl)
      subst this
      have hv := hnone rfl
      have hc0 : c = 0 := by omega
      subst hc0
      exact ⟨rfl, va, rfl⟩
    | cons r R => obtain ⟨n', hn, _⟩ := hRa 0 r rfl; cases hn
  | succ n =>
    refine ⟨va, c, by rw [hcl], by rw [hcl]; omega, by omega, fun hpos => ?_⟩
    rcases hown.2 with ⟨e0, h0⟩ | ⟨q, cap, cur, e, _, hgc, _, _, hgs, _⟩
    · simp only [Value.slice.injEq] at e0; omega
    · cases e
      have hg2 := hob q rfl
      have hgl := (World.ownsRow.lt hown q rfl).2
      refine ⟨q, cur, vc, rfl, hg2, (hk q hg2 hgl).trans hgc, hgs, hcv.2, fun k t ht => ?_⟩
      rw [← hRf, List.getElem?_map] at ht
      obtain ⟨r, hr, rfl⟩ := Option.map_eq_some_iff.1 ht
      obtain ⟨n', hn', hA⟩ := hRa k r hr
      cases hn'
      refine ⟨r.2, fun i u hu => ?_, hA.keep (fun b hb hlt => hb.1) (fun b hb hlt => hk b hb.1 hlt)⟩
      have hi : i < 15 := (List.getElem?_eq_some_iff.1 hu).1
      have hf := rflat_at rowC 15 rowC_len R k i r hr hi
      have := World.ownsRow.cells hown (g := q) rfl (k * 15 + i) u (hf.trans hu)
      rw [World.cell?_of_block (w := wr) (a := ⟨q, k * 15 + i, none⟩) (hk q hg2 hgl)]
      rw [← this, Addr.add_lit, Nat.zero_add]
end Go.Proofs.YtakcadkffmfneaaDoor
/- Lists of one's own whose parts have nothing in common. -/
namespace Go.Proofs.YtakcadkffmfneaaDoor
open Go.RowKit Go.Sort

/-- A list of one's own, so deep, whose parts lie apart: from one another, and from the list's own row. -/
def SepIn (S : Nat → Prop) (w : World) : Nat → Value → List NodeT → Prop
  | 0, av, l => l = [] ∧ ∃ a, av = .slice a 0 0
  | n + 1, av, l => ∃ a cap, av = .slice a l.length cap ∧ l.length ≤ cap ∧ cap ≤ 9223372036854775807 ∧ (0 < cap → ∃ b cur K, ∃ T : Nat → Nat → Prop, a = some ⟨b, 0, none⟩ ∧ S b ∧ w.heap[b]? = some (.cells cur 37 (0, 0)) ∧ cur.size = K * 15 ∧ cap ≤ K ∧
      (∀ k c, T k c → S c ∧ c ≠ b) ∧ (∀ k k' c, k ≠ k' → T k c → ¬ T k' c) ∧
      ∀ k t, l[k]? = some t → ∃ av', (∀ i u, (nodeC t av')[i]? = some u → w.cell? ⟨b, k * 15 + i, none⟩ = some u) ∧ SepIn (T k) w n av' t.args)
theorem SepIn.own {w : World} : ∀ {S : Nat → Prop} {n : Nat} {av : Value} {l : List NodeT}, SepIn S w n av l → OwnIn S w n av l
  | _, 0, _, _, h => h
  | S, n + 1, _, _, h => by
    obtain ⟨a, cap, rfl, h1, h2, h3⟩ := h
    refine ⟨a, cap, rfl, h1, h2, fun hpos => ?_⟩
    obtain ⟨b, cur, K, T, rfl, hb, hr, hK, hcK, hT, _, hc⟩ := h3 hpos
    exact ⟨b, cur, K, rfl, hb, hr, hK, hcK, fun k t ht => let ⟨av', q1, q2⟩ := hc k t ht; ⟨av', q1, q2.own.keep (fun c hc _ => (hT k c hc).1) (fun _ _ _ => rfl)⟩⟩
theorem SepIn.keep {w w' : World} : ∀ {S : Nat → Prop} {n : Nat} {av : Value} {l : List NodeT}, (∀ b, S b → b < w.heap.size → w'.heap[b]? = w.heap[b]?) → SepIn S w n av l → SepIn S w' n av l
  | _, 0, _, _, _, h => h
  | S, n + 1, _, _, hk, h => by
    obtain ⟨a, cap, rfl, h1, h2, h3⟩ := h
    refine ⟨a, cap, rfl, h1, h2, fun hpos => ?_⟩
    obtain ⟨b, cur, K, T, rfl, hb, hr, hK, hcK, hT, hD, hc⟩ := h3 hpos
    have hlt : b < w.heap.size := (Array.getElem?_eq_some_iff.1 hr).1
    exact ⟨b, cur, K, T, rfl, hb, (hk b hb hlt).trans hr, hK, hcK, hT, hD, fun k t ht => let ⟨av', q1, q2⟩ := hc k t ht; ⟨av', fun i u hu => (World.cell?_of_block (w := w) (a := ⟨b, k * 15 + i, none⟩) (hk b hb hlt)).trans (q1 i u hu), q2.keep (fun c hc => hk c (hT k c hc).1)⟩⟩
theorem SepIn.weak {w : World} {S S' : Nat → Prop} (hS : ∀ b, S b → b < w.heap.size → S' b) : ∀ {n : Nat} {av : Value} {l : List NodeT}, SepIn S w n av l → SepIn (fun b => S' b) w n av l
  | 0, _, _, h => h
  | n + 1, _, _, h => by
    obtain ⟨a, cap, rfl, h1, h2, h3⟩ := h
    refine ⟨a, cap, rfl, h1, h2, fun hpos => ?_⟩
    obtain ⟨b, cur, K, T, rfl, hb, hr, hK, hcK, hT, hD, hc⟩ := h3 hpos
    have hlt : b < w.heap.size := (Array.getElem?_eq_some_iff.1 hr).1
    exact ⟨b, cur, K, fun k c => T k c ∧ c < w.heap.size, rfl, hS b hb hlt, hr, hK, hcK, fun k c h => ⟨hS c (hT k c h.1).1 h.2, (hT k c h.1).2⟩, fun k k' c hne h h' => hD k k' c hne h.1 h'.1, fun k t ht => let ⟨av', q1, q2⟩ := hc k t ht; ⟨av', q1, SepIn.weak (S := T k) (S' := fun c => T k c ∧ c < w.heap.size) (fun c h hl => ⟨h, hl⟩) q2⟩⟩
/-- The rows that a round has laid. -/
structure SRows (wr : World) (M : Nat) (g : NodeT → NodeT) (n : Nat) (ob : Option Nat) (l : List NodeT) (R : List (NodeT × Value)) : Prop where
  fst : R.map Prod.fst = l.map g
  args : ∃ lo hi : Nat → Nat, (∀ (k : Nat) (r : NodeT × Value), R[k]? = some r → ∃ n', n = n' + 1 ∧ SepIn (fun b => lo k ≤ b ∧ b < hi k) wr n' r.2 r.1.args) ∧ (∀ k, k < R.length → M ≤ lo k ∧ hi k ≤ wr.heap.size ∧ ∀ q, ob = some q → ¬ (lo k ≤ q ∧ q < hi k)) ∧ (∀ k k', k < k' → k' < R.length → hi k ≤ lo k')
/-- O the block of the node whose args grow; what they lie in begins at M. -/
structure SSt (w ws : World) (O M : Nat) (g : NodeT → NodeT) (n : Nat) (t2 : NodeT) (l : List NodeT) (wr : World) (i : Nat) (va : Option Addr) (vn vc : Nat) : Prop where
  lo : w.heap.size ≤ O ∧ O < M ∧ M = ws.heap.size ∧ M ≤ wr.heap.size
  box : NodeAt wr O 0 t2 va vn vc
  f14 : wr.frozen? ⟨O, 14, none⟩ = false
  none : i = 0 → vc = 0
  ob : ∀ q, (Value.slice va vn vc).ownBlock = some q → M ≤ q
  rows : ∃ R, wr.ownsRow 0 37 15 (.slice va vn vc) i (R.flatMap rowC) ∧ SRows wr M g n (Value.slice va vn vc).ownBlock (l.take i) R
  keep : ∀ b, b < M → b ≠ O → wr.heap[b]? = ws.heap[b]?
  xt : Xt w wr
theorem sep_start {w ws : World} {O : Nat} (g : NodeT → NodeT) (n : Nat) {t2 : NodeT} (l : List NodeT) (h1 : w.heap.size ≤ O) (h2 : O < ws.heap.size) (hb : NodeAt ws O 0 t2 none 0 0) (hf : ws.frozen? ⟨O, 14, none⟩ = false) (hx : Xt w ws) :
    SSt w ws O ws.heap.size g n t2 l ws 0 none 0 0 :=
  ⟨⟨h1, h2, rfl, Nat.le_refl _⟩, hb, hf, fun _ => rfl, fun q hq => (by cases hq), ⟨[], World.ownsRow_nil _ _ _ _, rfl, fun _ => 0, fun _ => 0, fun k r hk => (by simp at hk), fun k hk => (by simp at hk), fun k k' _ hk => (by simp at hk)⟩, fun _ _ _ => rfl, hx⟩
theorem SSt.lenR {R : List (NodeT × Value)} {g : NodeT → NodeT} {l : List NodeT} {i : Nat} (h : R.map Prod.fst = (l.take i).map g) (hi : i ≤ l.length) : R.length = i := by
  have := congrArg List.length h
  simp at this; omega
/-- The child's box is pushed. -/
theorem sep_push {w ws wr w6 : World} {O M n n' i : Nat} {g : NodeT → NodeT} {t2 x : NodeT} {l : List NodeT} {va a' : Option Addr} {vn vc c' : Nat} (hn : n = n' + 1) (h : SSt w ws O M g n t2 l wr i va vn vc) (hx : l[i]? = some x) (hl : l.length ≤ 1099511627000) (h6 : Xt wr w6)
    (hA : SepIn (fun b => wr.heap.size ≤ b ∧ b < w6.heap.size) w6 n' (.slice a' (g x).args.length c') (g x).args) (wA : World)
    (hwA : w6.alloc (.cells #[.int .i64 (g x).kind, .int .i64 (g x).op, .float .f64 (g x).x, .string (g x).s, .bool (g x).b, .int .i64 (g x).f, .int .i64 (g x).ref.a.1, .int .i64 (g x).ref.a.2, .bool (g x).ref.cf, .bool (g x).ref.rf, .int .i64 (g x).to.a.1, .int .i64 (g x).to.a.2, .bool (g x).to.cf, .bool (g x).to.rf, .slice a' (g x).args.length c'] 37) = wA) :
    ∃ va' vn' vc' w7, (Builtin.append_ #[35, 35] 35 #[.slice va vn vc, .slice (some ⟨w6.heap.size, 0, none⟩) 1 1]).run Tryd.prog wA = .ok (.slice va' vn' vc') w7 ∧ (w6.cell? ⟨O, 14, none⟩ = some (.slice va vn vc) ∧ wA.cell? ⟨O, 14, none⟩ = some (.slice va vn vc) ∧ w7.cell? ⟨O, 14, none⟩ = some (.slice va vn vc)) ∧ w7.frozen? ⟨O, 14, none⟩ = false ∧
      (∀ b, b < wr.heap.size → (b < M ∧ b ≠ O ∨ b < w.heap.size) → w6.heap[b]? = wr.heap[b]? ∧ wA.heap[b]? = wr.heap[b]? ∧ w7.heap[b]? = wr.heap[b]? ∧ (w7.setCell ⟨O, 14, none⟩ (.slice va' vn' vc')).heap[b]? = wr.heap[b]?) ∧
      (∀ b, wr.heap.size ≤ b → b < wA.heap.size → w7.heap[b]? = wA.heap[b]? ∧ (w7.setCell ⟨O, 14, none⟩ (.slice va' vn' vc')).heap[b]? = wA.heap[b]?) ∧
      SSt w ws O M g n t2 l (w7.setCell ⟨O, 14, none⟩ (.slice va' vn' vc')) (i + 1) va' vn' vc' := by
  obtain ⟨i0, hi, hz0, hz1, hz2⟩ := info_parts infoNode
  obtain ⟨⟨hO1, hO2, hM, hMr⟩, hbox, hf14, hnone, hob, ⟨R, hown, hRf, lo, hi', hRa, hRb, hRc⟩, hkeep, hxt⟩ := h
  have hil : i < l.length := (List.getElem?_eq_some_iff.1 hx).1
  have hBr : O < wr.heap.size := by omega
  have h6s := h6.sz
  have hxtA : Xt wr wA := by rw [← hwA]; exact h6.alloc _
  have hAs : wA.heap.size = w6.heap.size + 1 := by rw [← hwA]; simp
  have hRl : R.length = i := SSt.lenR hRf (by omega)
  have hownA : wA.ownsRow 0 37 15 (.slice va vn vc) i (R.flatMap rowC) :=
    World.ownsRow.kept hown (row := none) ⟨hxtA.os, hxtA.tape, hxtA.output, hxtA.size, fun k hk _ => hxtA.block k hk⟩ (by
      cases (Value.slice va vn vc).ownBlock with
      | none => exact Or.inl rfl
      | some q => exact Or.inr (by simp))
  have hnews : ∀ (j : Nat) (u : Value), (nodeC (g x) (.slice a' (g x).args.length c'))[j]? = some u → wA.cell? ((⟨w6.heap.size, 0, none⟩ : Addr).add j) = some u := by
    rw [← hwA]
    exact news_at w6 (nodeC (g x) (.slice a' (g x).args.length c')) 37 (b := w6.heap.size) rfl
  obtain ⟨v', w7, hpush, hown7, hg7, hwh⟩ := run_append_where (P := Tryd.prog) wA 35 35 37 i0 _ 15 128 Tryd.underlying35 hi hz0 hz1 hz2 rfl (by decide) (.slice va vn vc) i (R.flatMap rowC) hownA ⟨w6.heap.size, 0, none⟩ 1 1 (nodeC (g x) (.slice a' (g x).args.length c')) rfl hnews (nodeC_one _ _ rfl) (by unfold maxLen; omega) (by omega)
  obtain ⟨va', vc', rfl, hvc1, hvc2⟩ := ownsRow_base hown7
  have hobl : ∀ q, (Value.slice va vn vc).ownBlock = some q → q < wr.heap.size := fun q hq => (World.ownsRow.lt hown q hq).2
  have hob' : ∀ q, (Value.slice va' (i + 1) vc').ownBlock = some q → M ≤ q ∧ q < w7.heap.size := by
    intro q hq
    have hlt := (World.ownsRow.lt hown7 q hq).2
    rcases hwh with e | e
    · rw [e] at hq; exact ⟨hob q hq, hlt⟩
    · have := e q hq; exact ⟨by omega, hlt⟩
  have hx7 : Xt w w7 := (hxt.trans hxtA).grownB hg7 (fun m hm => by have := hob m hm; omega)
  have hn0 : (Value.slice va vn vc).ownBlock ≠ some O := fun e => by have := hob _ e; omega
  have k7h : ∀ b, b < wr.heap.size → (Value.slice va vn vc).ownBlock ≠ some b → w7.heap[b]? = wr.heap[b]? := fun b hb hne =>
    (hg7.block b (by omega) (fun e => hne e.symm)).trans (hxtA.block b hb)
  have k7 : ∀ b o, b < wr.heap.size → (Value.slice va vn vc).ownBlock ≠ some b → w7.cell? ⟨b, o, none⟩ = wr.cell? ⟨b, o, none⟩ := fun b o hb hne =>
    World.cell?_of_block (w := wr) (a := ⟨b, o, none⟩) (k7h b hb hne)
  have hc14 := (k7 O 14 hBr hn0).trans hbox.c14
  have hcell : ∀ o v, o ≠ 14 → wr.cell? ⟨O, o, none⟩ = some v → (w7.setCell ⟨O, 14, none⟩ (.slice va' (i + 1) vc')).cell? ⟨O, o, none⟩ = some v := fun o v ho hv =>
    (World.cell?_setCell_other w7 _ _ _ (by intro e; cases e; exact ho rfl)).trans ((k7 _ o hBr hn0).trans hv)
  have hf7 : w7.frozen? ⟨O, 14, none⟩ = false :=
    (World.frozen?_of_block (w := wr) (a := ⟨O, 14, none⟩) (k7h _ hBr hn0)).trans hf14
  have k8 : ∀ b, b < wr.heap.size → b ≠ O → (Value.slice va vn vc).ownBlock ≠ some b → (w7.setCell ⟨O, 14, none⟩ (.slice va' (i + 1) vc')).heap[b]? = wr.heap[b]? := fun b hb hne hob =>
    (Below.heap_setCell _ _ _ _ hne).trans (k7h b hb hob)
  have hsz7 : M ≤ w7.heap.size := by have := hg7.size; omega
  refine ⟨va', i + 1, vc', w7, hpush, ⟨((h6.cells).1 _ _ hBr).trans hbox.c14, ((hxtA.cells).1 _ _ hBr).trans hbox.c14, hc14⟩, hf7, fun b hb hor => ?_, fun b hb hl => ?_, ⟨⟨hO1, hO2, hM, by simpa using hsz7⟩, ?_, ?_, fun e => by omega, fun q hq => (hob' q hq).1, ?_, fun b hb hne => (k8 b (by omega) hne (fun e => by have := hob b e; omega)).trans (hkeep b hb hne), hx7.grownB (setCell_grown _ _ _ _) (fun m hm => by cases hm; exact hO1)⟩⟩
  · have hbM : b < M := by rcases hor with h | h <;> omega
    have hbO : b ≠ O := by rcases hor with h | h <;> omega
    exact ⟨h6.block b hb, hxtA.block b hb, k7h b hb (fun e => by have := hob b e; omega), k8 b hb hbO (fun e => by have := hob b e; omega)⟩
  · have e7 : w7.heap[b]? = wA.heap[b]? := hg7.block b hl (fun e => by have := hobl b e.symm; omega)
    exact ⟨e7, (Below.heap_setCell _ _ _ _ (by show b ≠ O; omega)).trans e7⟩
  · refine ⟨?_, ?_, ?_, ?_, ?_, ?_, ?_, ?_, ?_, ?_, ?_, ?_, ?_, ?_, ?_⟩
    · exact hcell _ _ (by omega) hbox.c0
    · exact hcell _ _ (by omega) hbox.c1
    · exact hcell _ _ (by omega) hbox.c2
    · exact hcell _ _ (by omega) hbox.c3
    · exact hcell _ _ (by omega) hbox.c4
    · exact hcell _ _ (by omega) hbox.c5
    · exact hcell _ _ (by omega) hbox.c6
    · exact hcell _ _ (by omega) hbox.c7
    · exact hcell _ _ (by omega) hbox.c8
    · exact hcell _ _ (by omega) hbox.c9
    · exact hcell _ _ (by omega) hbox.c10
    · exact hcell _ _ (by omega) hbox.c11
    · exact hcell _ _ (by omega) hbox.c12
    · exact hcell _ _ (by omega) hbox.c13
    · rw [Nat.zero_add]; exact World.cell?_setCell_same' w7 _ _ (by rw [hc14]; rfl)
  · simp [hf7]
  · have e7 : (R ++ [(g x, Value.slice a' (g x).args.length c')]).flatMap rowC = R.flatMap rowC ++ nodeC (g x) (.slice a' (g x).args.length c') := by simp [rowC]
    have hobn : ∀ b, b < w6.heap.size → (Value.slice va vn vc).ownBlock ≠ some b → (Value.slice va' (i + 1) vc').ownBlock ≠ some b := by
      intro b hb hne e
      rcases hwh with e' | e'
      · rw [e'] at e; exact hne e
      · have := e' b e; omega
    refine ⟨R ++ [(g x, .slice a' (g x).args.length c')], ?_, ?_, fun k => if k < i then lo k else wr.heap.size, fun k => if k < i then hi' k else w6.heap.size, ?_, ?_, ?_⟩
    · rw [e7]
      exact ownsRow_setCell_other hown7 (a := ⟨O, 14, none⟩) (fun e => by have := (hob' _ e).1; simp at this; omega) _
    · rw [List.map_append, hRf, List.take_add_one, hx]; simp
    · intro k r hk
      by_cases hkl : k < R.length
      · rw [List.getElem?_append_left hkl] at hk
        obtain ⟨n1, hn1', hAk⟩ := hRa k r hk
        obtain ⟨b1, b2, b3⟩ := hRb k hkl
        have hki : k < i := by omega
        simp only [hki, if_true]
        exact ⟨n1, hn1', hAk.keep (fun b hb hlt => k8 b hlt (by omega) (fun e => b3 b e hb))⟩
      · rw [List.getElem?_append_right (by omega)] at hk
        have hk0 : k - R.length = 0 := by
          rcases Nat.eq_zero_or_pos (k - R.length) with e | e
          · exact e
          · rw [List.getElem?_eq_none (by simp; omega)] at hk; cases hk
        rw [hk0] at hk
        simp only [List.getElem?_cons_zero, Option.some.injEq] at hk
        subst hk
        have hki : ¬ k < i := by omega
        simp only [hki, if_false]
        refine ⟨n', hn, hA.keep (fun b hb hlt => ?_)⟩
        refine (Below.heap_setCell _ _ _ _ (by show b ≠ O; omega)).trans ((hg7.block b (by omega) (fun e => by have := hobl b e.symm; omega)).trans ?_)
        rw [← hwA]
        exact Below.heap_alloc w6 _ b hlt
    · intro k hk
      have hsz8 : (w7.setCell ⟨O, 14, none⟩ (.slice va' (i + 1) vc')).heap.size = w7.heap.size := by simp
      have hs7 := hg7.size
      by_cases hki : k < i
      · obtain ⟨b1, b2, b3⟩ := hRb k (by omega)
        simp only [hki, if_true]
        refine ⟨b1, by omega, fun q hq hb => ?_⟩
        rcases hwh with e' | e'
        · rw [e'] at hq; exact b3 q hq hb
        · have := e' q hq; omega
      · simp only [hki, if_false]
        refine ⟨hMr, by omega, fun q hq hb => ?_⟩
        rcases hwh with e' | e'
        · rw [e'] at hq; have := hobl q hq; omega
        · have := e' q hq; omega
    · intro k k' hkk hk'
      simp only [List.length_append, List.length_cons, List.length_nil] at hk'
      by_cases hki' : k' < i
      · have hki : k < i := by omega
        simp only [hki, hki', if_true]
        exact hRc k k' hkk (by omega)
      · have hki : k < i := by omega
        obtain ⟨b1, b2, b3⟩ := hRb k (by omega)
        simp only [hki, hki', if_true, if_false]
        exact b2
/-- All are pushed. -/
theorem sep_end {w ws wr w' : World} {O M n : Nat} {g : NodeT → NodeT} {t2 : NodeT} {l : List NodeT} {va : Option Addr} {vn vc : Nat} (h : SSt w ws O M g n t2 l wr l.length va vn vc) (hk : ∀ b, M ≤ b → b < wr.heap.size → w'.heap[b]? = wr.heap[b]?) :
    vn = l.length ∧ l.length ≤ vc ∧ vc ≤ 9223372036854775807 ∧ ∀ c, c = vc ∨ c = l.length → SepIn (fun b => M ≤ b ∧ b < wr.heap.size) w' n (.slice va l.length c) (l.map g) := by
  obtain ⟨_, _, _, hnone, hob, ⟨R, hown, hRf, lo, hi', hRa, hRb, hRc⟩, _⟩ := h
  obtain ⟨a2, c2, e, h1, h2⟩ := ownsRow_base hown
  cases e
  refine ⟨rfl, h1, h2, fun c hc => ?_⟩
  rw [List.take_length] at hRf
  have hRl : R.length = l.length := by have := congrArg List.length hRf; simpa using this
  have hcl : (l.map g).length = l.length := by simp
  have hcv : l.length ≤ c ∧ c ≤ vc := by rcases hc with e | e <;> omega
  cases n with
  | zero =>
    cases R with
    | nil =>
      have : l = [] := List.eq_nil_of_length_eq_zero (by rw [← hRl]; rfl)
      subst this
      have hv := hnone rfl
      have hc0 : c = 0 := by omega
      subst hc0
      exact ⟨rfl, va, rfl⟩
    | cons r R => obtain ⟨n', hn, _⟩ := hRa 0 r rfl; cases hn
  | succ n =>
    refine ⟨va, c, by rw [hcl], by rw [hcl]; omega, by omega, fun hpos => ?_⟩
    rcases hown.2 with ⟨e0, h0⟩ | ⟨q, cap, cur, e, _, hgc, _, _, hgs, _⟩
    · simp only [Value.slice.injEq] at e0; omega
    · cases e
      have hg2 := hob q rfl
      have hgl := (World.ownsRow.lt hown q rfl).2
      refine ⟨q, cur, vc, fun k c => k < R.length ∧ lo k ≤ c ∧ c < hi' k, rfl, ⟨hg2, hgl⟩, (hk q hg2 hgl).trans hgc, hgs, hcv.2, fun k c hc => ?_, fun k k' c hne h h' => ?_, fun k t ht => ?_⟩
      · obtain ⟨b1, b2, b3⟩ := hRb k hc.1
        exact ⟨⟨by omega, by omega⟩, fun e => b3 q rfl (by subst e; exact hc.2)⟩
      · rcases Nat.lt_or_gt_of_ne hne with e | e
        · have := hRc k k' e h'.1; omega
        · have := hRc k' k e h.1; omega
      rw [← hRf, List.getElem?_map] at ht
      obtain ⟨r, hr, rfl⟩ := Option.map_eq_some_iff.1 ht
      obtain ⟨n', hn', hA⟩ := hRa k r hr
      cases hn'
      refine ⟨r.2, fun i u hu => ?_, ((hA.keep (w' := w') (fun b hb hlt => hk b (by have := (hRb k (List.getElem?_eq_some_iff.1 hr).1).1; omega) hlt)).weak (fun b hb _ => ⟨(List.getElem?_eq_some_iff.1 hr).1, hb.1, hb.2⟩))⟩
      have hi : i < 15 := (List.getElem?_eq_some_iff.1 hu).1
      have hf := rflat_at rowC 15 rowC_len R k i r hr hi
      have := World.ownsRow.cells hown (g := q) rfl (k * 15 + i) u (hf.trans hu)
      rw [World.cell?_of_block (w := wr) (a := ⟨q, k * 15 + i, none⟩) (hk q hg2 hgl)]
      rw [← this, Addr.add_lit, Nat.zero_add]
end Go.Proofs.YtakcadkffmfneaaDoor
