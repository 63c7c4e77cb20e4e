import Derived.Test.YtideclfpbpjebaaGreatDoorB1
import Derived.Deep.RegionHeld
import Derived.MapKept
import Derived.Shelf.SlSortCmp.WholeK
import Derived.Sort.LotA
namespace Go.Proofs.YtideclfpbpjebaaGreatDoor
section
open Go.RowKit Go.Sort

/-! ### formula.Copy: what a round leaves -/
abbrev copyV (t : NodeT) (a : Option Addr) (n cap : Nat) : Value := .agg #[.int .i64 t.kind, .int .i64 t.op, .float .f64 (oneX t.x), .string t.s, .bool t.b, .int .i64 t.f, .int .i64 t.ref.a.1, .int .i64 t.ref.a.2, .bool t.ref.cf, .bool t.ref.rf, .int .i64 t.to.a.1, .int .i64 t.to.a.2, .bool t.to.cf, .bool t.to.rf, .slice a n cap]
/-- The rows that a round has laid. -/
structure CopyRows (wr : World) (S : Nat) (n : Nat) (ob : Option Nat) (l : List NodeT) (R : List (NodeT × Value)) : Prop where
  fst : R.map Prod.fst = copyL l
  args : ∀ (k : Nat) (r : NodeT × Value), R[k]? = some r → ∃ n', n = n' + 1 ∧ ArgsS (fun b => S ≤ b ∧ ob ≠ some b) wr n' r.2 r.1.args
/-- Copy's state: B its box, B + 1 the cell of its result. -/
structure CopySt (w : World) (n : Nat) (t2 : NodeT) (l : List NodeT) (wr : World) (i : Nat) (va : Option Addr) (vn vc : Nat) : Prop where
  box : NodeAt wr w.heap.size 0 t2 va vn vc
  f14 : wr.frozen? ⟨w.heap.size, 14, none⟩ = false
  res : ∃ cs, wr.heap[w.heap.size + 1]? = some (.cells cs 44 (0, 0)) ∧ cs.size = 15
  ob : ∀ g, (Value.slice va vn vc).ownBlock = some g → w.heap.size + 2 ≤ g
  rows : ∃ R, wr.ownsRow 0 44 15 (.slice va vn vc) i (R.flatMap rowC) ∧ CopyRows wr (w.heap.size + 2) n (Value.slice va vn vc).ownBlock (l.take i) R
  xt : Xt w wr
theorem infoNode : (Tryz.prog.info? 44).map (fun i => (i.zero, i.size, i.bytes)) = some (some (.agg #[.int .i64 0, .int .i64 0, .float .f64 0, .string ⟨#[]⟩, .bool false, .int .i64 0, .int .i64 0, .int .i64 0, .bool false, .bool false, .int .i64 0, .int .i64 0, .bool false, .bool false, .slice none 0 0]), 15, 128) := by kernel_rfl
theorem Xt.grownB {a b c : World} {r : Option Nat} (h : Xt a b) (k : b.grownBy c r) (hm : ∀ m, r = some m → a.heap.size ≤ m) : Xt a c := Below.grown h k h.size hm
theorem setCell_grown (w : World) (g o : Nat) (v : Value) : w.grownBy (w.setCell ⟨g, o, none⟩ v) (some g) := ⟨rfl, rfl, rfl, by simp, fun k _ hk => Below.heap_setCell _ _ _ _ (fun e => hk (by rw [e]))⟩
theorem nodeC_one (t : NodeT) (v : Value) (hv : v.oneCell' = true) : ∀ u ∈ nodeC t v, u.oneCell' = true := by
  intro u hu
  simp only [nodeC, List.mem_cons, List.not_mem_nil, or_false] at hu
  rcases hu with h | h | h | h | h | h | h | h | h | h | h | h | h | h | h <;> subst h <;> first | rfl | exact hv
theorem ownsRow_base {w : World} {e : TypeId} {size : Nat} {v : Value} {n : Nat} {xs : List Value} (h : w.ownsRow 0 e size v n xs) : ∃ a c, v = .slice a n c ∧ n ≤ c ∧ c ≤ 9223372036854775807 := by
  rcases h.2 with ⟨rfl, rfl⟩ | ⟨g, cap, cur, rfl, _, _, h1, h2, _⟩
  · exact ⟨_, _, rfl, Nat.le_refl _, by omega⟩
  · exact ⟨_, _, rfl, h1, by simp only [maxLen] at h2; omega⟩
theorem NodeAt.keep {w w' : World} {b o : Nat} {t : NodeT} {a : Option Addr} {n cap : Nat} (h : NodeAt w b o t a n cap) (e : ∀ o, w'.cell? ⟨b, o, none⟩ = w.cell? ⟨b, o, none⟩) : NodeAt w' b o t a n cap :=
  ⟨(e _).trans h.c0, (e _).trans h.c1, (e _).trans h.c2, (e _).trans h.c3, (e _).trans h.c4, (e _).trans h.c5, (e _).trans h.c6, (e _).trans h.c7, (e _).trans h.c8, (e _).trans h.c9, (e _).trans h.c10, (e _).trans h.c11, (e _).trans h.c12, (e _).trans h.c13, (e _).trans h.c14⟩
/-- Where the loop begins. -/
theorem copy_start {w w0 : World} {t : NodeT} {a : Option Addr} {m cap : Nat} (n ox : Nat) (l : List NodeT) (hc : NodeAt w0 w.heap.size 0 t a m cap) (hs : w0.heap.size = w.heap.size + 1) (hf : w0.frozen? ⟨w.heap.size, 14, none⟩ = false) (hg : Gr w w0) :
    CopySt w n (.mk t.kind t.op ox t.s t.b t.f t.ref t.to t.args) l (((w0.setCell ⟨w.heap.size, 2, none⟩ (.float .f64 ox)).setCell ⟨w.heap.size, 14, none⟩ (.slice none 0 0)).alloc (.cells #[.int .i64 0, .int .i64 0, .float .f64 0, .string ⟨#[]⟩, .bool false, .int .i64 0, .int .i64 0, .int .i64 0, .bool false, .bool false, .int .i64 0, .int .i64 0, .bool false, .bool false, .slice none 0 0] 44)) 0 none 0 0 := by
  obtain ⟨w1, hw1⟩ : ∃ w1, w0.setCell ⟨w.heap.size, 2, none⟩ (.float .f64 ox) = w1 := ⟨_, rfl⟩
  rw [hw1]
  obtain ⟨w2, hw2⟩ : ∃ w2, w1.setCell ⟨w.heap.size, 14, none⟩ (.slice none 0 0) = w2 := ⟨_, rfl⟩
  rw [hw2]
  have s1 : w1.heap.size = w.heap.size + 1 := by rw [← hw1]; simpa using hs
  have s2 : w2.heap.size = w.heap.size + 1 := by rw [← hw2]; simpa using s1
  have k1 : ∀ o v, o ≠ 2 → w0.cell? ⟨w.heap.size, o, none⟩ = some v → w1.cell? ⟨w.heap.size, o, none⟩ = some v := fun o v ho h => by
    rw [← hw1]; exact (World.cell?_setCell_other w0 _ _ _ (by intro e; cases e; exact ho rfl)).trans h
  have k2 : ∀ o v, o ≠ 14 → w1.cell? ⟨w.heap.size, o, none⟩ = some v → w2.cell? ⟨w.heap.size, o, none⟩ = some v := fun o v ho h => by
    rw [← hw2]; exact (World.cell?_setCell_other w1 _ _ _ (by intro e; cases e; exact ho rfl)).trans h
  have k3 : ∀ o v (ob : Obj), w2.cell? ⟨w.heap.size, o, none⟩ = some v → (w2.alloc ob).cell? ⟨w.heap.size, o, none⟩ = some v := fun o v ob h =>
    (World.cell?_of_block (w := w2) (a := ⟨w.heap.size, o, none⟩) (Below.heap_alloc w2 ob _ (by show w.heap.size < _; omega))).trans h
  have x1 : Xt w w1 := by rw [← hw1]; exact hg.xt.grownB (setCell_grown _ _ _ _) (fun m hm => by cases hm; exact Nat.le_refl _)
  have x2 : Xt w w2 := by rw [← hw2]; exact x1.grownB (setCell_grown _ _ _ _) (fun m hm => by cases hm; exact Nat.le_refl _)
  refine ⟨⟨?_, ?_, ?_, ?_, ?_, ?_, ?_, ?_, ?_, ?_, ?_, ?_, ?_, ?_, ?_⟩, ?_, ?_, fun g hg => (by cases hg), ⟨[], ?_, ?_, fun k r hk => (by simp at hk)⟩, x2.alloc _⟩
  · exact k3 _ _ _ (k2 _ _ (by omega) (k1 _ _ (by omega) hc.c0))
  · exact k3 _ _ _ (k2 _ _ (by omega) (k1 _ _ (by omega) hc.c1))
  · refine k3 _ _ _ (k2 _ _ (by omega) ?_)
    rw [← hw1, Nat.zero_add]; exact World.cell?_setCell_same' w0 _ _ (by have := hc.c2; rw [Nat.zero_add] at this; rw [this]; rfl)
  · exact k3 _ _ _ (k2 _ _ (by omega) (k1 _ _ (by omega) hc.c3))
  · exact k3 _ _ _ (k2 _ _ (by omega) (k1 _ _ (by omega) hc.c4))
  · exact k3 _ _ _ (k2 _ _ (by omega) (k1 _ _ (by omega) hc.c5))
  · exact k3 _ _ _ (k2 _ _ (by omega) (k1 _ _ (by omega) hc.c6))
  · exact k3 _ _ _ (k2 _ _ (by omega) (k1 _ _ (by omega) hc.c7))
  · exact k3 _ _ _ (k2 _ _ (by omega) (k1 _ _ (by omega) hc.c8))
  · exact k3 _ _ _ (k2 _ _ (by omega) (k1 _ _ (by omega) hc.c9))
  · exact k3 _ _ _ (k2 _ _ (by omega) (k1 _ _ (by omega) hc.c10))
  · exact k3 _ _ _ (k2 _ _ (by omega) (k1 _ _ (by omega) hc.c11))
  · exact k3 _ _ _ (k2 _ _ (by omega) (k1 _ _ (by omega) hc.c12))
  · exact k3 _ _ _ (k2 _ _ (by omega) (k1 _ _ (by omega) hc.c13))
  · refine k3 _ _ _ ?_
    have h14 := k1 _ _ (by omega) hc.c14
    rw [Nat.zero_add] at h14
    rw [← hw2, Nat.zero_add]; exact World.cell?_setCell_same' w1 _ _ (by rw [h14]; rfl)
  · have q1 : w1.frozen? ⟨w.heap.size, 14, none⟩ = false := by rw [← hw1]; simp [hf]
    have q2 : w2.frozen? ⟨w.heap.size, 14, none⟩ = false := by rw [← hw2]; simp [q1]
    exact (World.frozen?_of_block (w := w2) (a := ⟨w.heap.size, 14, none⟩) (Below.heap_alloc w2 _ _ (by show w.heap.size < _; omega))).trans q2
  · rw [← s2]; exact ⟨_, (MapKept.heap_alloc w2 _).1, rfl⟩
  · exact World.ownsRow_nil _ _ _ _
  · rfl
/-- The child's box is pushed. -/
theorem copy_push {w wr w6 : World} {n n' i : Nat} {t2 x : NodeT} {l : List NodeT} {va a' : Option Addr} {vn vc : Nat} (hn : n = n' + 1) (h : CopySt w n t2 l wr i va vn vc) (hx : l[i]? = some x) (hl : l.length ≤ 1099511627744) (h6 : Xt wr w6)
    (hA : ArgsS (fun b => wr.heap.size ≤ b) w6 n' (.slice a' x.args.length x.args.length) (copyL x.args)) (wA : World) (hwA : w6.alloc (.cells #[.int .i64 x.kind, .int .i64 x.op, .float .f64 (oneX x.x), .string x.s, .bool x.b, .int .i64 x.f, .int .i64 x.ref.a.1, .int .i64 x.ref.a.2, .bool x.ref.cf, .bool x.ref.rf, .int .i64 x.to.a.1, .int .i64 x.to.a.2, .bool x.to.cf, .bool x.to.rf, .slice a' x.args.length x.args.length] 44) = wA) :
    ∃ va' vn' vc' w7, (Builtin.append_ #[42, 42] 42 #[.slice va vn vc, .slice (some ⟨w6.heap.size, 0, none⟩) 1 1]).run Tryz.prog wA = .ok (.slice va' vn' vc') w7 ∧ Xt w w6 ∧ Xt w wA ∧ Xt w w7 ∧ Xt w (w7.setCell ⟨w.heap.size, 14, none⟩ (.slice va' vn' vc')) ∧ (w6.cell? ⟨w.heap.size, 14, none⟩ = some (.slice va vn vc) ∧ wA.cell? ⟨w.heap.size, 14, none⟩ = some (.slice va vn vc) ∧ w7.cell? ⟨w.heap.size, 14, none⟩ = some (.slice va vn vc)) ∧ w7.frozen? ⟨w.heap.size, 14, none⟩ = false ∧ (∀ b o, wr.heap.size ≤ b → b < wA.heap.size → w7.cell? ⟨b, o, none⟩ = wA.cell? ⟨b, o, none⟩ ∧ (w7.setCell ⟨w.heap.size, 14, none⟩ (.slice va' vn' vc')).cell? ⟨b, o, none⟩ = wA.cell? ⟨b, o, none⟩) ∧
      CopySt w n t2 l (w7.setCell ⟨w.heap.size, 14, none⟩ (.slice va' vn' vc')) (i + 1) va' vn' vc' := by
  obtain ⟨i0, hi, hz0, hz1, hz2⟩ := info_parts infoNode
  obtain ⟨hbox, hf14, ⟨cs, hres, hcs⟩, hob, ⟨R, hown, hRf, hRa⟩, hxt⟩ := h
  have hil : i < l.length := (List.getElem?_eq_some_iff.1 hx).1
  have hBr : w.heap.size < wr.heap.size := World.block_lt_of_cell? wr _ hbox.c0
  have hB1 : w.heap.size + 1 < wr.heap.size := (Array.getElem?_eq_some_iff.1 hres).1
  have h6s := h6.sz
  have hxtA : Xt wr wA := by rw [← hwA]; exact h6.alloc _
  have hAs : wA.heap.size = w6.heap.size + 1 := by rw [← hwA]; simp
  have hRl : R.length = i := by
    have := congrArg List.length hRf
    rw [copyL_map] at this
    simp at this; omega
  have hownA : wA.ownsRow 0 44 15 (.slice va vn vc) i (R.flatMap rowC) :=
    World.ownsRow.kept hown (row := none) ⟨hxtA.os, hxtA.tape, hxtA.output, hxtA.size, fun k hk _ => hxtA.block k hk⟩ (by
      cases (Value.slice va vn vc).ownBlock with
      | none => exact Or.inl rfl
      | some q => exact Or.inr (by simp))
  have hnews : ∀ (j : Nat) (u : Value), (nodeC (copyT x) (.slice a' x.args.length x.args.length))[j]? = some u → wA.cell? ((⟨w6.heap.size, 0, none⟩ : Addr).add j) = some u := by
    rw [← hwA]
    have := news_at w6 (nodeC (copyT x) (.slice a' x.args.length x.args.length)) 44 (b := w6.heap.size) rfl
    cases x
    exact this
  obtain ⟨v', w7, hpush, hown7, hg7, hwh⟩ := run_append_where (P := Tryz.prog) wA 42 42 44 i0 _ 15 128 Tryz.underlying42 hi hz0 hz1 hz2 rfl (by decide) (.slice va vn vc) i (R.flatMap rowC) hownA ⟨w6.heap.size, 0, none⟩ 1 1 (nodeC (copyT x) (.slice a' x.args.length x.args.length)) rfl hnews (nodeC_one _ _ rfl) (by unfold maxLen; omega) (by omega)
  obtain ⟨va', vc', rfl, hvc1, hvc2⟩ := ownsRow_base hown7
  have hobl : ∀ g, (Value.slice va vn vc).ownBlock = some g → g < wr.heap.size := fun g hg => (World.ownsRow.lt hown g hg).2
  have hob' : ∀ g, (Value.slice va' (i + 1) vc').ownBlock = some g → w.heap.size + 2 ≤ g ∧ g < w7.heap.size := by
    intro g hg
    have hlt := (World.ownsRow.lt hown7 g hg).2
    rcases hwh with e | e
    · rw [e] at hg; exact ⟨hob g hg, hlt⟩
    · have := e g hg; exact ⟨by omega, hlt⟩
  have hx7 : Xt w w7 := (hxt.trans hxtA).grownB hg7 (fun m hm => by have := hob m hm; omega)
  have hn0 : (Value.slice va vn vc).ownBlock ≠ some w.heap.size := fun e => by have := hob _ e; omega
  have hn1 : (Value.slice va vn vc).ownBlock ≠ some (w.heap.size + 1) := fun e => by have := hob _ e; omega
  have k7 : ∀ b o, b < wr.heap.size → (Value.slice va vn vc).ownBlock ≠ some b → w7.cell? ⟨b, o, none⟩ = wr.cell? ⟨b, o, none⟩ := fun b o hb hne =>
    (World.cell?_of_block (w := wA) (a := ⟨b, o, none⟩) (hg7.block b (by omega) (fun e => hne e.symm))).trans ((hxtA.cells).1 b o hb)
  have hc14 := (k7 w.heap.size 14 hBr hn0).trans hbox.c14
  have hcell : ∀ o v, o ≠ 14 → wr.cell? ⟨w.heap.size, o, none⟩ = some v → (w7.setCell ⟨w.heap.size, 14, none⟩ (.slice va' (i + 1) vc')).cell? ⟨w.heap.size, o, none⟩ = some v := fun o v ho hv =>
    (World.cell?_setCell_other w7 _ _ _ (by intro e; cases e; exact ho rfl)).trans ((k7 _ o hBr hn0).trans hv)
  have hf7 : w7.frozen? ⟨w.heap.size, 14, none⟩ = false :=
    (World.frozen?_of_block (w := wr) (a := ⟨w.heap.size, 14, none⟩) ((hg7.block _ (by omega) (fun e => hn0 e.symm)).trans (hxtA.block _ hBr))).trans hf14
  have k8 : ∀ b, b < wr.heap.size → b ≠ w.heap.size → (Value.slice va vn vc).ownBlock ≠ some b → (w7.setCell ⟨w.heap.size, 14, none⟩ (.slice va' (i + 1) vc')).heap[b]? = wr.heap[b]? := fun b hb hne hob =>
    (Below.heap_setCell _ _ _ _ hne).trans ((hg7.block b (by omega) (fun e => hob e.symm)).trans (hxtA.block b hb))
  refine ⟨va', i + 1, vc', w7, hpush, hxt.trans h6, hxt.trans hxtA, hx7, hx7.grownB (setCell_grown _ _ _ _) (fun m hm => by cases hm; exact Nat.le_refl _), ⟨((h6.cells).1 _ _ hBr).trans hbox.c14, ((hxtA.cells).1 _ _ hBr).trans hbox.c14, hc14⟩, hf7, fun b o hb hl => ?_, ?_⟩
  · have e7 : w7.cell? ⟨b, o, none⟩ = wA.cell? ⟨b, o, none⟩ := World.cell?_of_block (w := wA) (a := ⟨b, o, none⟩) (hg7.block b hl (fun e => by have := hobl b e.symm; omega))
    exact ⟨e7, (World.cell?_setCell_far _ _ _ _ (by show w.heap.size ≠ b; omega)).trans e7⟩
  refine ⟨⟨?_, ?_, ?_, ?_, ?_, ?_, ?_, ?_, ?_, ?_, ?_, ?_, ?_, ?_, ?_⟩, ?_, ?_, fun g hg => (hob' g hg).1, ?_, hx7.grownB (setCell_grown _ _ _ _) (fun m hm => by cases hm; exact Nat.le_refl _)⟩
  · exact hcell _ _ (by omega) hbox.c0
  · exact hcell _ _ (by omega) hbox.c1
  · exact hcell _ _ (by omega) hbox.c2
  · exact hcell _ _ (by omega) hbox.c3
  · exact hcell _ _ (by omega) hbox.c4
  · exact hcell _ _ (by omega) hbox.c5
  · exact hcell _ _ (by omega) hbox.c6
  · exact hcell _ _ (by omega) hbox.c7
  · exact hcell _ _ (by omega) hbox.c8
  · exact hcell _ _ (by omega) hbox.c9
  · exact hcell _ _ (by omega) hbox.c10
  · exact hcell _ _ (by omega) hbox.c11
  · exact hcell _ _ (by omega) hbox.c12
  · exact hcell _ _ (by omega) hbox.c13
  · rw [Nat.zero_add]; exact World.cell?_setCell_same' w7 _ _ (by rw [hc14]; rfl)
  · simp [hf7]
  · exact ⟨cs, (k8 _ hB1 (by omega) hn1).trans hres, hcs⟩
  · have e7 : (R ++ [(copyT x, Value.slice a' x.args.length x.args.length)]).flatMap rowC = R.flatMap rowC ++ nodeC (copyT x) (.slice a' x.args.length x.args.length) := by simp [rowC]
    refine ⟨R ++ [(copyT x, .slice a' x.args.length x.args.length)], ?_, ?_, ?_⟩
    · rw [e7]
      exact ownsRow_setCell_other hown7 (a := ⟨w.heap.size, 14, none⟩) (fun e => by have := (hob' _ e).1; simp at this; omega) _
    · rw [List.map_append, hRf, copyL_map, copyL_map, List.take_add_one, hx]; simp
    · intro k r hk
      have hk7 : ∀ b o, b < wr.heap.size → b ≠ w.heap.size → (Value.slice va vn vc).ownBlock ≠ some b → (w7.setCell ⟨w.heap.size, 14, none⟩ (.slice va' (i + 1) vc')).cell? ⟨b, o, none⟩ = wr.cell? ⟨b, o, none⟩ := fun b o hb hne hob =>
        World.cell?_of_block (w := wr) (a := ⟨b, o, none⟩) (k8 b hb hne hob)
      have hobn : ∀ b, b < w6.heap.size → (Value.slice va vn vc).ownBlock ≠ some b → (Value.slice va' (i + 1) vc').ownBlock ≠ some b := by
        intro b hb hne e
        rcases hwh with e' | e'
        · rw [e'] at e; exact hne e
        · have := e' b e; omega
      by_cases hkl : k < R.length
      · rw [List.getElem?_append_left hkl] at hk
        obtain ⟨n1, hn1', hAk⟩ := hRa k r hk
        exact ⟨n1, hn1', hAk.keep (fun b hb hlt => ⟨hb.1, hobn b (by omega) hb.2⟩) (fun b o hb hlt => hk7 b o hlt (by omega) hb.2)⟩
      · rw [List.getElem?_append_right (by omega)] at hk
        have hk0 : k - R.length = 0 := by
          rcases Nat.eq_zero_or_pos (k - R.length) with e | e
          · exact e
          · rw [List.getElem?_eq_none (by simp; omega)] at hk; cases hk
        rw [hk0] at hk
        simp only [List.getElem?_cons_zero, Option.some.injEq] at hk
        subst hk
        refine ⟨n', hn, ?_⟩
        have hk6 : ∀ b o, wr.heap.size ≤ b → b < w6.heap.size → (w7.setCell ⟨w.heap.size, 14, none⟩ (.slice va' (i + 1) vc')).cell? ⟨b, o, none⟩ = w6.cell? ⟨b, o, none⟩ := by
          intro b o hb hlt
          refine World.cell?_of_block (w := w6) (a := ⟨b, o, none⟩) ?_
          refine (Below.heap_setCell _ _ _ _ (by show b ≠ w.heap.size; omega)).trans ((hg7.block b (by omega) (fun e => by have := hobl b e.symm; omega)).trans ?_)
          rw [← hwA]
          exact Below.heap_alloc w6 _ b hlt
        have hA2 : ArgsS (fun b => wr.heap.size ≤ b) w6 n' (.slice a' x.args.length x.args.length) (copyT x).args := by cases x; exact hA
        exact hA2.keep (fun b hb hlt => ⟨by omega, hobn b hlt (fun e => by have := hobl b e; omega)⟩) (fun b o hb hlt => hk6 b o hb hlt)
/-- All are pushed. -/
theorem copy_end {w wr w' : World} {n : Nat} {t2 : NodeT} {l : List NodeT} {va : Option Addr} {vn vc : Nat} (h : CopySt w n t2 l wr l.length va vn vc) (hk : ∀ b o, w.heap.size + 2 ≤ b → b < wr.heap.size → w'.cell? ⟨b, o, none⟩ = wr.cell? ⟨b, o, none⟩) :
    vn = l.length ∧ l.length ≤ vc ∧ vc ≤ 9223372036854775807 ∧ ArgsS (fun b => w.heap.size ≤ b) w' n (.slice va l.length l.length) (copyL l) := by
  obtain ⟨_, _, _, hob, ⟨R, hown, hRf, hRa⟩, _⟩ := h
  obtain ⟨a2, c2, e, h1, h2⟩ := ownsRow_base hown
  cases e
  refine ⟨rfl, h1, h2, ?_⟩
  rw [List.take_length] at hRf
  have hRl : R.length = l.length := by have := congrArg List.length hRf; rw [copyL_map] at this; simpa using this
  have hcl : (copyL l).length = l.length := by rw [copyL_map]; simp
  cases n with
  | zero =>
    cases R with
    | nil =>
      have : l = [] := List.eq_nil_of_length_eq_zero (by rw [← hRl]; rfl)
      subst this
      exact ⟨rfl, _, _, rfl, by simp⟩
    | cons r R => obtain ⟨n', hn, _⟩ := hRa 0 r rfl; cases hn
  | succ n =>
    refine ⟨va, l.length, by rw [hcl], by rw [hcl]; exact Nat.le_refl _, by omega, fun hne => ?_⟩
    have hlne : l ≠ [] := fun e => hne (by subst e; rfl)
    rcases hown.2 with ⟨_, h0⟩ | ⟨g, cap, cur, e, _⟩
    · exact absurd (List.length_eq_zero_iff.1 h0) hlne
    · cases e
      have hg2 := hob g rfl
      have hgl := (World.ownsRow.lt hown g rfl).2
      refine ⟨g, 0, rfl, by omega, fun k t ht => ?_⟩
      rw [← hRf, List.getElem?_map] at ht
      obtain ⟨r, hr, rfl⟩ := Option.map_eq_some_iff.1 ht
      obtain ⟨n', hn', hA⟩ := hRa k r hr
      cases hn'
      refine ⟨r.2, fun i u hu => ?_, hA.keep (fun b hb _ => by have := hb.1; omega) (fun b o hb hlt => hk b o hb.1 hlt)⟩
      have hi : i < 15 := (List.getElem?_eq_some_iff.1 hu).1
      have hf := rflat_at rowC 15 rowC_len R k i r hr hi
      have := World.ownsRow.cells hown (g := g) rfl (k * 15 + i) u (hf.trans hu)
      rw [Nat.zero_add, hk g _ hg2 hgl]
      rw [← this, Addr.add_lit, Nat.zero_add]
theorem row_frozen {w : World} {b : Nat} {cs : Array Value} {T : TypeId} (h : w.heap[b]? = some (.cells cs T (0, 0))) : w.frozen? ⟨b, 0, none⟩ = false ∧ w.frozen? ⟨b, 1, none⟩ = false ∧ w.frozen? ⟨b, 2, none⟩ = false ∧ w.frozen? ⟨b, 3, none⟩ = false ∧ w.frozen? ⟨b, 4, none⟩ = false ∧ w.frozen? ⟨b, 5, none⟩ = false ∧ w.frozen? ⟨b, 6, none⟩ = false ∧ w.frozen? ⟨b, 7, none⟩ = false ∧ w.frozen? ⟨b, 8, none⟩ = false ∧ w.frozen? ⟨b, 9, none⟩ = false ∧ w.frozen? ⟨b, 10, none⟩ = false ∧ w.frozen? ⟨b, 11, none⟩ = false ∧ w.frozen? ⟨b, 12, none⟩ = false ∧ w.frozen? ⟨b, 13, none⟩ = false ∧ w.frozen? ⟨b, 14, none⟩ = false := by
  have hk : ∀ o, w.frozen? ⟨b, o, none⟩ = false := fun o => by simp [World.frozen?, h]
  exact ⟨hk 0, hk 1, hk 2, hk 3, hk 4, hk 5, hk 6, hk 7, hk 8, hk 9, hk 10, hk 11, hk 12, hk 13, hk 14⟩
theorem row_there {w : World} {b : Nat} {cs : Array Value} {T : TypeId} (h : w.heap[b]? = some (.cells cs T (0, 0))) (hs : cs.size = 15) : ∃ v0 v1 v2 v3 v4 v5 v6 v7 v8 v9 v10 v11 v12 v13 v14, w.cell? ⟨b, 0, none⟩ = some v0 ∧ w.cell? ⟨b, 1, none⟩ = some v1 ∧ w.cell? ⟨b, 2, none⟩ = some v2 ∧ w.cell? ⟨b, 3, none⟩ = some v3 ∧ w.cell? ⟨b, 4, none⟩ = some v4 ∧ w.cell? ⟨b, 5, none⟩ = some v5 ∧ w.cell? ⟨b, 6, none⟩ = some v6 ∧ w.cell? ⟨b, 7, none⟩ = some v7 ∧ w.cell? ⟨b, 8, none⟩ = some v8 ∧ w.cell? ⟨b, 9, none⟩ = some v9 ∧ w.cell? ⟨b, 10, none⟩ = some v10 ∧ w.cell? ⟨b, 11, none⟩ = some v11 ∧ w.cell? ⟨b, 12, none⟩ = some v12 ∧ w.cell? ⟨b, 13, none⟩ = some v13 ∧ w.cell? ⟨b, 14, none⟩ = some v14 := by
  have hk : ∀ o, o < 15 → w.cell? ⟨b, o, none⟩ = some (cs.getD o undef) := fun o ho => by simp [World.cell?, h, hs, ho]
  exact ⟨_, _, _, _, _, _, _, _, _, _, _, _, _, _, _, hk 0 (by omega), hk 1 (by omega), hk 2 (by omega), hk 3 (by omega), hk 4 (by omega), hk 5 (by omega), hk 6 (by omega), hk 7 (by omega), hk 8 (by omega), hk 9 (by omega), hk 10 (by omega), hk 11 (by omega), hk 12 (by omega), hk 13 (by omega), hk 14 (by omega)⟩
theorem setCell_row {w : World} {b : Nat} {cs : Array Value} {T : TypeId} {fz : Nat × Nat} (h : w.heap[b]? = some (.cells cs T fz)) (o : Nat) (v : Value) : (w.setCell ⟨b, o, none⟩ v).heap[b]? = some (.cells (cs.setIfInBounds o v) T fz) := by
  simp [World.setCell, Array.getElem?_modify, h]
theorem row15 {cs : Array Value} (h : cs.size = 15) (v0 v1 v2 v3 v4 v5 v6 v7 v8 v9 v10 v11 v12 v13 v14 : Value) : (((((((((((((((cs.setIfInBounds 0 v0).setIfInBounds 1 v1).setIfInBounds 2 v2).setIfInBounds 3 v3).setIfInBounds 4 v4).setIfInBounds 5 v5).setIfInBounds 6 v6).setIfInBounds 7 v7).setIfInBounds 8 v8).setIfInBounds 9 v9).setIfInBounds 10 v10).setIfInBounds 11 v11).setIfInBounds 12 v12).setIfInBounds 13 v13).setIfInBounds 14 v14) = #[v0, v1, v2, v3, v4, v5, v6, v7, v8, v9, v10, v11, v12, v13, v14] := by
  obtain ⟨l⟩ := cs
  have h' : l.length = 15 := h
  rcases l with _ | ⟨a0, l⟩
  · simp at h'
  rcases l with _ | ⟨a1, l⟩
  · simp at h'
  rcases l with _ | ⟨a2, l⟩
  · simp at h'
  rcases l with _ | ⟨a3, l⟩
  · simp at h'
  rcases l with _ | ⟨a4, l⟩
  · simp at h'
  rcases l with _ | ⟨a5, l⟩
  · simp at h'
  rcases l with _ | ⟨a6, l⟩
  · simp at h'
  rcases l with _ | ⟨a7, l⟩
  · simp at h'
  rcases l with _ | ⟨a8, l⟩
  · simp at h'
  rcases l with _ | ⟨a9, l⟩
  · simp at h'
  rcases l with _ | ⟨a10, l⟩
  · simp at h'
  rcases l with _ | ⟨a11, l⟩
  · simp at h'
  rcases l with _ | ⟨a12, l⟩
  · simp at h'
  rcases l with _ | ⟨a13, l⟩
  · simp at h'
  rcases l with _ | ⟨a14, l⟩
  · simp at h'
  rcases l with _ | ⟨a15, l⟩
  · simp only [List.setIfInBounds_toArray, List.set_cons_zero, List.set_cons_succ]
  · simp at h'
theorem grown_set {w w' : World} {b : Nat} (h : w.grownBy w' (some b)) (o : Nat) (v : Value) : w.grownBy (w'.setCell ⟨b, o, none⟩ v) (some b) := World.grownBy.trans h (setCell_grown _ _ _ _)
/-- A row of fifteen, written over. -/
theorem fill15 {w : World} {b : Nat} {cs : Array Value} {T : TypeId} (h : w.heap[b]? = some (.cells cs T (0, 0))) (hs : cs.size = 15) (v0 v1 v2 v3 v4 v5 v6 v7 v8 v9 v10 v11 v12 v13 v14 : Value) :
    (((((((((((((((w.setCell ⟨b, 0, none⟩ v0).setCell ⟨b, 1, none⟩ v1).setCell ⟨b, 2, none⟩ v2).setCell ⟨b, 3, none⟩ v3).setCell ⟨b, 4, none⟩ v4).setCell ⟨b, 5, none⟩ v5).setCell ⟨b, 6, none⟩ v6).setCell ⟨b, 7, none⟩ v7).setCell ⟨b, 8, none⟩ v8).setCell ⟨b, 9, none⟩ v9).setCell ⟨b, 10, none⟩ v10).setCell ⟨b, 11, none⟩ v11).setCell ⟨b, 12, none⟩ v12).setCell ⟨b, 13, none⟩ v13).setCell ⟨b, 14, none⟩ v14).heap[b]? = some (.cells #[v0, v1, v2, v3, v4, v5, v6, v7, v8, v9, v10, v11, v12, v13, v14] T (0, 0)) ∧ w.grownBy (((((((((((((((w.setCell ⟨b, 0, none⟩ v0).setCell ⟨b, 1, none⟩ v1).setCell ⟨b, 2, none⟩ v2).setCell ⟨b, 3, none⟩ v3).setCell ⟨b, 4, none⟩ v4).setCell ⟨b, 5, none⟩ v5).setCell ⟨b, 6, none⟩ v6).setCell ⟨b, 7, none⟩ v7).setCell ⟨b, 8, none⟩ v8).setCell ⟨b, 9, none⟩ v9).setCell ⟨b, 10, none⟩ v10).setCell ⟨b, 11, none⟩ v11).setCell ⟨b, 12, none⟩ v12).setCell ⟨b, 13, none⟩ v13).setCell ⟨b, 14, none⟩ v14) (some b) := by
  refine ⟨?_, (grown_set (grown_set (grown_set (grown_set (grown_set (grown_set (grown_set (grown_set (grown_set (grown_set (grown_set (grown_set (grown_set (grown_set (grown_set (World.grownBy.refl w _) 0 v0) 1 v1) 2 v2) 3 v3) 4 v4) 5 v5) 6 v6) 7 v7) 8 v8) 9 v9) 10 v10) 11 v11) 12 v12) 13 v13) 14 v14)⟩
  rw [← row15 hs]
  exact (setCell_row (setCell_row (setCell_row (setCell_row (setCell_row (setCell_row (setCell_row (setCell_row (setCell_row (setCell_row (setCell_row (setCell_row (setCell_row (setCell_row (setCell_row h 0 v0) 1 v1) 2 v2) 3 v3) 4 v4) 5 v5) 6 v6) 7 v7) 8 v8) 9 v9) 10 v10) 11 v11) 12 v12) 13 v13) 14 v14)
theorem NodeAt.facts0 {w : World} {b : Nat} {k op : Int} {x : Nat} {s : ByteArray} {bb : Bool} {f : Int} {r q : RefT} {l : List NodeT} {a : Option Addr} {n c : Nat} (h : NodeAt w b 0 (.mk k op x s bb f r q l) a n c) : w.cell? ⟨b, 0, none⟩ = some (.int .i64 k) ∧ w.cell? ⟨b, 1, none⟩ = some (.int .i64 op) ∧ w.cell? ⟨b, 2, none⟩ = some (.float .f64 x) ∧ w.cell? ⟨b, 3, none⟩ = some (.string s) ∧ w.cell? ⟨b, 4, none⟩ = some (.bool bb) ∧ w.cell? ⟨b, 5, none⟩ = some (.int .i64 f) ∧ w.cell? ⟨b, 6, none⟩ = some (.int .i64 r.a.1) ∧ w.cell? ⟨b, 7, none⟩ = some (.int .i64 r.a.2) ∧ w.cell? ⟨b, 8, none⟩ = some (.bool r.cf) ∧ w.cell? ⟨b, 9, none⟩ = some (.bool r.rf) ∧ w.cell? ⟨b, 10, none⟩ = some (.int .i64 q.a.1) ∧ w.cell? ⟨b, 11, none⟩ = some (.int .i64 q.a.2) ∧ w.cell? ⟨b, 12, none⟩ = some (.bool q.cf) ∧ w.cell? ⟨b, 13, none⟩ = some (.bool q.rf) ∧ w.cell? ⟨b, 14, none⟩ = some (.slice a n c) :=
  ⟨h.c0, by have := h.c1; rw [Nat.zero_add] at this; exact this, by have := h.c2; rw [Nat.zero_add] at this; exact this, by have := h.c3; rw [Nat.zero_add] at this; exact this, by have := h.c4; rw [Nat.zero_add] at this; exact this, by have := h.c5; rw [Nat.zero_add] at this; exact this, by have := h.c6; rw [Nat.zero_add] at this; exact this, by have := h.c7; rw [Nat.zero_add] at this; exact this, by have := h.c8; rw [Nat.zero_add] at this; exact this, by have := h.c9; rw [Nat.zero_add] at this; exact this, by have := h.c10; rw [Nat.zero_add] at this; exact this, by have := h.c11; rw [Nat.zero_add] at this; exact this, by have := h.c12; rw [Nat.zero_add] at this; exact this, by have := h.c13; rw [Nat.zero_add] at this; exact this, by have := h.c14; rw [Nat.zero_add] at this; exact this⟩

/-- A whole row of nodes. -/
def NodeRow (w : World) (b : Nat) : Prop := ∃ (cur : Array Value) (cap : Nat), w.heap[b]? = some (.cells cur 44 (0, 0)) ∧ cur.size = cap * 15
theorem NodeRow.of_heap {w w' : World} {b : Nat} (h : NodeRow w b) (e : w'.heap[b]? = w.heap[b]?) : NodeRow w' b := let ⟨cur, cap, h1, h2⟩ := h; ⟨cur, cap, e.trans h1, h2⟩
/-- The rows that a round has laid. -/
structure CopyRowsR (wr : World) (S : Nat) (n : Nat) (ob : Option Nat) (l : List NodeT) (R : List (NodeT × Value)) : Prop where
  fst : R.map Prod.fst = copyL l
  args : ∀ (k : Nat) (r : NodeT × Value), R[k]? = some r → ∃ n', n = n' + 1 ∧ ArgsS (fun b => (S ≤ b ∧ ob ≠ some b) ∧ NodeRow wr b) wr n' r.2 r.1.args
/-- Copy's state: B its box, B + 1 the cell of its result. -/
structure CopyStR (w : World) (n : Nat) (t2 : NodeT) (l : List NodeT) (wr : World) (i : Nat) (va : Option Addr) (vn vc : Nat) : Prop where
  box : NodeAt wr w.heap.size 0 t2 va vn vc
  f14 : wr.frozen? ⟨w.heap.size, 14, none⟩ = false
  res : ∃ cs, wr.heap[w.heap.size + 1]? = some (.cells cs 44 (0, 0)) ∧ cs.size = 15
  ob : ∀ g, (Value.slice va vn vc).ownBlock = some g → w.heap.size + 2 ≤ g
  rows : ∃ R, wr.ownsRow 0 44 15 (.slice va vn vc) i (R.flatMap rowC) ∧ CopyRowsR wr (w.heap.size + 2) n (Value.slice va vn vc).ownBlock (l.take i) R
  xt : Xt w wr
/-- Where the loop begins. -/
theorem copy_startR {w w0 : World} {t : NodeT} {a : Option Addr} {m cap : Nat} (n ox : Nat) (l : List NodeT) (hc : NodeAt w0 w.heap.size 0 t a m cap) (hs : w0.heap.size = w.heap.size + 1) (hf : w0.frozen? ⟨w.heap.size, 14, none⟩ = false) (hg : Gr w w0) :
    CopyStR w n (.mk t.kind t.op ox t.s t.b t.f t.ref t.to t.args) l (((w0.setCell ⟨w.heap.size, 2, none⟩ (.float .f64 ox)).setCell ⟨w.heap.size, 14, none⟩ (.slice none 0 0)).alloc (.cells #[.int .i64 0, .int .i64 0, .float .f64 0, .string ⟨#[]⟩, .bool false, .int .i64 0, .int .i64 0, .int .i64 0, .bool false, .bool false, .int .i64 0, .int .i64 0, .bool false, .bool false, .slice none 0 0] 44)) 0 none 0 0 := by
  obtain ⟨w1, hw1⟩ : ∃ w1, w0.setCell ⟨w.heap.size, 2, none⟩ (.float .f64 ox) = w1 := ⟨_, rfl⟩
  rw [hw1]
  obtain ⟨w2, hw2⟩ : ∃ w2, w1.setCell ⟨w.heap.size, 14, none⟩ (.slice none 0 0) = w2 := ⟨_, rfl⟩
  rw [hw2]
  have s1 : w1.heap.size = w.heap.size + 1 := by rw [← hw1]; simpa using hs
  have s2 : w2.heap.size = w.heap.size + 1 := by rw [← hw2]; simpa using s1
  have k1 : ∀ o v, o ≠ 2 → w0.cell? ⟨w.heap.size, o, none⟩ = some v → w1.cell? ⟨w.heap.size, o, none⟩ = some v := fun o v ho h => by
    rw [← hw1]; exact (World.cell?_setCell_other w0 _ _ _ (by intro e; cases e; exact ho rfl)).trans h
  have k2 : ∀ o v, o ≠ 14 → w1.cell? ⟨w.heap.size, o, none⟩ = some v → w2.cell? ⟨w.heap.size, o, none⟩ = some v := fun o v ho h => by
    rw [← hw2]; exact (World.cell?_setCell_other w1 _ _ _ (by intro e; cases e; exact ho rfl)).trans h
  have k3 : ∀ o v (ob : Obj), w2.cell? ⟨w.heap.size, o, none⟩ = some v → (w2.alloc ob).cell? ⟨w.heap.size, o, none⟩ = some v := fun o v ob h =>
    (World.cell?_of_block (w := w2) (a := ⟨w.heap.size, o, none⟩) (Below.heap_alloc w2 ob _ (by show w.heap.size < _; omega))).trans h
  have x1 : Xt w w1 := by rw [← hw1]; exact hg.xt.grownB (setCell_grown _ _ _ _) (fun m hm => by cases hm; exact Nat.le_refl _)
  have x2 : Xt w w2 := by rw [← hw2]; exact x1.grownB (setCell_grown _ _ _ _) (fun m hm => by cases hm; exact Nat.le_refl _)
  refine ⟨⟨?_, ?_, ?_, ?_, ?_, ?_, ?_, ?_, ?_, ?_, ?_, ?_, ?_, ?_, ?_⟩, ?_, ?_, fun g hg => (by cases hg), ⟨[], ?_, ?_, fun k r hk => (by simp at hk)⟩, x2.alloc _⟩
  · exact k3 _ _ _ (k2 _ _ (by omega) (k1 _ _ (by omega) hc.c0))
  · exact k3 _ _ _ (k2 _ _ (by omega) (k1 _ _ (by omega) hc.c1))
  · refine k3 _ _ _ (k2 _ _ (by omega) ?_)
    rw [← hw1, Nat.zero_add]; exact World.cell?_setCell_same' w0 _ _ (by have := hc.c2; rw [Nat.zero_add] at this; rw [this]; rfl)
  · exact k3 _ _ _ (k2 _ _ (by omega) (k1 _ _ (by omega) hc.c3))
  · exact k3 _ _ _ (k2 _ _ (by omega) (k1 _ _ (by omega) hc.c4))
  · exact k3 _ _ _ (k2 _ _ (by omega) (k1 _ _ (by omega) hc.c5))
  · exact k3 _ _ _ (k2 _ _ (by omega) (k1 _ _ (by omega) hc.c6))
  · exact k3 _ _ _ (k2 _ _ (by omega) (k1 _ _ (by omega) hc.c7))
  · exact k3 _ _ _ (k2 _ _ (by omega) (k1 _ _ (by omega) hc.c8))
  · exact k3 _ _ _ (k2 _ _ (by omega) (k1 _ _ (by omega) hc.c9))
  · exact k3 _ _ _ (k2 _ _ (by omega) (k1 _ _ (by omega) hc.c10))
  · exact k3 _ _ _ (k2 _ _ (by omega) (k1 _ _ (by omega) hc.c11))
  · exact k3 _ _ _ (k2 _ _ (by omega) (k1 _ _ (by omega) hc.c12))
  · exact k3 _ _ _ (k2 _ _ (by omega) (k1 _ _ (by omega) hc.c13))
  · refine k3 _ _ _ ?_
    have h14 := k1 _ _ (by omega) hc.c14
    rw [Nat.zero_add] at h14
    rw [← hw2, Nat.zero_add]; exact World.cell?_setCell_same' w1 _ _ (by rw [h14]; rfl)
  · have q1 : w1.frozen? ⟨w.heap.size, 14, none⟩ = false := by rw [← hw1]; simp [hf]
    have q2 : w2.frozen? ⟨w.heap.size, 14, none⟩ = false := by rw [← hw2]; simp [q1]
    exact (World.frozen?_of_block (w := w2) (a := ⟨w.heap.size, 14, none⟩) (Below.heap_alloc w2 _ _ (by show w.heap.size < _; omega))).trans q2
  · rw [← s2]; exact ⟨_, (MapKept.heap_alloc w2 _).1, rfl⟩
  · exact World.ownsRow_nil _ _ _ _
  · rfl

/-- A slice of nodes in whole rows of nodes, from the row's first place on, all its blocks with a property, so deep. -/
def OwnIn (S : Nat → Prop) (w : World) : Nat → Value → List NodeT → Prop
  | 0, av, l => l = [] ∧ ∃ a, av = .slice a 0 0
  | n + 1, av, l => ∃ a cap, av = .slice a l.length cap ∧ l.length ≤ cap ∧ cap ≤ 9223372036854775807 ∧ (0 < cap → ∃ b cur K, a = some ⟨b, 0, none⟩ ∧ S b ∧ w.heap[b]? = some (.cells cur 44 (0, 0)) ∧ cur.size = K * 15 ∧ cap ≤ K ∧
      ∀ k t, l[k]? = some t → ∃ av', (∀ i u, (nodeC t av')[i]? = some u → w.cell? ⟨b, k * 15 + i, none⟩ = some u) ∧ OwnIn S w n av' t.args)
theorem OwnIn.args {S : Nat → Prop} {w : World} : ∀ {n : Nat} {av : Value} {l : List NodeT}, OwnIn S w n av l → ArgsIn w n av l
  | 0, _, _, h => by obtain ⟨rfl, a, rfl⟩ := h; exact ⟨rfl, a, 0, rfl, by omega⟩
  | n + 1, _, _, h => by
    obtain ⟨a, cap, rfl, h1, h2, h3⟩ := h
    refine ⟨a, cap, rfl, h1, h2, fun hne => ?_⟩
    have hpos := List.length_pos_iff.2 hne
    obtain ⟨b, cur, K, rfl, _, _, _, _, hc⟩ := h3 (by omega)
    exact ⟨b, 0, rfl, fun k t ht => let ⟨av', q1, q2⟩ := hc k t ht; ⟨av', by simpa only [Nat.zero_add] using q1, q2.args⟩⟩
theorem OwnIn.keep {S S' : Nat → Prop} {w w' : World} (hS : ∀ b, S b → b < w.heap.size → S' b) (hk : ∀ b, S b → b < w.heap.size → w'.heap[b]? = w.heap[b]?) : ∀ {n : Nat} {av : Value} {l : List NodeT}, OwnIn S w n av l → OwnIn S' w' n av l
  | 0, _, _, h => h
  | n + 1, _, _, h => by
    obtain ⟨a, cap, rfl, h1, h2, h3⟩ := h
    refine ⟨a, cap, rfl, h1, h2, fun hpos => ?_⟩
    obtain ⟨b, cur, K, rfl, hb, hr, hK, hcK, hc⟩ := h3 hpos
    have hlt : b < w.heap.size := (Array.getElem?_eq_some_iff.1 hr).1
    exact ⟨b, cur, K, rfl, hS b hb hlt, (hk b hb hlt).trans hr, hK, hcK, fun k t ht => let ⟨av', q1, q2⟩ := hc k t ht; ⟨av', fun i u hu => (World.cell?_of_block (w := w) (a := ⟨b, k * 15 + i, none⟩) (hk b hb hlt)).trans (q1 i u hu), OwnIn.keep hS hk q2⟩⟩
theorem OwnIn.shape {S : Nat → Prop} {w : World} {n : Nat} {av : Value} {l : List NodeT} (h : OwnIn S w n av l) : ∃ a cap, av = .slice a l.length cap ∧ l.length ≤ cap ∧ cap ≤ 9223372036854775807 := h.args.shape
/-- The rows that a round has laid. -/
structure GRows (wr : World) (M : Nat) (g : NodeT → NodeT) (n : Nat) (ob : Option Nat) (l : List NodeT) (R : List (NodeT × Value)) : Prop where
  fst : R.map Prod.fst = l.map g
  args : ∀ (k : Nat) (r : NodeT × Value), R[k]? = some r → ∃ n', n = n' + 1 ∧ OwnIn (fun b => M ≤ b ∧ ob ≠ some b) wr n' r.2 r.1.args
/-- O the block of the node whose args grow; what they lie in begins at M. -/
structure GSt (w ws : World) (O M : Nat) (g : NodeT → NodeT) (n : Nat) (t2 : NodeT) (l : List NodeT) (wr : World) (i : Nat) (va : Option Addr) (vn vc : Nat) : Prop where
  lo : w.heap.size ≤ O ∧ O < M ∧ M = ws.heap.size ∧ M ≤ wr.heap.size
  box : NodeAt wr O 0 t2 va vn vc
  f14 : wr.frozen? ⟨O, 14, none⟩ = false
  none : i = 0 → vc = 0
  ob : ∀ q, (Value.slice va vn vc).ownBlock = some q → M ≤ q
  rows : ∃ R, wr.ownsRow 0 44 15 (.slice va vn vc) i (R.flatMap rowC) ∧ GRows wr M g n (Value.slice va vn vc).ownBlock (l.take i) R
  keep : ∀ b, b < M → b ≠ O → wr.heap[b]? = ws.heap[b]?
  xt : Xt w wr
theorem grow_start {w ws : World} {O : Nat} (g : NodeT → NodeT) (n : Nat) {t2 : NodeT} (l : List NodeT) (h1 : w.heap.size ≤ O) (h2 : O < ws.heap.size) (hb : NodeAt ws O 0 t2 none 0 0) (hf : ws.frozen? ⟨O, 14, none⟩ = false) (hx : Xt w ws) :
    GSt w ws O ws.heap.size g n t2 l ws 0 none 0 0 :=
  ⟨⟨h1, h2, rfl, Nat.le_refl _⟩, hb, hf, fun _ => rfl, fun q hq => (by cases hq), ⟨[], World.ownsRow_nil _ _ _ _, rfl, fun k r hk => (by simp at hk)⟩, fun _ _ _ => rfl, hx⟩
theorem GSt.lenR {R : List (NodeT × Value)} {g : NodeT → NodeT} {l : List NodeT} {i : Nat} (h : R.map Prod.fst = (l.take i).map g) (hi : i ≤ l.length) : R.length = i := by
  have := congrArg List.length h
  simp at this; omega
/-- The child's box is pushed. -/
theorem grow_push {w ws wr w6 : World} {O M n n' i : Nat} {g : NodeT → NodeT} {t2 x : NodeT} {l : List NodeT} {va a' : Option Addr} {vn vc c' : Nat} (hn : n = n' + 1) (h : GSt w ws O M g n t2 l wr i va vn vc) (hx : l[i]? = some x) (hl : l.length ≤ 1099511627744) (h6 : Xt wr w6)
    (hA : OwnIn (fun b => wr.heap.size ≤ b) w6 n' (.slice a' (g x).args.length c') (g x).args) (wA : World)
    (hwA : w6.alloc (.cells #[.int .i64 (g x).kind, .int .i64 (g x).op, .float .f64 (g x).x, .string (g x).s, .bool (g x).b, .int .i64 (g x).f, .int .i64 (g x).ref.a.1, .int .i64 (g x).ref.a.2, .bool (g x).ref.cf, .bool (g x).ref.rf, .int .i64 (g x).to.a.1, .int .i64 (g x).to.a.2, .bool (g x).to.cf, .bool (g x).to.rf, .slice a' (g x).args.length c'] 44) = wA) :
    ∃ va' vn' vc' w7, (Builtin.append_ #[42, 42] 42 #[.slice va vn vc, .slice (some ⟨w6.heap.size, 0, none⟩) 1 1]).run Tryz.prog wA = .ok (.slice va' vn' vc') w7 ∧ (w6.cell? ⟨O, 14, none⟩ = some (.slice va vn vc) ∧ wA.cell? ⟨O, 14, none⟩ = some (.slice va vn vc) ∧ w7.cell? ⟨O, 14, none⟩ = some (.slice va vn vc)) ∧ w7.frozen? ⟨O, 14, none⟩ = false ∧
      (∀ b, b < wr.heap.size → (b < M ∧ b ≠ O ∨ b < w.heap.size) → w6.heap[b]? = wr.heap[b]? ∧ wA.heap[b]? = wr.heap[b]? ∧ w7.heap[b]? = wr.heap[b]? ∧ (w7.setCell ⟨O, 14, none⟩ (.slice va' vn' vc')).heap[b]? = wr.heap[b]?) ∧
      (∀ b, wr.heap.size ≤ b → b < wA.heap.size → w7.heap[b]? = wA.heap[b]? ∧ (w7.setCell ⟨O, 14, none⟩ (.slice va' vn' vc')).heap[b]? = wA.heap[b]?) ∧
      GSt w ws O M g n t2 l (w7.setCell ⟨O, 14, none⟩ (.slice va' vn' vc')) (i + 1) va' vn' vc' := by
  obtain ⟨i0, hi, hz0, hz1, hz2⟩ := info_parts infoNode
  obtain ⟨⟨hO1, hO2, hM, hMr⟩, hbox, hf14, hnone, hob, ⟨R, hown, hRf, hRa⟩, hkeep, hxt⟩ := h
  have hil : i < l.length := (List.getElem?_eq_some_iff.1 hx).1
  have hBr : O < wr.heap.size := by omega
  have h6s := h6.sz
  have hxtA : Xt wr wA := by rw [← hwA]; exact h6.alloc _
  have hAs : wA.heap.size = w6.heap.size + 1 := by rw [← hwA]; simp
  have hRl : R.length = i := GSt.lenR hRf (by omega)
  have hownA : wA.ownsRow 0 44 15 (.slice va vn vc) i (R.flatMap rowC) :=
    World.ownsRow.kept hown (row := none) ⟨hxtA.os, hxtA.tape, hxtA.output, hxtA.size, fun k hk _ => hxtA.block k hk⟩ (by
      cases (Value.slice va vn vc).ownBlock with
      | none => exact Or.inl rfl
      | some q => exact Or.inr (by simp))
  have hnews : ∀ (j : Nat) (u : Value), (nodeC (g x) (.slice a' (g x).args.length c'))[j]? = some u → wA.cell? ((⟨w6.heap.size, 0, none⟩ : Addr).add j) = some u := by
    rw [← hwA]
    exact news_at w6 (nodeC (g x) (.slice a' (g x).args.length c')) 44 (b := w6.heap.size) rfl
  obtain ⟨v', w7, hpush, hown7, hg7, hwh⟩ := run_append_where (P := Tryz.prog) wA 42 42 44 i0 _ 15 128 Tryz.underlying42 hi hz0 hz1 hz2 rfl (by decide) (.slice va vn vc) i (R.flatMap rowC) hownA ⟨w6.heap.size, 0, none⟩ 1 1 (nodeC (g x) (.slice a' (g x).args.length c')) rfl hnews (nodeC_one _ _ rfl) (by unfold maxLen; omega) (by omega)
  obtain ⟨va', vc', rfl, hvc1, hvc2⟩ := ownsRow_base hown7
  have hobl : ∀ q, (Value.slice va vn vc).ownBlock = some q → q < wr.heap.size := fun q hq => (World.ownsRow.lt hown q hq).2
  have hob' : ∀ q, (Value.slice va' (i + 1) vc').ownBlock = some q → M ≤ q ∧ q < w7.heap.size := by
    intro q hq
    have hlt := (World.ownsRow.lt hown7 q hq).2
    rcases hwh with e | e
    · rw [e] at hq; exact ⟨hob q hq, hlt⟩
    · have := e q hq; exact ⟨by omega, hlt⟩
  have hx7 : Xt w w7 := (hxt.trans hxtA).grownB hg7 (fun m hm => by have := hob m hm; omega)
  have hn0 : (Value.slice va vn vc).ownBlock ≠ some O := fun e => by have := hob _ e; omega
  have k7h : ∀ b, b < wr.heap.size → (Value.slice va vn vc).ownBlock ≠ some b → w7.heap[b]? = wr.heap[b]? := fun b hb hne =>
    (hg7.block b (by omega) (fun e => hne e.symm)).trans (hxtA.block b hb)
  have k7 : ∀ b o, b < wr.heap.size → (Value.slice va vn vc).ownBlock ≠ some b → w7.cell? ⟨b, o, none⟩ = wr.cell? ⟨b, o, none⟩ := fun b o hb hne =>
    World.cell?_of_block (w := wr) (a := ⟨b, o, none⟩) (k7h b hb hne)
  have hc14 := (k7 O 14 hBr hn0).trans hbox.c14
  have hcell : ∀ o v, o ≠ 14 → wr.cell? ⟨O, o, none⟩ = some v → (w7.setCell ⟨O, 14, none⟩ (.slice va' (i + 1) vc')).cell? ⟨O, o, none⟩ = some v := fun o v ho hv =>
    (World.cell?_setCell_other w7 _ _ _ (by intro e; cases e; exact ho rfl)).trans ((k7 _ o hBr hn0).trans hv)
  have hf7 : w7.frozen? ⟨O, 14, none⟩ = false :=
    (World.frozen?_of_block (w := wr) (a := ⟨O, 14, none⟩) (k7h _ hBr hn0)).trans hf14
  have k8 : ∀ b, b < wr.heap.size → b ≠ O → (Value.slice va vn vc).ownBlock ≠ some b → (w7.setCell ⟨O, 14, none⟩ (.slice va' (i + 1) vc')).heap[b]? = wr.heap[b]? := fun b hb hne hob =>
    (Below.heap_setCell _ _ _ _ hne).trans (k7h b hb hob)
  have hsz7 : M ≤ w7.heap.size := by have := hg7.size; omega
  refine ⟨va', i + 1, vc', w7, hpush, ⟨((h6.cells).1 _ _ hBr).trans hbox.c14, ((hxtA.cells).1 _ _ hBr).trans hbox.c14, hc14⟩, hf7, fun b hb hor => ?_, fun b hb hl => ?_, ⟨⟨hO1, hO2, hM, by simpa using hsz7⟩, ?_, ?_, fun e => by omega, fun q hq => (hob' q hq).1, ?_, fun b hb hne => (k8 b (by omega) hne (fun e => by have := hob b e; omega)).trans (hkeep b hb hne), hx7.grownB (setCell_grown _ _ _ _) (fun m hm => by cases hm; exact hO1)⟩⟩
  · have hbM : b < M := by rcases hor with h | h <;> omega
    have hbO : b ≠ O := by rcases hor with h | h <;> omega
    exact ⟨h6.block b hb, hxtA.block b hb, k7h b hb (fun e => by have := hob b e; omega), k8 b hb hbO (fun e => by have := hob b e; omega)⟩
  · have e7 : w7.heap[b]? = wA.heap[b]? := hg7.block b hl (fun e => by have := hobl b e.symm; omega)
    exact ⟨e7, (Below.heap_setCell _ _ _ _ (by show b ≠ O; omega)).trans e7⟩
  · refine ⟨?_, ?_, ?_, ?_, ?_, ?_, ?_, ?_, ?_, ?_, ?_, ?_, ?_, ?_, ?_⟩
    · exact hcell _ _ (by omega) hbox.c0
    · exact hcell _ _ (by omega) hbox.c1
    · exact hcell _ _ (by omega) hbox.c2
    · exact hcell _ _ (by omega) hbox.c3
    · exact hcell _ _ (by omega) hbox.c4
    · exact hcell _ _ (by omega) hbox.c5
    · exact hcell _ _ (by omega) hbox.c6
    · exact hcell _ _ (by omega) hbox.c7
    · exact hcell _ _ (by omega) hbox.c8
    · exact hcell _ _ (by omega) hbox.c9
    · exact hcell _ _ (by omega) hbox.c10
    · exact hcell _ _ (by omega) hbox.c11
    · exact hcell _ _ (by omega) hbox.c12
    · exact hcell _ _ (by omega) hbox.c13
    · rw [Nat.zero_add]; exact World.cell?_setCell_same' w7 _ _ (by rw [hc14]; rfl)
  · simp [hf7]
  · have e7 : (R ++ [(g x, Value.slice a' (g x).args.length c')]).flatMap rowC = R.flatMap rowC ++ nodeC (g x) (.slice a' (g x).args.length c') := by simp [rowC]
    refine ⟨R ++ [(g x, .slice a' (g x).args.length c')], ?_, ?_, ?_⟩
    · rw [e7]
      exact ownsRow_setCell_other hown7 (a := ⟨O, 14, none⟩) (fun e => by have := (hob' _ e).1; simp at this; omega) _
    · rw [List.map_append, hRf, List.take_add_one, hx]; simp
    · intro k r hk
      have hobn : ∀ b, b < w6.heap.size → (Value.slice va vn vc).ownBlock ≠ some b → (Value.slice va' (i + 1) vc').ownBlock ≠ some b := by
        intro b hb hne e
        rcases hwh with e' | e'
        · rw [e'] at e; exact hne e
        · have := e' b e; omega
      by_cases hkl : k < R.length
      · rw [List.getElem?_append_left hkl] at hk
        obtain ⟨n1, hn1', hAk⟩ := hRa k r hk
        exact ⟨n1, hn1', hAk.keep (fun b hb hlt => ⟨hb.1, hobn b (by omega) hb.2⟩) (fun b hb hlt => k8 b hlt (by omega) hb.2)⟩
      · rw [List.getElem?_append_right (by omega)] at hk
        have hk0 : k - R.length = 0 := by
          rcases Nat.eq_zero_or_pos (k - R.length) with e | e
          · exact e
          · rw [List.getElem?_eq_none (by simp; omega)] at hk; cases hk
        rw [hk0] at hk
        simp only [List.getElem?_cons_zero, Option.some.injEq] at hk
        subst hk
        refine ⟨n', hn, ?_⟩
        refine hA.keep (fun b hb hlt => ⟨by omega, hobn b hlt (fun e => by have := hobl b e; omega)⟩) (fun b hb hlt => ?_)
        refine (Below.heap_setCell _ _ _ _ (by show b ≠ O; omega)).trans ((hg7.block b (by omega) (fun e => by have := hobl b e.symm; omega)).trans ?_)
        rw [← hwA]
        exact Below.heap_alloc w6 _ b hlt
/-- All are pushed. -/
theorem grow_end {w ws wr w' : World} {O M n : Nat} {g : NodeT → NodeT} {t2 : NodeT} {l : List NodeT} {va : Option Addr} {vn vc : Nat} (h : GSt w ws O M g n t2 l wr l.length va vn vc) (hk : ∀ b, M ≤ b → b < wr.heap.size → w'.heap[b]? = wr.heap[b]?) :
    vn = l.length ∧ l.length ≤ vc ∧ vc ≤ 9223372036854775807 ∧ ∀ c, c = vc ∨ c = l.length → OwnIn (fun b => M ≤ b) w' n (.slice va l.length c) (l.map g) := by
  obtain ⟨_, _, _, hnone, hob, ⟨R, hown, hRf, hRa⟩, _⟩ := h
  obtain ⟨a2, c2, e, h1, h2⟩ := ownsRow_base hown
  cases e
  refine ⟨rfl, h1, h2, fun c hc => ?_⟩
  rw [List.take_length] at hRf
  have hRl : R.length = l.length := by have := congrArg List.length hRf; simpa using this
  have hcl : (l.map g).length = l.length := by simp
  have hcv : l.length ≤ c ∧ c ≤ vc := by rcases hc with e | e <;> omega
  cases n with
  | zero =>
    cases R with
    | nil =>
      have : l = [] := List.eq_nil_of_length_eq_zero (by rw [← hRl]; rfl)
      subst this
      have hv := hnone rfl
      have hc0 : c = 0 := by omega
      subst hc0
      exact ⟨rfl, va, rfl⟩
    | cons r R => obtain ⟨n', hn, _⟩ := hRa 0 r rfl; cases hn
  | succ n =>
    refine ⟨va, c, by rw [hcl], by rw [hcl]; omega, by omega, fun hpos => ?_⟩
    rcases hown.2 with ⟨e0, h0⟩ | ⟨q, cap, cur, e, _, hgc, _, _, hgs, _⟩
    · simp only [Value.slice.injEq] at e0; omega
    · cases e
      have hg2 := hob q rfl
      have hgl := (World.ownsRow.lt hown q rfl).2
      refine ⟨q, cur, vc, rfl, hg2, (hk q hg2 hgl).trans hgc, hgs, hcv.2, fun k t ht => ?_⟩
      rw [← hRf, List.getElem?_map] at ht
      obtain ⟨r, hr, rfl⟩ := Option.map_eq_some_iff.1 ht
      obtain ⟨n', hn', hA⟩ := hRa k r hr
      cases hn'
      refine ⟨r.2, fun i u hu => ?_, hA.keep (fun b hb hlt => hb.1) (fun b hb hlt => hk b hb.1 hlt)⟩
      have hi : i < 15 := (List.getElem?_eq_some_iff.1 hu).1
      have hf := rflat_at rowC 15 rowC_len R k i r hr hi
      have := World.ownsRow.cells hown (g := q) rfl (k * 15 + i) u (hf.trans hu)
      rw [World.cell?_of_block (w := wr) (a := ⟨q, k * 15 + i, none⟩) (hk q hg2 hgl)]
      rw [← this, Addr.add_lit, Nat.zero_add]

theorem OwnIn.argsS {S : Nat → Prop} {w : World} : ∀ {n : Nat} {av : Value} {l : List NodeT}, OwnIn S w n av l → ArgsS S w n av l
  | 0, _, _, h => by obtain ⟨rfl, a, rfl⟩ := h; exact ⟨rfl, a, 0, rfl, by omega⟩
  | n + 1, _, l, h => by
    obtain ⟨a, cap, rfl, h1, h2, h3⟩ := h
    refine ⟨a, cap, rfl, h1, h2, fun hne => ?_⟩
    have hl : 0 < l.length := List.length_pos_iff.2 hne
    obtain ⟨b, cur, K, rfl, hb, _, _, _, hc⟩ := h3 (by omega)
    exact ⟨b, 0, rfl, hb, fun k t ht => let ⟨av', q1, q2⟩ := hc k t ht; ⟨av', fun i u hu => by rw [Nat.zero_add]; exact q1 i u hu, q2.argsS⟩⟩
/-- Its blocks are whole rows of nodes. -/
theorem OwnIn.rows {S : Nat → Prop} {w : World} : ∀ {n : Nat} {av : Value} {l : List NodeT}, OwnIn S w n av l → OwnIn (fun b => S b ∧ ∃ cur, w.heap[b]? = some (.cells cur 44 (0, 0))) w n av l
  | 0, _, _, h => h
  | n + 1, _, l, h => by
    obtain ⟨a, cap, rfl, h1, h2, h3⟩ := h
    refine ⟨a, cap, rfl, h1, h2, fun hpos => ?_⟩
    obtain ⟨b, cur, K, rfl, hb, hr, hK, hcK, hc⟩ := h3 hpos
    exact ⟨b, cur, K, rfl, ⟨hb, cur, hr⟩, hr, hK, hcK, fun k t ht => let ⟨av', q1, q2⟩ := hc k t ht; ⟨av', q1, q2.rows⟩⟩
theorem rowX_ {w w' : World} (hx : Xt w w') {b : Nat} {o : Obj} (h : w.heap[b]? = some o) : w'.heap[b]? = some o := (hx.block b (Array.getElem?_eq_some_iff.1 h).1).trans h
theorem bx2 {w : World} {B : Nat} (hB : w.heap.size = B) (c0 c1 : Array Value) (T0 T1 : TypeId) : ∃ w0 w1, w.alloc (.cells c0 T0) = w0 ∧ w0.heap.size = B + 1 ∧ w0.alloc (.cells c1 T1) = w1 ∧ w1.heap.size = B + 1 + 1 ∧ Hid (Xt w w1) ∧ Hid (w1.heap[B]? = some (.cells c0 T0 (0, 0))) ∧ Hid (w1.heap[B + 1]? = some (.cells c1 T1 (0, 0))) := by
  subst hB
  exact ⟨_, _, rfl, by simp, rfl, by simp, ((Xt.refl w).alloc _).alloc _, rowX_ ((Xt.refl _).alloc _) (MapKept.heap_alloc w _).1, by have h := (MapKept.heap_alloc (w.alloc (.cells c0 T0)) (.cells c1 T1)).1; rw [show (w.alloc (.cells c0 T0)).heap.size = w.heap.size + 1 from by simp] at h; exact h⟩
theorem bx4 {w : World} {B : Nat} (hB : w.heap.size = B) (c0 c1 c2 c3 : Array Value) (T0 T1 T2 T3 : TypeId) : ∃ w0 w1 w2 w3, w.alloc (.cells c0 T0) = w0 ∧ w0.heap.size = B + 1 ∧ w0.alloc (.cells c1 T1) = w1 ∧ w1.heap.size = B + 1 + 1 ∧ w1.alloc (.cells c2 T2) = w2 ∧ w2.heap.size = B + 1 + 1 + 1 ∧ w2.alloc (.cells c3 T3) = w3 ∧ w3.heap.size = B + 1 + 1 + 1 + 1 ∧ Hid (Xt w w3) ∧ Hid (w3.heap[B]? = some (.cells c0 T0 (0, 0))) ∧ Hid (w3.heap[B + 1]? = some (.cells c1 T1 (0, 0))) ∧ Hid (w3.heap[B + 1 + 1]? = some (.cells c2 T2 (0, 0))) ∧ Hid (w3.heap[B + 1 + 1 + 1]? = some (.cells c3 T3 (0, 0))) := by
  obtain ⟨w0, w1, e0, s0, e1, s1, hx, h0, h1⟩ := bx2 hB c0 c1 T0 T1
  obtain ⟨w2, w3, e2, s2, e3, s3, hy, h2, h3⟩ := bx2 s1 c2 c3 T2 T3
  exact ⟨w0, w1, w2, w3, e0, s0, e1, s1, e2, s2, e3, s3, hx.out.trans hy.out, rowX_ hy.out h0.out, rowX_ hy.out h1.out, h2, h3⟩
end
section
open Go.RowKit Go.Sort Go.MapKept

section
variable {α : Type} {enc : α → List Value} {k : Nat}
theorem holdsK_of [Inhabited α] {w : World} {g : Nat} {T : TypeId} {cur : Array Value} {l : List α} (hk : ∀ x, (enc x).length = k) (hg : w.heap[g]? = some (.cells cur T (0, 0))) (ht : cur.toList.take (l.length * k) = l.flatMap enc) : HoldsK enc k w g 0 l.toArray := by
  intro t hts
  rw [size_flatK] at hts
  have htl : t < l.length * k := by simpa using hts
  have k0 : 0 < k := by rcases Nat.eq_zero_or_pos k with h | h; · subst h; simp at htl
                        · exact h
  have hj : t / k < l.length := by rw [Nat.div_lt_iff_lt_mul k0]; exact htl
  have hi : t % k < k := Nat.mod_lt _ k0
  refine ⟨?_, ?_⟩
  · rw [get_flatK enc k _ t hts, Nat.zero_add, cell_of_row w g t cur T (0, 0) hg]
    have hf := flat_get hk l (t / k) (t % k) l[t / k] (by simp [hj]) hi
    rw [Nat.div_add_mod' t k, ← ht, List.getElem?_take, if_pos htl] at hf
    have e1 : (enc (l.toArray[t / k]!)) = enc l[t / k] := by rw [getElem!_pos _ _ (by simpa using hj)]; simp
    rw [e1]
    have hl2 : t % k < (enc l[t / k]).length := by rw [hk]; exact hi
    rw [getElem!_pos (enc l[t / k]) (t % k) hl2]
    rw [List.getElem?_eq_getElem hl2] at hf
    simpa using hf
  · simp [World.frozen?, hg]
theorem putCells_take (F cur : Array Value) (h : F.size ≤ cur.size) : (putCells id 0 F cur).size = cur.size ∧ (putCells id 0 F cur).toList.take F.size = F.toList := by
  refine ⟨by simp [putCells], ?_⟩
  apply List.ext_getElem?
  intro i
  rw [List.getElem?_take]
  by_cases hi : i < F.size
  · have hc : i < cur.size := by omega
    rw [if_pos hi, Array.getElem?_toList, Array.getElem?_toList]
    simp only [putCells, Array.getElem?_mapIdx, Array.getElem?_eq_getElem hc, Option.map_some, Nat.zero_le, Nat.zero_add, hi, and_self, if_true, id, Nat.sub_zero, Array.getElem?_eq_getElem hi]
    rw [getElem!_pos F i hi]
  · rw [if_neg hi]
    simp [Array.getElem?_eq_none (Nat.le_of_not_lt hi)]
theorem flatK_toList [Inhabited α] (hk : ∀ x, (enc x).length = k) (d : Array α) : (flatK enc k d).toList = d.toList.flatMap enc := by
  apply List.ext_getElem?
  intro t
  by_cases htl : t < d.size * k
  · have k0 : 0 < k := by rcases Nat.eq_zero_or_pos k with h | h; · subst h; simp at htl
                          · exact h
    have hj : t / k < d.size := by rw [Nat.div_lt_iff_lt_mul k0]; exact htl
    have hi : t % k < k := Nat.mod_lt _ k0
    have hf := flat_get hk d.toList (t / k) (t % k) d[t / k] (by simp [hj]) hi
    rw [Nat.div_add_mod' t k] at hf
    rw [hf, Array.getElem?_toList, Array.getElem?_eq_getElem (by simpa using htl), ← getElem!_pos (flatK enc k d) t (by simpa using htl), get_flatK enc k d t htl]
    rw [getElem!_pos d _ hj]
    have hl2 : t % k < (enc d[t / k]).length := by rw [hk]; exact hi
    rw [List.getElem?_eq_getElem hl2, getElem!_pos (enc d[t / k]) (t % k) hl2]
  · have h1 : (d.toList.flatMap enc).length = d.size * k := by rw [flat_len hk]; simp
    rw [List.getElem?_eq_none (l := d.toList.flatMap enc) (by rw [h1]; omega), List.getElem?_eq_none (by simp; omega)]
theorem ah_heap (w : World) (m : Nat) : (Go.Sort.ahead w m).heap = w.heap := rfl
theorem owns_sortWorld [Inhabited α] (hk : ∀ x, (enc x).length = k) {w : World} {g B : Nat} {T : TypeId} {cur : Array Value} {cap m : Nat} {d : Array α} {os : Array Obj} (hg : w.heap[g]? = some (.cells cur T (0, 0))) (hB : B ≤ g)
    (hn : d.size ≤ cap) (hc : cap ≤ maxLen) (hs : cur.size = cap * k) :
    (sortWorldK enc k w g 0 m d os).ownsRow B T k (.slice (some ⟨g, 0, none⟩) d.size cap) d.size (d.toList.flatMap enc) ∧ w.grownBy (sortWorldK enc k w g 0 m d os) (some g) := by
  have hlt : g < w.heap.size := (Array.getElem?_eq_some_iff.1 hg).1
  have hF : (flatK enc k d).size ≤ cur.size := by rw [size_flatK, hs]; exact Nat.mul_le_mul_right _ hn
  obtain ⟨p1, p2⟩ := putCells_take (flatK enc k d) cur hF
  have hh : (sortWorldK enc k w g 0 m d os).heap[g]? = some (.cells (putCells id 0 (flatK enc k d) cur) T (0, 0)) := by
    simp only [sortWorldK, grow, putRowK, putRow, mapBlock, ah_heap]
    rw [Array.getElem?_append_left (by simpa using hlt), Array.getElem?_modify, if_pos rfl, hg]
    rfl
  refine ⟨⟨by rw [flat_len hk]; simp, Or.inr ⟨g, cap, _, rfl, hB, hh, hn, hc, by rw [p1, hs], ?_⟩⟩, ⟨rfl, rfl, rfl, ?_, fun i hi hne => ?_⟩⟩
  · rw [← flatK_toList hk d, ← p2, size_flatK]
  · simp [sortWorldK, grow, putRowK, putRow, mapBlock]
  · simp only [sortWorldK, grow, putRowK, putRow, mapBlock, ah_heap]
    rw [Array.getElem?_append_left (by simpa using hi), Array.getElem?_modify, if_neg (fun e => hne (by rw [e]))]
end
end
section
open Go.RowKit Go.Sort
attribute [local go_sem] Oper.semAt_some

def pickZ (c n : Int) : Int := if c < 0 then -((c + 1).tmod n) else c % n
theorem wrap_idz {x : Int} (h0 : -9223372036854775808 ≤ x) (h1 : x ≤ 9223372036854775807) : IntKind.i64.wrap x = x := by rw [IntKind.wrap_i64]; omega
theorem pickZ_lt {c n : Int} (hn : 0 < n) : 0 ≤ pickZ c n ∧ pickZ c n < n := by
  unfold pickZ
  split
  · have a3 : 0 ≤ (-(c + 1)).tmod n := Int.tmod_nonneg _ (by omega)
    have a4 : (-(c + 1)).tmod n < n := Int.tmod_lt_of_pos _ hn
    rw [Int.neg_tmod] at a3 a4
    exact ⟨a3, a4⟩
  · exact ⟨Int.emod_nonneg _ (by omega), Int.emod_lt_of_pos _ hn⟩
set_option maxHeartbeats 1000000 in
theorem pickz_any (c n : Int) (w : World) (h0 : -9223372036854775808 ≤ c) (h1 : c ≤ 9223372036854775807) (hn : 0 < n) (hn1 : n ≤ 9223372036854775807) : Calls Tryz.prog 17 #[.int .i64 c, .int .i64 n] w fun e w' => e = .returned (.int .i64 (pickZ c n)) ∧ w = w' := by
  have hn0 : (n == 0) = false := by simp; omega
  have hn2 : ¬ n = 0 := by omega
  by_cases hc : c < 0
  · have hz : pickZ c n = -((c + 1).tmod n) := by unfold pickZ; rw [if_pos hc]
    have a1 : IntKind.i64.wrap (c + 1) = c + 1 := wrap_idz (by omega) (by omega)
    have a2 : IntKind.i64.wrap (-(c + 1)) = -(c + 1) := wrap_idz (by omega) (by omega)
    have a3 : 0 ≤ (-(c + 1)).tmod n := Int.tmod_nonneg _ (by omega)
    have a4 : (-(c + 1)).tmod n < n := Int.tmod_lt_of_pos _ hn
    have a5 : IntKind.i64.wrap ((-(c + 1)).tmod n) = (-(c + 1)).tmod n := wrap_idz (by omega) (by omega)
    have HZ := Lib.hid hz
    clear hz
    go_enter Tryz.func17, Tryz.ntmps17
    go_wp2_with fail
    go_ret
    refine ⟨?_, rfl⟩
    rw [HZ.out]
    first | rfl | simp
  · have hz : pickZ c n = c % n := by unfold pickZ; rw [if_neg hc]
    have a3 : 0 ≤ c.tmod n := Int.tmod_nonneg _ (by omega)
    have a4 : c.tmod n < n := Int.tmod_lt_of_pos _ hn
    have a5 : IntKind.i64.wrap (c.tmod n) = c.tmod n := wrap_idz (by omega) (by omega)
    have HZ := Lib.hid hz
    clear hz
    go_enter Tryz.func17, Tryz.ntmps17
    go_wp2_with fail
    go_ret
    refine ⟨?_, rfl⟩
    rw [HZ.out]
    first | rfl | simp
def I64 (z : Int) : Prop := -9223372036854775808 ≤ z ∧ z ≤ 9223372036854775807
end
section
open Go.RowKit Go.Sort

set_option maxHeartbeats 400000 in
theorem in_any (a b c d x y : Int) (w : World) :
    Calls Tryz.prog 48 #[.agg #[.int .i64 a, .int .i64 b, .int .i64 c, .int .i64 d], .agg #[.int .i64 x, .int .i64 y]] w fun e w' => e = .returned (.bool (inB a b c d x y)) ∧ Gr w w' := by
  unfold inB
  cases h1 : validA a b c d
  all_goals
    go_enter Tryz.func48, Tryz.ntmps48
    go_wp2_with (go_at_call 74; refine (validArea_any _ _ _ _ _).mono ?_; rintro e w' ⟨rfl, hg⟩; obtain ⟨hgc, hgf⟩ := hg.xt.cells; have hgz := hg.xt.sz)
    all_goals (go_ret; refine ⟨by congr 2; try (simp [*]; try omega), Gr.trans (((Gr.refl _).alloc _).alloc _) (by assumption)⟩)

set_option maxRecDepth 100000 in
set_option maxHeartbeats 2000000 in
theorem weight_any : ∀ (n : Nat) (t : NodeT) (a : Option Addr) (cap : Nat) (m : Int) (w : World), 0 ≤ m → m ≤ 1048576 → ArgsIn w n (.slice a t.args.length cap) t.args →
    Calls Tryz.prog 16 #[nodeV t a t.args.length cap, .int .i64 m] w fun e w' => e = .returned (.int .i64 (weightT t m)) ∧ Gr w w' := by
  intro n
  induction n using Nat.strongRecOn with
  | ind n ih =>
    intro t a cap m w h0 h1 hin
    have HIN := Lib.hid hin
    obtain ⟨_, _, he, q1, q2⟩ := hin.shape
    cases he
    have IH := Lib.hid ih
    obtain ⟨w0, hw0, hg0, hs0, hN⟩ := boxN w t a t.args.length cap 44
    have HG0 := Lib.hid hg0
    have HN := Lib.hid hN
    have c14 := hN.c14
    have HW : Hid (weightL (t.args.drop 0) 1 m = weightT t m) := by rw [List.drop_zero, weightT_eq]; rfl
    clear hin hN hg0 ih
    go_enter Tryz.func16, Tryz.ntmps16
    go_wp2_with fail
    clear hw0
    go_loopw [5, 6] (fun s5 s6 wr => ∃ (i : Nat) (all : Int), i ≤ t.args.length ∧ s6 = .int .i64 i ∧ s5 = .int .i64 all ∧ 1 ≤ all ∧ all ≤ 1048577 ∧ Hid (weightL (t.args.drop i) all m = weightT t m) ∧ Hid (Gr w0 wr)) (fun _ s6 _ => t.args.length - (intOf s6).toNat)
    case atStart => exact ⟨0, 1, Nat.zero_le _, rfl, rfl, by omega, by omega, HW, Gr.refl _⟩
    case round =>
      obtain ⟨i, all, hi, rfl, rfl, h2, h3, HWi, HG⟩ := hrel
      have c14r := (HG.out.xt.cells).1 w.heap.size 14 (by omega)
      rw [Nat.zero_add] at c14
      rw [c14] at c14r
      by_cases hlt : i < t.args.length
      · have hii : (i : Int) < (t.args.length : Int) := by omega
        obtain ⟨x, hx⟩ : ∃ x, t.args[i]? = some x := ⟨t.args[i], by simp [hlt]⟩
        have hdr := drop_at hx
        by_cases hle : all ≤ m
        · obtain ⟨n', b, off, a', c', hn, rfl, hA, hI⟩ := HIN.out.at hx
          have hxw : Xt w wr := HG0.out.xt.trans HG.out.xt
          have hAr := hA.xt hxw
          obtain ⟨d0, d1, d2, d3, d4, d5, d6, d7, d8, d9, d10, d11, d12, d13, d14⟩ := hAr
          have hsub : wrap64 (m - all) = m - all := wrap_small (by omega) (by omega)
          have hcall := IH.out n' (by omega) x a' c' (m - all) wr (by omega) (by omega) (hI.xt hxw)
          have hwt := weightT_le x (m - all) (by omega)
          have HSTEP : Hid (weightL (t.args.drop (i + 1)) (all + weightT x (m - all)) m = weightT t m) := by
            have h := HWi.out
            rw [hdr] at h
            simp only [weightL, if_pos hle] at h
            exact h
          have HCALL := Lib.hid hcall
          generalize hwx : weightT x (m - all) = wx at hwt HSTEP
          have hadd : wrap64 (all + wx) = all + wx := wrap_small (by omega) (by omega)
          have HWX := Lib.hid hwx
          clear hx hdr hA hI hn hcall hwx hxw
          go_wp2_with fail
          refine (HCALL.out).mono ?_
          rintro e w2 ⟨rfl, hg2⟩
          rw [HWX.out]
          have HG2 := Lib.hid hg2
          clear hg2 d0 d1 d2 d3 d4 d5 d6 d7 d8 d9 d10 d11 d12 d13 d14 hsub
          go_wp2_with fail
          go_roundw
          case rel => exact ⟨i + 1, all + wx, by omega, by go_num, rfl, by omega, by omega, HSTEP, HG.out.trans HG2.out⟩
          case measure => simp [intOf]; omega
        · have HE : Hid (all = weightT t m) := by
            have h := HWi.out
            rw [hdr] at h
            simp only [weightL, if_neg hle] at h
            exact h
          clear hx hdr
          go_wp2_with fail
          go_ret
          exact ⟨congrArg (fun z => Ending.returned (.int .i64 z)) HE.out, HG0.out.trans HG.out⟩
      · have HE : Hid (all = weightT t m) := by
          have h := HWi.out
          rw [List.drop_eq_nil_of_le (by omega)] at h
          simp only [weightL] at h
          exact h
        go_wp2_with fail
        go_ret
        exact ⟨congrArg (fun z => Ending.returned (.int .i64 z)) HE.out, HG0.out.trans HG.out⟩
end
end Go.Proofs.YtideclfpbpjebaaGreatDoor
