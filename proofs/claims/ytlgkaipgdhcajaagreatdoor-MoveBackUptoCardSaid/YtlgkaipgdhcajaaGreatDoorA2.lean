import Derived.Test.YtlgkaipgdhcajaaGreatDoorA1
import Derived.Deep.RegionHeld
import Derived.Laws.FloatArith
namespace Go.Proofs.YtlgkaipgdhcajaaGreatDoor
open Go.RowKit Go.Sort

/-! ### formula.Copy: what a round leaves -/
abbrev copyV (t : NodeT) (a : Option Addr) (n cap : Nat) : Value := .agg #[.int .i64 t.kind, .int .i64 t.op, .float .f64 (oneX t.x), .string t.s, .bool t.b, .int .i64 t.f, .int .i64 t.ref.a.1, .int .i64 t.ref.a.2, .bool t.ref.cf, .bool t.ref.rf, .int .i64 t.to.a.1, .int .i64 t.to.a.2, .bool t.to.cf, .bool t.to.rf, .slice a n cap]
/-- The rows that a round has laid. -/
structure CopyRows (wr : World) (S : Nat) (n : Nat) (ob : Option Nat) (l : List NodeT) (R : List (NodeT × Value)) : Prop where
  fst : R.map Prod.fst = copyL l
  args : ∀ (k : Nat) (r : NodeT × Value), R[k]? = some r → ∃ n', n = n' + 1 ∧ ArgsS (fun b => S ≤ b ∧ ob ≠ some b) wr n' r.2 r.1.args
/-- Copy's state: B its box, B + 1 the cell of its result. -/
structure CopySt (w : World) (n : Nat) (t2 : NodeT) (l : List NodeT) (wr : World) (i : Nat) (va : Option Addr) (vn vc : Nat) : Prop where
  box : NodeAt wr w.heap.size 0 t2 va vn vc
  f14 : wr.frozen? ⟨w.heap.size, 14, none⟩ = false
  res : ∃ cs, wr.heap[w.heap.size + 1]? = some (.cells cs 29 (0, 0)) ∧ cs.size = 15
  ob : ∀ g, (Value.slice va vn vc).ownBlock = some g → w.heap.size + 2 ≤ g
  rows : ∃ R, wr.ownsRow 0 29 15 (.slice va vn vc) i (R.flatMap rowC) ∧ CopyRows wr (w.heap.size + 2) n (Value.slice va vn vc).ownBlock (l.take i) R
  xt : Xt w wr
theorem infoNode : (Tryz.prog.info? 29).map (fun i => (i.zero, i.size, i.bytes)) = some (some (.agg #[.int .i64 0, .int .i64 0, .float .f64 0, .string ⟨#[]⟩, .bool false, .int .i64 0, .int .i64 0, .int .i64 0, .bool false, .bool false, .int .i64 0, .int .i64 0, .bool false, .bool false, .slice none 0 0]), 15, 128) := by kernel_rfl
theorem Xt.grownB {a b c : World} {r : Option Nat} (h : Xt a b) (k : b.grownBy c r) (hm : ∀ m, r = some m → a.heap.size ≤ m) : Xt a c := Below.grown h k h.size hm
theorem setCell_grown (w : World) (g o : Nat) (v : Value) : w.grownBy (w.setCell ⟨g, o, none⟩ v) (some g) := ⟨rfl, rfl, rfl, by simp, fun k _ hk => Below.heap_setCell _ _ _ _ (fun e => hk (by rw [e]))⟩
theorem cell_drewN (w : World) (a : Addr) : w.drew.cell? a = w.cell? a := rfl
theorem nodeC_one (t : NodeT) (v : Value) (hv : v.oneCell' = true) : ∀ u ∈ nodeC t v, u.oneCell' = true := by
  intro u hu
  simp only [nodeC, List.mem_cons, List.not_mem_nil, or_false] at hu
  rcases hu with h | h | h | h | h | h | h | h | h | h | h | h | h | h | h <;> subst h <;> first | rfl | exact hv
theorem ownsRow_base {w : World} {e : TypeId} {size : Nat} {v : Value} {n : Nat} {xs : List Value} (h : w.ownsRow 0 e size v n xs) : ∃ a c, v = .slice a n c ∧ n ≤ c ∧ c ≤ 9223372036854775807 := by
  rcases h.2 with ⟨rfl, rfl⟩ | ⟨g, cap, cur, rfl, _, _, h1, h2, _⟩
  · exact ⟨_, _, rfl, Nat.le_refl _, by omega⟩
  · exact ⟨_, _, rfl, h1, by simp only [maxLen] at h2; omega⟩
theorem NodeAt.keep {w w' : World} {b o : Nat} {t : NodeT} {a : Option Addr} {n cap : Nat} (h : NodeAt w b o t a n cap) (e : ∀ o, w'.cell? ⟨b, o, none⟩ = w.cell? ⟨b, o, none⟩) : NodeAt w' b o t a n cap :=
  ⟨(e _).trans h.c0, (e _).trans h.c1, (e _).trans h.c2, (e _).trans h.c3, (e _).trans h.c4, (e _).trans h.c5, (e _).trans h.c6, (e _).trans h.c7, (e _).trans h.c8, (e _).trans h.c9, (e _).trans h.c10, (e _).trans h.c11, (e _).trans h.c12, (e _).trans h.c13, (e _).trans h.c14⟩
/-- Where the loop begins. -/
theorem copy_start {w w0 : World} {t : NodeT} {a : Option Addr} {m cap : Nat} (n ox : Nat) (l : List NodeT) (hc : NodeAt w0 w.heap.size 0 t a m cap) (hs : w0.heap.size = w.heap.size + 1) (hf : w0.frozen? ⟨w.heap.size, 14, none⟩ = false) (hg : Gr w w0) :
    CopySt w n (.mk t.kind t.op ox t.s t.b t.f t.ref t.to t.args) l (((w0.setCell ⟨w.heap.size, 2, none⟩ (.float .f64 ox)).setCell ⟨w.heap.size, 14, none⟩ (.slice none 0 0)).alloc (.cells #[.int .i64 0, .int .i64 0, .float .f64 0, .string ⟨#[]⟩, .bool false, .int .i64 0, .int .i64 0, .int .i64 0, .bool false, .bool false, .int .i64 0, .int .i64 0, .bool false, .bool false, .slice none 0 0] 29)) 0 none 0 0 := by
  obtain ⟨w1, hw1⟩ : ∃ w1, w0.setCell ⟨w.heap.size, 2, none⟩ (.float .f64 ox) = w1 := ⟨_, rfl⟩
  rw [hw1]
  obtain ⟨w2, hw2⟩ : ∃ w2, w1.setCell ⟨w.heap.size, 14, none⟩ (.slice none 0 0) = w2 := ⟨_, rfl⟩
  rw [hw2]
  have s1 : w1.heap.size = w.heap.size + 1 := by rw [← hw1]; simpa using hs
  have s2 : w2.heap.size = w.heap.size + 1 := by rw [← hw2]; simpa using s1
  have k1 : ∀ o v, o ≠ 2 → w0.cell? ⟨w.heap.size, o, none⟩ = some v → w1.cell? ⟨w.heap.size, o, none⟩ = some v := fun o v ho h => by
    rw [← hw1]; exact (World.cell?_setCell_other w0 _ _ _ (by intro e; cases e; exact ho rfl)).trans h
  have k2 : ∀ o v, o ≠ 14 → w1.cell? ⟨w.heap.size, o, none⟩ = some v → w2.cell? ⟨w.heap.size, o, none⟩ = some v := fun o v ho h => by
    rw [← hw2]; exact (World.cell?_setCell_other w1 _ _ _ (by intro e; cases e; exact ho rfl)).trans h
  have k3 : ∀ o v (ob : Obj), w2.cell? ⟨w.heap.size, o, none⟩ = some v → (w2.alloc ob).cell? ⟨w.heap.size, o, none⟩ = some v := fun o v ob h =>
    (World.cell?_of_block (w := w2) (a := ⟨w.heap.size, o, none⟩) (Below.heap_alloc w2 ob _ (by show w.heap.size < _; omega))).trans h
  have x1 : Xt w w1 := by rw [← hw1]; exact hg.xt.grownB (setCell_grown _ _ _ _) (fun m hm => by cases hm; exact Nat.le_refl _)
  have x2 : Xt w w2 := by rw [← hw2]; exact x1.grownB (setCell_grown _ _ _ _) (fun m hm => by cases hm; exact Nat.le_refl _)
  refine ⟨⟨?_, ?_, ?_, ?_, ?_, ?_, ?_, ?_, ?_, ?_, ?_, ?_, ?_, ?_, ?_⟩, ?_, ?_, fun g hg => (by cases hg), ⟨[], ?_, ?_, fun k r hk => (by simp at hk)⟩, x2.alloc _⟩
  · exact k3 _ _ _ (k2 _ _ (by omega) (k1 _ _ (by omega) hc.c0))
  · exact k3 _ _ _ (k2 _ _ (by omega) (k1 _ _ (by omega) hc.c1))
  · refine k3 _ _ _ (k2 _ _ (by omega) ?_)
    rw [← hw1, Nat.zero_add]; exact World.cell?_setCell_same' w0 _ _ (by have := hc.c2; rw [Nat.zero_add] at this; rw [this]; rfl)
  · exact k3 _ _ _ (k2 _ _ (by omega) (k1 _ _ (by omega) hc.c3))
  · exact k3 _ _ _ (k2 _ _ (by omega) (k1 _ _ (by omega) hc.c4))
  · exact k3 _ _ _ (k2 _ _ (by omega) (k1 _ _ (by omega) hc.c5))
  · exact k3 _ _ _ (k2 _ _ (by omega) (k1 _ _ (by omega) hc.c6))
  · exact k3 _ _ _ (k2 _ _ (by omega) (k1 _ _ (by omega) hc.c7))
  · exact k3 _ _ _ (k2 _ _ (by omega) (k1 _ _ (by omega) hc.c8))
  · exact k3 _ _ _ (k2 _ _ (by omega) (k1 _ _ (by omega) hc.c9))
  · exact k3 _ _ _ (k2 _ _ (by omega) (k1 _ _ (by omega) hc.c10))
  · exact k3 _ _ _ (k2 _ _ (by omega) (k1 _ _ (by omega) hc.c11))
  · exact k3 _ _ _ (k2 _ _ (by omega) (k1 _ _ (by omega) hc.c12))
  · exact k3 _ _ _ (k2 _ _ (by omega) (k1 _ _ (by omega) hc.c13))
  · refine k3 _ _ _ ?_
    have h14 := k1 _ _ (by omega) hc.c14
    rw [Nat.zero_add] at h14
    rw [← hw2, Nat.zero_add]; exact World.cell?_setCell_same' w1 _ _ (by rw [h14]; rfl)
  · have q1 : w1.frozen? ⟨w.heap.size, 14, none⟩ = false := by rw [← hw1]; simp [hf]
    have q2 : w2.frozen? ⟨w.heap.size, 14, none⟩ = false := by rw [← hw2]; simp [q1]
    exact (World.frozen?_of_block (w := w2) (a := ⟨w.heap.size, 14, none⟩) (Below.heap_alloc w2 _ _ (by show w.heap.size < _; omega))).trans q2
  · rw [← s2]; exact ⟨_, (MapKept.heap_alloc w2 _).1, rfl⟩
  · exact World.ownsRow_nil _ _ _ _
  · rfl
/-- The child's box is pushed. -/
theorem copy_push {w wr w6 : World} {n n' i : Nat} {t2 x : NodeT} {l : List NodeT} {va a' : Option Addr} {vn vc : Nat} (hn : n = n' + 1) (h : CopySt w n t2 l wr i va vn vc) (hx : l[i]? = some x) (hl : l.length ≤ 1099511627744) (h6 : Xt wr w6)
    (hA : ArgsS (fun b => wr.heap.size ≤ b) w6 n' (.slice a' x.args.length x.args.length) (copyL x.args)) (wA : World) (hwA : w6.alloc (.cells #[.int .i64 x.kind, .int .i64 x.op, .float .f64 (oneX x.x), .string x.s, .bool x.b, .int .i64 x.f, .int .i64 x.ref.a.1, .int .i64 x.ref.a.2, .bool x.ref.cf, .bool x.ref.rf, .int .i64 x.to.a.1, .int .i64 x.to.a.2, .bool x.to.cf, .bool x.to.rf, .slice a' x.args.length x.args.length] 29) = wA) :
    ∃ va' vn' vc' w7, (Builtin.append_ #[27, 27] 27 #[.slice va vn vc, .slice (some ⟨w6.heap.size, 0, none⟩) 1 1]).run Tryz.prog wA = .ok (.slice va' vn' vc') w7 ∧ Xt w w6 ∧ Xt w wA ∧ Xt w w7 ∧ Xt w (w7.setCell ⟨w.heap.size, 14, none⟩ (.slice va' vn' vc')) ∧ (w6.cell? ⟨w.heap.size, 14, none⟩ = some (.slice va vn vc) ∧ wA.cell? ⟨w.heap.size, 14, none⟩ = some (.slice va vn vc) ∧ w7.cell? ⟨w.heap.size, 14, none⟩ = some (.slice va vn vc)) ∧ w7.frozen? ⟨w.heap.size, 14, none⟩ = false ∧ (∀ b o, wr.heap.size ≤ b → b < wA.heap.size → w7.cell? ⟨b, o, none⟩ = wA.cell? ⟨b, o, none⟩ ∧ (w7.setCell ⟨w.heap.size, 14, none⟩ (.slice va' vn' vc')).cell? ⟨b, o, none⟩ = wA.cell? ⟨b, o, none⟩) ∧
      CopySt w n t2 l (w7.setCell ⟨w.heap.size, 14, none⟩ (.slice va' vn' vc')) (i + 1) va' vn' vc' := by
  obtain ⟨i0, hi, hz0, hz1, hz2⟩ := info_parts infoNode
  obtain ⟨hbox, hf14, ⟨cs, hres, hcs⟩, hob, ⟨R, hown, hRf, hRa⟩, hxt⟩ := h
  have hil : i < l.length := (List.getElem?_eq_some_iff.1 hx).1
  have hBr : w.heap.size < wr.heap.size := World.block_lt_of_cell? wr _ hbox.c0
  have hB1 : w.heap.size + 1 < wr.heap.size := (Array.getElem?_eq_some_iff.1 hres).1
  have h6s := h6.sz
  have hxtA : Xt wr wA := by rw [← hwA]; exact h6.alloc _
  have hAs : wA.heap.size = w6.heap.size + 1 := by rw [← hwA]; simp
  have hRl : R.length = i := by
    have := congrArg List.length hRf
    rw [copyL_map] at this
    simp at this; omega
  have hownA : wA.ownsRow 0 29 15 (.slice va vn vc) i (R.flatMap rowC) :=
    World.ownsRow.kept hown (row := none) ⟨hxtA.os, hxtA.tape, hxtA.output, hxtA.size, fun k hk _ => hxtA.block k hk⟩ (by
      cases (Value.slice va vn vc).ownBlock with
      | none => exact Or.inl rfl
      | some q => exact Or.inr (by simp))
  have hnews : ∀ (j : Nat) (u : Value), (nodeC (copyT x) (.slice a' x.args.length x.args.length))[j]? = some u → wA.cell? ((⟨w6.heap.size, 0, none⟩ : Addr).add j) = some u := by
    rw [← hwA]
    have := news_at w6 (nodeC (copyT x) (.slice a' x.args.length x.args.length)) 29 (b := w6.heap.size) rfl
    cases x
    exact this
  obtain ⟨v', w7, hpush, hown7, hg7, hwh⟩ := run_append_where (P := Tryz.prog) wA 27 27 29 i0 _ 15 128 Tryz.underlying27 hi hz0 hz1 hz2 rfl (by decide) (.slice va vn vc) i (R.flatMap rowC) hownA ⟨w6.heap.size, 0, none⟩ 1 1 (nodeC (copyT x) (.slice a' x.args.length x.args.length)) rfl hnews (nodeC_one _ _ rfl) (by unfold maxLen; omega) (by omega)
  obtain ⟨va', vc', rfl, hvc1, hvc2⟩ := ownsRow_base hown7
  have hobl : ∀ g, (Value.slice va vn vc).ownBlock = some g → g < wr.heap.size := fun g hg => (World.ownsRow.lt hown g hg).2
  have hob' : ∀ g, (Value.slice va' (i + 1) vc').ownBlock = some g → w.heap.size + 2 ≤ g ∧ g < w7.heap.size := by
    intro g hg
    have hlt := (World.ownsRow.lt hown7 g hg).2
    rcases hwh with e | e
    · rw [e] at hg; exact ⟨hob g hg, hlt⟩
    · have := e g hg; exact ⟨by omega, hlt⟩
  have hx7 : Xt w w7 := (hxt.trans hxtA).grownB hg7 (fun m hm => by have := hob m hm; omega)
  have hn0 : (Value.slice va vn vc).ownBlock ≠ some w.heap.size := fun e => by have := hob _ e; omega
  have hn1 : (Value.slice va vn vc).ownBlock ≠ some (w.heap.size + 1) := fun e => by have := hob _ e; omega
  have k7 : ∀ b o, b < wr.heap.size → (Value.slice va vn vc).ownBlock ≠ some b → w7.cell? ⟨b, o, none⟩ = wr.cell? ⟨b, o, none⟩ := fun b o hb hne =>
    (World.cell?_of_block (w := wA) (a := ⟨b, o, none⟩) (hg7.block b (by omega) (fun e => hne e.symm))).trans ((hxtA.cells).1 b o hb)
  have hc14 := (k7 w.heap.size 14 hBr hn0).trans hbox.c14
  have hcell : ∀ o v, o ≠ 14 → wr.cell? ⟨w.heap.size, o, none⟩ = some v → (w7.setCell ⟨w.heap.size, 14, none⟩ (.slice va' (i + 1) vc')).cell? ⟨w.heap.size, o, none⟩ = some v := fun o v ho hv =>
    (World.cell?_setCell_other w7 _ _ _ (by intro e; cases e; exact ho rfl)).trans ((k7 _ o hBr hn0).trans hv)
  have hf7 : w7.frozen? ⟨w.heap.size, 14, none⟩ = false :=
    (World.frozen?_of_block (w := wr) (a := ⟨w.heap.size, 14, none⟩) ((hg7.block _ (by omega) (fun e => hn0 e.symm)).trans (hxtA.block _ hBr))).trans hf14
  have k8 : ∀ b, b < wr.heap.size → b ≠ w.heap.size → (Value.slice va vn vc).ownBlock ≠ some b → (w7.setCell ⟨w.heap.size, 14, none⟩ (.slice va' (i + 1) vc')).heap[b]? = wr.heap[b]? := fun b hb hne hob =>
    (Below.heap_setCell _ _ _ _ hne).trans ((hg7.block b (by omega) (fun e => hob e.symm)).trans (hxtA.block b hb))
  refine ⟨va', i + 1, vc', w7, hpush, hxt.trans h6, hxt.trans hxtA, hx7, hx7.grownB (setCell_grown _ _ _ _) (fun m hm => by cases hm; exact Nat.le_refl _), ⟨((h6.cells).1 _ _ hBr).trans hbox.c14, ((hxtA.cells).1 _ _ hBr).trans hbox.c14, hc14⟩, hf7, fun b o hb hl => ?_, ?_⟩
  · have e7 : w7.cell? ⟨b, o, none⟩ = wA.cell? ⟨b, o, none⟩ := World.cell?_of_block (w := wA) (a := ⟨b, o, none⟩) (hg7.block b hl (fun e => by have := hobl b e.symm; omega))
    exact ⟨e7, (World.cell?_setCell_far _ _ _ _ (by show w.heap.size ≠ b; omega)).trans e7⟩
  refine ⟨⟨?_, ?_, ?_, ?_, ?_, ?_, ?_, ?_, ?_, ?_, ?_, ?_, ?_, ?_, ?_⟩, ?_, ?_, fun g hg => (hob' g hg).1, ?_, hx7.grownB (setCell_grown _ _ _ _) (fun m hm => by cases hm; exact Nat.le_refl _)⟩
  · exact hcell _ _ (by omega) hbox.c0
  · exact hcell _ _ (by omega) hbox.c1
  · exact hcell _ _ (by omega) hbox.c2
  · exact hcell _ _ (by omega) hbox.c3
  · exact hcell _ _ (by omega) hbox.c4
  · exact hcell _ _ (by omega) hbox.c5
  · exact hcell _ _ (by omega) hbox.c6
  · exact hcell _ _ (by omega) hbox.c7
  · exact hcell _ _ (by omega) hbox.c8
  · exact hcell _ _ (by omega) hbox.c9
  · exact hcell _ _ (by omega) hbox.c10
  · exact hcell _ _ (by omega) hbox.c11
  · exact hcell _ _ (by omega) hbox.c12
  · exact hcell _ _ (by omega) hbox.c13
  · rw [Nat.zero_add]; exact World.cell?_setCell_same' w7 _ _ (by rw [hc14]; rfl)
  · simp [hf7]
  · exact ⟨cs, (k8 _ hB1 (by omega) hn1).trans hres, hcs⟩
  · have e7 : (R ++ [(copyT x, Value.slice a' x.args.length x.args.length)]).flatMap rowC = R.flatMap rowC ++ nodeC (copyT x) (.slice a' x.args.length x.args.length) := by simp [rowC]
    refine ⟨R ++ [(copyT x, .slice a' x.args.length x.args.length)], ?_, ?_, ?_⟩
    · rw [e7]
      exact ownsRow_setCell_other hown7 (a := ⟨w.heap.size, 14, none⟩) (fun e => by have := (hob' _ e).1; simp at this; omega) _
    · rw [List.map_append, hRf, copyL_map, copyL_map, List.take_add_one, hx]; simp
    · intro k r hk
      have hk7 : ∀ b o, b < wr.heap.size → b ≠ w.heap.size → (Value.slice va vn vc).ownBlock ≠ some b → (w7.setCell ⟨w.heap.size, 14, none⟩ (.slice va' (i + 1) vc')).cell? ⟨b, o, none⟩ = wr.cell? ⟨b, o, none⟩ := fun b o hb hne hob =>
        World.cell?_of_block (w := wr) (a := ⟨b, o, none⟩) (k8 b hb hne hob)
      have hobn : ∀ b, b < w6.heap.size → (Value.slice va vn vc).ownBlock ≠ some b → (Value.slice va' (i + 1) vc').ownBlock ≠ some b := by
        intro b hb hne e
        rcases hwh with e' | e'
        · rw [e'] at e; exact hne e
        · have := e' b e; omega
      by_cases hkl : k < R.length
      · rw [List.getElem?_append_left hkl] at hk
        obtain ⟨n1, hn1', hAk⟩ := hRa k r hk
        exact ⟨n1, hn1', hAk.keep (fun b hb hlt => ⟨hb.1, hobn b (by omega) hb.2⟩) (fun b o hb hlt => hk7 b o hlt (by omega) hb.2)⟩
      · rw [List.getElem?_append_right (by omega)] at hk
        have hk0 : k - R.length = 0 := by
          rcases Nat.eq_zero_or_pos (k - R.length) with e | e
          · exact e
          · rw [List.getElem?_eq_none (by simp; omega)] at hk; cases hk
        rw [hk0] at hk
        simp only [List.getElem?_cons_zero, Option.some.injEq] at hk
        subst hk
        refine ⟨n', hn, ?_⟩
        have hk6 : ∀ b o, wr.heap.size ≤ b → b < w6.heap.size → (w7.setCell ⟨w.heap.size, 14, none⟩ (.slice va' (i + 1) vc')).cell? ⟨b, o, none⟩ = w6.cell? ⟨b, o, none⟩ := by
          intro b o hb hlt
          refine World.cell?_of_block (w := w6) (a := ⟨b, o, none⟩) ?_
          refine (Below.heap_setCell _ _ _ _ (by show b ≠ w.heap.size; omega)).trans ((hg7.block b (by omega) (fun e => by have := hobl b e.symm; omega)).trans ?_)
          rw [← hwA]
          exact Below.heap_alloc w6 _ b hlt
        have hA2 : ArgsS (fun b => wr.heap.size ≤ b) w6 n' (.slice a' x.args.length x.args.length) (copyT x).args := by cases x; exact hA
        exact hA2.keep (fun b hb hlt => ⟨by omega, hobn b hlt (fun e => by have := hobl b e; omega)⟩) (fun b o hb hlt => hk6 b o hb hlt)
/-- All are pushed. -/
theorem copy_end {w wr w' : World} {n : Nat} {t2 : NodeT} {l : List NodeT} {va : Option Addr} {vn vc : Nat} (h : CopySt w n t2 l wr l.length va vn vc) (hk : ∀ b o, w.heap.size + 2 ≤ b → b < wr.heap.size → w'.cell? ⟨b, o, none⟩ = wr.cell? ⟨b, o, none⟩) :
    vn = l.length ∧ l.length ≤ vc ∧ vc ≤ 9223372036854775807 ∧ ArgsS (fun b => w.heap.size ≤ b) w' n (.slice va l.length l.length) (copyL l) := by
  obtain ⟨_, _, _, hob, ⟨R, hown, hRf, hRa⟩, _⟩ := h
  obtain ⟨a2, c2, e, h1, h2⟩ := ownsRow_base hown
  cases e
  refine ⟨rfl, h1, h2, ?_⟩
  rw [List.take_length] at hRf
  have hRl : R.length = l.length := by have := congrArg List.length hRf; rw [copyL_map] at this; simpa using this
  have hcl : (copyL l).length = l.length := by rw [copyL_map]; simp
  cases n with
  | zero =>
    cases R with
    | nil =>
      have : l = [] := List.eq_nil_of_length_eq_zero (by rw [← hRl]; rfl)
      subst this
      exact ⟨rfl, _, _, rfl, by simp⟩
    | cons r R => obtain ⟨n', hn, _⟩ := hRa 0 r rfl; cases hn
  | succ n =>
    refine ⟨va, l.length, by rw [hcl], by rw [hcl]; exact Nat.le_refl _, by omega, fun hne => ?_⟩
    have hlne : l ≠ [] := fun e => hne (by subst e; rfl)
    rcases hown.2 with ⟨_, h0⟩ | ⟨g, cap, cur, e, _⟩
    · exact absurd (List.length_eq_zero_iff.1 h0) hlne
    · cases e
      have hg2 := hob g rfl
      have hgl := (World.ownsRow.lt hown g rfl).2
      refine ⟨g, 0, rfl, by omega, fun k t ht => ?_⟩
      rw [← hRf, List.getElem?_map] at ht
      obtain ⟨r, hr, rfl⟩ := Option.map_eq_some_iff.1 ht
      obtain ⟨n', hn', hA⟩ := hRa k r hr
      cases hn'
      refine ⟨r.2, fun i u hu => ?_, hA.keep (fun b hb _ => by have := hb.1; omega) (fun b o hb hlt => hk b o hb.1 hlt)⟩
      have hi : i < 15 := (List.getElem?_eq_some_iff.1 hu).1
      have hf := rflat_at rowC 15 rowC_len R k i r hr hi
      have := World.ownsRow.cells hown (g := g) rfl (k * 15 + i) u (hf.trans hu)
      rw [Nat.zero_add, hk g _ hg2 hgl]
      rw [← this, Addr.add_lit, Nat.zero_add]
theorem row_frozen {w : World} {b : Nat} {cs : Array Value} {T : TypeId} (h : w.heap[b]? = some (.cells cs T (0, 0))) : w.frozen? ⟨b, 0, none⟩ = false ∧ w.frozen? ⟨b, 1, none⟩ = false ∧ w.frozen? ⟨b, 2, none⟩ = false ∧ w.frozen? ⟨b, 3, none⟩ = false ∧ w.frozen? ⟨b, 4, none⟩ = false ∧ w.frozen? ⟨b, 5, none⟩ = false ∧ w.frozen? ⟨b, 6, none⟩ = false ∧ w.frozen? ⟨b, 7, none⟩ = false ∧ w.frozen? ⟨b, 8, none⟩ = false ∧ w.frozen? ⟨b, 9, none⟩ = false ∧ w.frozen? ⟨b, 10, none⟩ = false ∧ w.frozen? ⟨b, 11, none⟩ = false ∧ w.frozen? ⟨b, 12, none⟩ = false ∧ w.frozen? ⟨b, 13, none⟩ = false ∧ w.frozen? ⟨b, 14, none⟩ = false := by
  have hk : ∀ o, w.frozen? ⟨b, o, none⟩ = false := fun o => by simp [World.frozen?, h]
  exact ⟨hk 0, hk 1, hk 2, hk 3, hk 4, hk 5, hk 6, hk 7, hk 8, hk 9, hk 10, hk 11, hk 12, hk 13, hk 14⟩
theorem row_there {w : World} {b : Nat} {cs : Array Value} {T : TypeId} (h : w.heap[b]? = some (.cells cs T (0, 0))) (hs : cs.size = 15) : ∃ v0 v1 v2 v3 v4 v5 v6 v7 v8 v9 v10 v11 v12 v13 v14, w.cell? ⟨b, 0, none⟩ = some v0 ∧ w.cell? ⟨b, 1, none⟩ = some v1 ∧ w.cell? ⟨b, 2, none⟩ = some v2 ∧ w.cell? ⟨b, 3, none⟩ = some v3 ∧ w.cell? ⟨b, 4, none⟩ = some v4 ∧ w.cell? ⟨b, 5, none⟩ = some v5 ∧ w.cell? ⟨b, 6, none⟩ = some v6 ∧ w.cell? ⟨b, 7, none⟩ = some v7 ∧ w.cell? ⟨b, 8, none⟩ = some v8 ∧ w.cell? ⟨b, 9, none⟩ = some v9 ∧ w.cell? ⟨b, 10, none⟩ = some v10 ∧ w.cell? ⟨b, 11, none⟩ = some v11 ∧ w.cell? ⟨b, 12, none⟩ = some v12 ∧ w.cell? ⟨b, 13, none⟩ = some v13 ∧ w.cell? ⟨b, 14, none⟩ = some v14 := by
  have hk : ∀ o, o < 15 → w.cell? ⟨b, o, none⟩ = some (cs.getD o undef) := fun o ho => by simp [World.cell?, h, hs, ho]
  exact ⟨_, _, _, _, _, _, _, _, _, _, _, _, _, _, _, hk 0 (by omega), hk 1 (by omega), hk 2 (by omega), hk 3 (by omega), hk 4 (by omega), hk 5 (by omega), hk 6 (by omega), hk 7 (by omega), hk 8 (by omega), hk 9 (by omega), hk 10 (by omega), hk 11 (by omega), hk 12 (by omega), hk 13 (by omega), hk 14 (by omega)⟩
theorem setCell_row {w : World} {b : Nat} {cs : Array Value} {T : TypeId} {fz : Nat × Nat} (h : w.heap[b]? = some (.cells cs T fz)) (o : Nat) (v : Value) : (w.setCell ⟨b, o, none⟩ v).heap[b]? = some (.cells (cs.setIfInBounds o v) T fz) := by
  simp [World.setCell, Array.getElem?_modify, h]
theorem row15 {cs : Array Value} (h : cs.size = 15) (v0 v1 v2 v3 v4 v5 v6 v7 v8 v9 v10 v11 v12 v13 v14 : Value) : (((((((((((((((cs.setIfInBounds 0 v0).setIfInBounds 1 v1).setIfInBounds 2 v2).setIfInBounds 3 v3).setIfInBounds 4 v4).setIfInBounds 5 v5).setIfInBounds 6 v6).setIfInBounds 7 v7).setIfInBounds 8 v8).setIfInBounds 9 v9).setIfInBounds 10 v10).setIfInBounds 11 v11).setIfInBounds 12 v12).setIfInBounds 13 v13).setIfInBounds 14 v14) = #[v0, v1, v2, v3, v4, v5, v6, v7, v8, v9, v10, v11, v12, v13, v14] := by
  obtain ⟨l⟩ := cs
  have h' : l.length = 15 := h
  rcases l with _ | ⟨a0, l⟩
  · simp at h'
  rcases l with _ | ⟨a1, l⟩
  · simp at h'
  rcases l with _ | ⟨a2, l⟩
  · simp at h'
  rcases l with _ | ⟨a3, l⟩
  · simp at h'
  rcases l with _ | ⟨a4, l⟩
  · simp at h'
  rcases l with _ | ⟨a5, l⟩
  · simp at h'
  rcases l with _ | ⟨a6, l⟩
  · simp at h'
  rcases l with _ | ⟨a7, l⟩
  · simp at h'
  rcases l with _ | ⟨a8, l⟩
  · simp at h'
  rcases l with _ | ⟨a9, l⟩
  · simp at h'
  rcases l with _ | ⟨a10, l⟩
  · simp at h'
  rcases l with _ | ⟨a11, l⟩
  · simp at h'
  rcases l with _ | ⟨a12, l⟩
  · simp at h'
  rcases l with _ | ⟨a13, l⟩
  · simp at h'
  rcases l with _ | ⟨a14, l⟩
  · simp at h'
  rcases l with _ | ⟨a15, l⟩
  · simp only [List.setIfInBounds_toArray, List.set_cons_zero, List.set_cons_succ]
  · simp at h'
theorem grown_set {w w' : World} {b : Nat} (h : w.grownBy w' (some b)) (o : Nat) (v : Value) : w.grownBy (w'.setCell ⟨b, o, none⟩ v) (some b) := World.grownBy.trans h (setCell_grown _ _ _ _)
/-- A row of fifteen, written over. -/
theorem fill15 {w : World} {b : Nat} {cs : Array Value} {T : TypeId} (h : w.heap[b]? = some (.cells cs T (0, 0))) (hs : cs.size = 15) (v0 v1 v2 v3 v4 v5 v6 v7 v8 v9 v10 v11 v12 v13 v14 : Value) :
    (((((((((((((((w.setCell ⟨b, 0, none⟩ v0).setCell ⟨b, 1, none⟩ v1).setCell ⟨b, 2, none⟩ v2).setCell ⟨b, 3, none⟩ v3).setCell ⟨b, 4, none⟩ v4).setCell ⟨b, 5, none⟩ v5).setCell ⟨b, 6, none⟩ v6).setCell ⟨b, 7, none⟩ v7).setCell ⟨b, 8, none⟩ v8).setCell ⟨b, 9, none⟩ v9).setCell ⟨b, 10, none⟩ v10).setCell ⟨b, 11, none⟩ v11).setCell ⟨b, 12, none⟩ v12).setCell ⟨b, 13, none⟩ v13).setCell ⟨b, 14, none⟩ v14).heap[b]? = some (.cells #[v0, v1, v2, v3, v4, v5, v6, v7, v8, v9, v10, v11, v12, v13, v14] T (0, 0)) ∧ w.grownBy (((((((((((((((w.setCell ⟨b, 0, none⟩ v0).setCell ⟨b, 1, none⟩ v1).setCell ⟨b, 2, none⟩ v2).setCell ⟨b, 3, none⟩ v3).setCell ⟨b, 4, none⟩ v4).setCell ⟨b, 5, none⟩ v5).setCell ⟨b, 6, none⟩ v6).setCell ⟨b, 7, none⟩ v7).setCell ⟨b, 8, none⟩ v8).setCell ⟨b, 9, none⟩ v9).setCell ⟨b, 10, none⟩ v10).setCell ⟨b, 11, none⟩ v11).setCell ⟨b, 12, none⟩ v12).setCell ⟨b, 13, none⟩ v13).setCell ⟨b, 14, none⟩ v14) (some b) := by
  refine ⟨?_, (grown_set (grown_set (grown_set (grown_set (grown_set (grown_set (grown_set (grown_set (grown_set (grown_set (grown_set (grown_set (grown_set (grown_set (grown_set (World.grownBy.refl w _) 0 v0) 1 v1) 2 v2) 3 v3) 4 v4) 5 v5) 6 v6) 7 v7) 8 v8) 9 v9) 10 v10) 11 v11) 12 v12) 13 v13) 14 v14)⟩
  rw [← row15 hs]
  exact (setCell_row (setCell_row (setCell_row (setCell_row (setCell_row (setCell_row (setCell_row (setCell_row (setCell_row (setCell_row (setCell_row (setCell_row (setCell_row (setCell_row (setCell_row h 0 v0) 1 v1) 2 v2) 3 v3) 4 v4) 5 v5) 6 v6) 7 v7) 8 v8) 9 v9) 10 v10) 11 v11) 12 v12) 13 v13) 14 v14)
theorem NodeAt.facts0 {w : World} {b : Nat} {k op : Int} {x : Nat} {s : ByteArray} {bb : Bool} {f : Int} {r q : RefT} {l : List NodeT} {a : Option Addr} {n c : Nat} (h : NodeAt w b 0 (.mk k op x s bb f r q l) a n c) : w.cell? ⟨b, 0, none⟩ = some (.int .i64 k) ∧ w.cell? ⟨b, 1, none⟩ = some (.int .i64 op) ∧ w.cell? ⟨b, 2, none⟩ = some (.float .f64 x) ∧ w.cell? ⟨b, 3, none⟩ = some (.string s) ∧ w.cell? ⟨b, 4, none⟩ = some (.bool bb) ∧ w.cell? ⟨b, 5, none⟩ = some (.int .i64 f) ∧ w.cell? ⟨b, 6, none⟩ = some (.int .i64 r.a.1) ∧ w.cell? ⟨b, 7, none⟩ = some (.int .i64 r.a.2) ∧ w.cell? ⟨b, 8, none⟩ = some (.bool r.cf) ∧ w.cell? ⟨b, 9, none⟩ = some (.bool r.rf) ∧ w.cell? ⟨b, 10, none⟩ = some (.int .i64 q.a.1) ∧ w.cell? ⟨b, 11, none⟩ = some (.int .i64 q.a.2) ∧ w.cell? ⟨b, 12, none⟩ = some (.bool q.cf) ∧ w.cell? ⟨b, 13, none⟩ = some (.bool q.rf) ∧ w.cell? ⟨b, 14, none⟩ = some (.slice a n c) :=
  ⟨h.c0, by have := h.c1; rw [Nat.zero_add] at this; exact this, by have := h.c2; rw [Nat.zero_add] at this; exact this, by have := h.c3; rw [Nat.zero_add] at this; exact this, by have := h.c4; rw [Nat.zero_add] at this; exact this, by have := h.c5; rw [Nat.zero_add] at this; exact this, by have := h.c6; rw [Nat.zero_add] at this; exact this, by have := h.c7; rw [Nat.zero_add] at this; exact this, by have := h.c8; rw [Nat.zero_add] at this; exact this, by have := h.c9; rw [Nat.zero_add] at this; exact this, by have := h.c10; rw [Nat.zero_add] at this; exact this, by have := h.c11; rw [Nat.zero_add] at this; exact this, by have := h.c12; rw [Nat.zero_add] at this; exact this, by have := h.c13; rw [Nat.zero_add] at this; exact this, by have := h.c14; rw [Nat.zero_add] at this; exact this⟩
end Go.Proofs.YtlgkaipgdhcajaaGreatDoor
namespace Go.Proofs.YtlgkaipgdhcajaaGreatDoor
open Go.RowKit Go.Sort

def powB (i : Nat) : Nat := (1023 - i) * 4503599627370496
theorem pow_all : (List.range 1022).all (fun i => floatBits .quo .f64 (powB i) 4611686018427387904 == some (powB (i + 1))) = true := by decide +kernel
theorem pow_step {i : Nat} (h : i < 1022) : floatBits .quo .f64 (powB i) 4611686018427387904 = some (powB (i + 1)) := by
  have h2 := List.all_eq_true.1 pow_all i (List.mem_range.2 h)
  exact eq_of_beq h2
set_option maxRecDepth 100000 in
set_option maxHeartbeats 2000000 in
theorem power_any (w : World) : Calls Tryz.prog 124 #[.int .i64 (-1022)] w fun e w' => e = .returned (.float .f64 (powB 1022)) ∧ w = w' := by
  go_enter Tryz.func124, Tryz.ntmps124
  go_wp2_with fail
  go_loopw [3, 8] (fun s3 s8 wr => ∃ i : Nat, i ≤ 1022 ∧ s8 = .int .i64 i ∧ s3 = .float .f64 (powB i) ∧ w = wr) (fun _ s8 _ => 1022 - (intOf s8).toNat)
  case atStart => exact ⟨0, by omega, rfl, rfl, rfl⟩
  case round =>
    obtain ⟨i, hi, rfl, rfl, rfl⟩ := hrel
    by_cases h : i < 1022
    · have hii : (i : Int) < 1022 := by omega
      have hst := run_float_arith (P := Tryz.prog) w .quo 22 .f64 (powB i) 4611686018427387904 _ (pow_step h)
      generalize hpi : powB i = pi at hst
      generalize hpj : powB (i + 1) = pj at hst
      have HP := Lib.hid hpj
      clear hpi hpj
      go_wp2_with fail
      go_roundw
      case rel => refine ⟨i + 1, by omega, by go_num, ?_, ?_⟩ <;> first | trivial | rw [HP.out]
      case measure => simp [intOf]; omega
    · have he : i = 1022 := by omega
      subst he
      go_wp2_with fail
      go_ret
      exact ⟨rfl, rfl⟩
def absX (x : Nat) : Nat := (bits .andNot .u64 x 9223372036854775808).toNat
theorem Abs_any (x : Nat) (w : World) : Calls Tryz.prog 123 #[.float .f64 x] w fun e w' => e = .returned (.float .f64 (absX x)) ∧ w = w' := by
  go_enter Tryz.func123, Tryz.ntmps123
  go_wp2_with fail
  go_ret
  exact ⟨rfl, rfl⟩
abbrev ordX (a b : Nat) : Option Ordering := (FloatKind.format .f64).order a b
def classX (x : Nat) : Int :=
  if ordX x x != some .eq then 1
  else if ordX (absX x) 9218868437227405311 == some .gt then 2
  else if ordX (absX x) 0 == some .eq then 3
  else if ordX (absX x) (powB 1022) == some .lt then 4 else 5
set_option maxHeartbeats 2000000 in
theorem Class_any (x : Nat) (w : World) : Calls Tryz.prog 107 #[.float .f64 x] w fun e w' => e = .returned (.int .i64 (classX x)) ∧ w = w' := by
  have hc := Abs_any x w
  have hp := power_any w
  have HC := Lib.hid hc
  have HP := Lib.hid hp
  generalize hn : classX x = ans
  have HA := Lib.hid hn
  unfold classX ordX at HA
  generalize absX x = ax at HC HA
  generalize powB 1022 = px at HP HA
  clear hc hp hn
  go_enter Tryz.func107, Tryz.ntmps107
  go_wp2_with (first | (refine (HC.out).mono ?_; rintro e w' ⟨rfl, rfl⟩) | (refine (HP.out).mono ?_; rintro e w' ⟨rfl, rfl⟩))
  all_goals (go_ret; refine ⟨?_, rfl⟩; rw [← HA.out]; simp [*]; done)
theorem class_range (x : Nat) : 1 ≤ classX x ∧ classX x ≤ 5 := by unfold classX; split <;> (try split) <;> (try split) <;> (try split) <;> omega
end Go.Proofs.YtlgkaipgdhcajaaGreatDoor
