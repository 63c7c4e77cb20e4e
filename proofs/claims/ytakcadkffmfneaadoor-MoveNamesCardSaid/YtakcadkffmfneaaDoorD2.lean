import Derived.Test.YtakcadkffmfneaaDoorW19
namespace Go.Proofs.YtakcadkffmfneaaDoor
open Go.RowKit Go.Sort

/-! ### contents -/
structure ContT where
  kind : Int
  v : ValT
  t : NodeT
abbrev contV (c : ContT) (a : Option Addr) (n cap : Nat) : Value := .agg #[.int .i64 c.kind, .int .i64 c.v.kind, .float .f64 c.v.x, .string c.v.s, .bool c.v.b, .int .i64 c.v.f, .int .i64 c.t.kind, .int .i64 c.t.op, .float .f64 c.t.x, .string c.t.s, .bool c.t.b, .int .i64 c.t.f, .int .i64 c.t.ref.a.1, .int .i64 c.t.ref.a.2, .bool c.t.ref.cf, .bool c.t.ref.rf, .int .i64 c.t.to.a.1, .int .i64 c.t.to.a.2, .bool c.t.to.cf, .bool c.t.to.rf, .slice a n cap]
/-- A content's cells. -/
structure ContAt (w : World) (b o : Nat) (c : ContT) (a : Option Addr) (n cap : Nat) : Prop where
  c0 : w.cell? ⟨b, o, none⟩ = some (.int .i64 c.kind)
  c1 : w.cell? ⟨b, o + 1, none⟩ = some (.int .i64 c.v.kind)
  c2 : w.cell? ⟨b, o + 2, none⟩ = some (.float .f64 c.v.x)
  c3 : w.cell? ⟨b, o + 3, none⟩ = some (.string c.v.s)
  c4 : w.cell? ⟨b, o + 4, none⟩ = some (.bool c.v.b)
  c5 : w.cell? ⟨b, o + 5, none⟩ = some (.int .i64 c.v.f)
  c6 : w.cell? ⟨b, o + 6, none⟩ = some (.int .i64 c.t.kind)
  c7 : w.cell? ⟨b, o + 7, none⟩ = some (.int .i64 c.t.op)
  c8 : w.cell? ⟨b, o + 8, none⟩ = some (.float .f64 c.t.x)
  c9 : w.cell? ⟨b, o + 9, none⟩ = some (.string c.t.s)
  c10 : w.cell? ⟨b, o + 10, none⟩ = some (.bool c.t.b)
  c11 : w.cell? ⟨b, o + 11, none⟩ = some (.int .i64 c.t.f)
  c12 : w.cell? ⟨b, o + 12, none⟩ = some (.int .i64 c.t.ref.a.1)
  c13 : w.cell? ⟨b, o + 13, none⟩ = some (.int .i64 c.t.ref.a.2)
  c14 : w.cell? ⟨b, o + 14, none⟩ = some (.bool c.t.ref.cf)
  c15 : w.cell? ⟨b, o + 15, none⟩ = some (.bool c.t.ref.rf)
  c16 : w.cell? ⟨b, o + 16, none⟩ = some (.int .i64 c.t.to.a.1)
  c17 : w.cell? ⟨b, o + 17, none⟩ = some (.int .i64 c.t.to.a.2)
  c18 : w.cell? ⟨b, o + 18, none⟩ = some (.bool c.t.to.cf)
  c19 : w.cell? ⟨b, o + 19, none⟩ = some (.bool c.t.to.rf)
  c20 : w.cell? ⟨b, o + 20, none⟩ = some (.slice a n cap)
theorem ContAt.xt {w w' : World} {b o : Nat} {c : ContT} {a : Option Addr} {n cap : Nat} (h : ContAt w b o c a n cap) (hx : Xt w w') : ContAt w' b o c a n cap := by
  have hb : b < w.heap.size := World.block_lt_of_cell? w _ h.c0
  have e := fun o => (hx.cells).1 b o hb
  exact ⟨(e _).trans h.c0, (e _).trans h.c1, (e _).trans h.c2, (e _).trans h.c3, (e _).trans h.c4, (e _).trans h.c5, (e _).trans h.c6, (e _).trans h.c7, (e _).trans h.c8, (e _).trans h.c9, (e _).trans h.c10, (e _).trans h.c11, (e _).trans h.c12, (e _).trans h.c13, (e _).trans h.c14, (e _).trans h.c15, (e _).trans h.c16, (e _).trans h.c17, (e _).trans h.c18, (e _).trans h.c19, (e _).trans h.c20⟩
theorem boxC (w : World) (c : ContT) (a : Option Addr) (n cap : Nat) (T : TypeId) : ∃ w0, w.alloc (.cells #[.int .i64 c.kind, .int .i64 c.v.kind, .float .f64 c.v.x, .string c.v.s, .bool c.v.b, .int .i64 c.v.f, .int .i64 c.t.kind, .int .i64 c.t.op, .float .f64 c.t.x, .string c.t.s, .bool c.t.b, .int .i64 c.t.f, .int .i64 c.t.ref.a.1, .int .i64 c.t.ref.a.2, .bool c.t.ref.cf, .bool c.t.ref.rf, .int .i64 c.t.to.a.1, .int .i64 c.t.to.a.2, .bool c.t.to.cf, .bool c.t.to.rf, .slice a n cap] T) = w0 ∧ Gr w w0 ∧ w0.heap.size = w.heap.size + 1 ∧ ContAt w0 w.heap.size 0 c a n cap := by
  refine ⟨_, rfl, (Gr.refl _).alloc _, by simp, ⟨?_, ?_, ?_, ?_, ?_, ?_, ?_, ?_, ?_, ?_, ?_, ?_, ?_, ?_, ?_, ?_, ?_, ?_, ?_, ?_, ?_⟩⟩ <;> (rw [World.cell?_alloc_new]; rfl)
end Go.Proofs.YtakcadkffmfneaaDoor
