import Derived.WalkKit
import Derived.Sort.Grow
import Derived.Lib.Hide
import Derived.Deep.Draws
namespace Go.Proofs.Ytagfgkcipomopaa
open Go.RowKit Go.Sort

/-! ### worlds that only grow -/
/-- Draws and new blocks alone. -/
def Gr (w w' : World) : Prop := ∃ q os, w' = grow (w.drewN q) os
theorem Gr.refl (w : World) : Gr w w := ⟨0, #[], by rw [grow_empty]; rfl⟩
theorem Gr.trans {a b c : World} (h : Gr a b) (k : Gr b c) : Gr a c := by
  obtain ⟨q, os, rfl⟩ := h
  obtain ⟨q', os', rfl⟩ := k
  exact ⟨q + q', os ++ os', by show grow (grow ((a.drewN q).drewN q') os) os' = _; rw [grow_grow, World.drewN_drewN]⟩
theorem Gr.alloc {a b : World} (h : Gr a b) (o : Obj) : Gr a (b.alloc o) := h.trans ⟨0, #[o], by rw [alloc_eq_grow]; rfl⟩
theorem Gr.drew {a b : World} (h : Gr a b) : Gr a b.drew := h.trans ⟨1, #[], by rw [grow_empty]; rfl⟩
theorem Gr.drewN {a b : World} (h : Gr a b) (n : Nat) : Gr a (b.drewN n) := h.trans ⟨n, #[], by rw [grow_empty]⟩
theorem Gr.below {a b : World} (h : Gr a b) : Below a.heap.size a b := by
  obtain ⟨q, os, rfl⟩ := h
  exact ⟨rfl, rfl, rfl, by simp [World.drewN], fun k hk => heap_grow_old _ _ hk⟩
/-- Nothing that was there has turned. -/
def Xt (w w' : World) : Prop := Below w.heap.size w w'
theorem Xt.refl (w : World) : Xt w w := Below.refl _ _
theorem Xt.trans {a b c : World} (h : Xt a b) (k : Xt b c) : Xt a c := Below.trans h (Below.mono k h.size)
theorem Gr.xt {a b : World} (h : Gr a b) : Xt a b := h.below
theorem Xt.alloc {a b : World} (h : Xt a b) (o : Obj) : Xt a (b.alloc o) := Below.alloc h h.size o
theorem Xt.drew {a b : World} (h : Xt a b) : Xt a b.drew := Below.drew h
theorem Xt.cells {a b : World} (h : Xt a b) : (∀ k o, k < a.heap.size → b.cell? ⟨k, o, none⟩ = a.cell? ⟨k, o, none⟩) ∧ (∀ k o, k < a.heap.size → b.frozen? ⟨k, o, none⟩ = a.frozen? ⟨k, o, none⟩) :=
  ⟨fun k _ hk => Below.cell h (p := ⟨k, _, none⟩) hk, fun k _ hk => Below.frozen h (p := ⟨k, _, none⟩) hk⟩
theorem Xt.sz {a b : World} (h : Xt a b) : a.heap.size ≤ b.heap.size := Below.size h

end Go.Proofs.Ytagfgkcipomopaa
