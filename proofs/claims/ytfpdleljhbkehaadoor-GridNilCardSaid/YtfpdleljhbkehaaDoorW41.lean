import Derived.Test.YtfpdleljhbkehaaDoorW40
namespace Go.Proofs.YtfpdleljhbkehaaDoor
open Go.RowKit Go.Sort

/-! ### just: of the content of none (made by mkjust.py) -/
theorem range_mid {w : World} {b : Nat} {cs : List Value} {T : TypeId} {fz : Nat × Nat} (h : w.heap[b]? = some (.cells cs.toArray T fz)) (o n : Nat) {ds : List Value} (hd : (cs.drop o).take n = ds) : w.rangeAt b o ds := fun j v hv => by
  subst hd
  rw [List.getElem?_take] at hv
  split at hv
  · rw [List.getElem?_drop] at hv
    simp [World.cell?, h, hv]
  · cases hv
abbrev zeroCV : Value := .agg #[.int .i64 0, .int .i64 0, .float .f64 0, .string ⟨#[]⟩, .bool false, .int .i64 0, .int .i64 0, .int .i64 0, .float .f64 0, .string ⟨#[]⟩, .bool false, .int .i64 0, .int .i64 0, .int .i64 0, .bool false, .bool false, .int .i64 0, .int .i64 0, .bool false, .bool false, .slice none 0 0]
set_option maxRecDepth 100000 in
set_option maxHeartbeats 2000000 in
theorem just0_any (w : World) : Calls Tryd.prog 19 #[zeroCV, zeroCV] w fun e w' => e = .returned (.bool true) ∧ Xt w w' := by
  obtain ⟨w0, hw0⟩ : ∃ w0, w.alloc (.cells #[.int .i64 0, .int .i64 0, .float .f64 0, .string ⟨#[]⟩, .bool false, .int .i64 0, .int .i64 0, .int .i64 0, .float .f64 0, .string ⟨#[]⟩, .bool false, .int .i64 0, .int .i64 0, .int .i64 0, .bool false, .bool false, .int .i64 0, .int .i64 0, .bool false, .bool false, .slice none 0 0] 33) = w0 := ⟨_, rfl⟩
  obtain ⟨w1, hw1⟩ : ∃ w1, w0.alloc (.cells #[.int .i64 0, .int .i64 0, .float .f64 0, .string ⟨#[]⟩, .bool false, .int .i64 0, .int .i64 0, .int .i64 0, .float .f64 0, .string ⟨#[]⟩, .bool false, .int .i64 0, .int .i64 0, .int .i64 0, .bool false, .bool false, .int .i64 0, .int .i64 0, .bool false, .bool false, .slice none 0 0] 33) = w1 := ⟨_, rfl⟩
  obtain ⟨B, hB⟩ : ∃ B, w.heap.size = B := ⟨_, rfl⟩
  have hs0 : w0.heap.size = B + 1 := by rw [← hw0, ← hB]; simp
  have hx1 : Hid (Xt w w1) := by rw [← hw1, ← hw0]; exact ((Xt.refl w).alloc _).alloc _
  have hr0 : w1.heap[B]? = some (.cells #[.int .i64 0, .int .i64 0, .float .f64 0, .string ⟨#[]⟩, .bool false, .int .i64 0, .int .i64 0, .int .i64 0, .float .f64 0, .string ⟨#[]⟩, .bool false, .int .i64 0, .int .i64 0, .int .i64 0, .bool false, .bool false, .int .i64 0, .int .i64 0, .bool false, .bool false, .slice none 0 0] 33 (0, 0)) := by
    rw [← hw1]; exact (Below.heap_alloc w0 _ B (by omega)).trans (by rw [← hw0, ← hB]; exact (MapKept.heap_alloc w _).1)
  have hr1 : w1.heap[B + 1]? = some (.cells #[.int .i64 0, .int .i64 0, .float .f64 0, .string ⟨#[]⟩, .bool false, .int .i64 0, .int .i64 0, .int .i64 0, .float .f64 0, .string ⟨#[]⟩, .bool false, .int .i64 0, .int .i64 0, .int .i64 0, .bool false, .bool false, .int .i64 0, .int .i64 0, .bool false, .bool false, .slice none 0 0] 33 (0, 0)) := by
    rw [← hw1, ← hs0]; exact (MapKept.heap_alloc w0 _).1
  have HR0 := Lib.hid hr0
  have HR1 := Lib.hid hr1
  clear hr0 hr1
  go_enter Tryd.func19, Tryd.ntmps19
  go_wp2_with (first
    | (refine wpList_load_mid (P := Tryd.prog) rfl 31 _ rfl B 6 rfl [.int .i64 0, .int .i64 0, .float .f64 0, .string ⟨#[]⟩, .bool false, .int .i64 0, .int .i64 0, .int .i64 0, .bool false, .bool false, .int .i64 0, .int .i64 0, .bool false, .bool false, .slice none 0 0] _ (range_mid HR0.out 6 15 rfl) Tryd.underlying31 rfl (by kernel_rfl) ?_)
    | (refine wpList_load_mid (P := Tryd.prog) rfl 31 _ rfl (B + 1) 6 rfl [.int .i64 0, .int .i64 0, .float .f64 0, .string ⟨#[]⟩, .bool false, .int .i64 0, .int .i64 0, .int .i64 0, .bool false, .bool false, .int .i64 0, .int .i64 0, .bool false, .bool false, .slice none 0 0] _ (range_mid HR1.out 6 15 rfl) Tryd.underlying31 rfl (by kernel_rfl) ?_))
  refine (same0_any _).mono ?_
  rintro e w2 ⟨rfl, hx2⟩
  have hr0 := (hx2.block B (Array.getElem?_eq_some_iff.1 HR0.out).1).trans HR0.out
  have hr1 := (hx2.block (B + 1) (Array.getElem?_eq_some_iff.1 HR1.out).1).trans HR1.out
  obtain ⟨a0, a1, a2, a3, a4, a5, _⟩ := cells21 hr0
  obtain ⟨b0, b1, b2, b3, b4, b5, _⟩ := cells21 hr1
  have HX2 : Hid (Xt w w2) := hx1.out.trans hx2
  clear hr0 hr1 hx2 hx1 HR0 HR1 hw0 hw1 hs0
  go_wp2_with fail
  go_quiet (first | ((go_at_call 43; exact Calls.quiet_of_same ((bits_any _ _).mono fun _ _ h => ⟨h.1, h.2.symm⟩))))
  go_wp2_with fail
  go_ret
  exact ⟨rfl, HX2.out.trans (Gr.xt ((Gr.refl _).drewN _))⟩
end Go.Proofs.YtfpdleljhbkehaaDoor
