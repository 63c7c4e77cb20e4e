import Derived.Test.YtfpdleljhbkehaaDoorA8
namespace Go.Proofs.YtfpdleljhbkehaaDoor
open Go.RowKit Go.Sort

/-! ### just: of the content of none -/
theorem bits_any (x : Nat) (w : World) : Calls Tryd.prog 43 #[.float .f64 x] w fun e w' => e = .returned (.int .u64 x) ∧ w = w' := by
  go_enter Tryd.func43, Tryd.ntmps43
  go_wp2
  go_ret
  exact ⟨rfl, rfl⟩
abbrev zeroNV : Value := .agg #[.int .i64 0, .int .i64 0, .float .f64 0, .string ⟨#[]⟩, .bool false, .int .i64 0, .int .i64 0, .int .i64 0, .bool false, .bool false, .int .i64 0, .int .i64 0, .bool false, .bool false, .slice none 0 0]
set_option maxRecDepth 100000 in
set_option maxHeartbeats 2000000 in
theorem same0_any (w : World) : Calls Tryd.prog 42 #[zeroNV, zeroNV] w fun e w' => e = .returned (.bool true) ∧ Xt w w' := by
  obtain ⟨w0, hw0⟩ : ∃ w0, w.alloc (.cells #[.int .i64 0, .int .i64 0, .float .f64 0, .string ⟨#[]⟩, .bool false, .int .i64 0, .int .i64 0, .int .i64 0, .bool false, .bool false, .int .i64 0, .int .i64 0, .bool false, .bool false, .slice none 0 0] 31) = w0 := ⟨_, rfl⟩
  obtain ⟨w1, hw1⟩ : ∃ w1, w0.alloc (.cells #[.int .i64 0, .int .i64 0, .float .f64 0, .string ⟨#[]⟩, .bool false, .int .i64 0, .int .i64 0, .int .i64 0, .bool false, .bool false, .int .i64 0, .int .i64 0, .bool false, .bool false, .slice none 0 0] 31) = w1 := ⟨_, rfl⟩
  obtain ⟨B, hB⟩ : ∃ B, w.heap.size = B := ⟨_, rfl⟩
  have hs0 : w0.heap.size = B + 1 := by rw [← hw0, ← hB]; simp
  have hx1 : Hid (Xt w w1) := by rw [← hw1, ← hw0]; exact ((Xt.refl w).alloc _).alloc _
  have hr0 : w1.heap[B]? = some (.cells #[.int .i64 0, .int .i64 0, .float .f64 0, .string ⟨#[]⟩, .bool false, .int .i64 0, .int .i64 0, .int .i64 0, .bool false, .bool false, .int .i64 0, .int .i64 0, .bool false, .bool false, .slice none 0 0] 31 (0, 0)) := by
    rw [← hw1]; exact (Below.heap_alloc w0 _ B (by omega)).trans (by rw [← hw0, ← hB]; exact (MapKept.heap_alloc w _).1)
  have hr1 : w1.heap[B + 1]? = some (.cells #[.int .i64 0, .int .i64 0, .float .f64 0, .string ⟨#[]⟩, .bool false, .int .i64 0, .int .i64 0, .int .i64 0, .bool false, .bool false, .int .i64 0, .int .i64 0, .bool false, .bool false, .slice none 0 0] 31 (0, 0)) := by
    rw [← hw1, ← hs0]; exact (MapKept.heap_alloc w0 _).1
  have hk : ∀ b, (b = B ∨ b = B + 1) → ∀ (o : Nat) (v : Value), #[Value.int .i64 0, .int .i64 0, .float .f64 0, .string ⟨#[]⟩, .bool false, .int .i64 0, .int .i64 0, .int .i64 0, .bool false, .bool false, .int .i64 0, .int .i64 0, .bool false, .bool false, .slice none 0 0][o]? = some v → w1.cell? ⟨b, o, none⟩ = some v := by
    rintro b (rfl | rfl) o v h
    · simpa [World.cell?, hr0] using h
    · simpa [World.cell?, hr1] using h
  have a0 := hk B (Or.inl rfl) 0 _ rfl
  have a1 := hk B (Or.inl rfl) 1 _ rfl
  have a2 := hk B (Or.inl rfl) 2 _ rfl
  have a3 := hk B (Or.inl rfl) 3 _ rfl
  have a4 := hk B (Or.inl rfl) 4 _ rfl
  have a5 := hk B (Or.inl rfl) 5 _ rfl
  have a6 := hk B (Or.inl rfl) 6 _ rfl
  have a7 := hk B (Or.inl rfl) 7 _ rfl
  have a8 := hk B (Or.inl rfl) 8 _ rfl
  have a9 := hk B (Or.inl rfl) 9 _ rfl
  have a10 := hk B (Or.inl rfl) 10 _ rfl
  have a11 := hk B (Or.inl rfl) 11 _ rfl
  have a12 := hk B (Or.inl rfl) 12 _ rfl
  have a13 := hk B (Or.inl rfl) 13 _ rfl
  have a14 := hk B (Or.inl rfl) 14 _ rfl
  have b0 := hk (B + 1) (Or.inr rfl) 0 _ rfl
  have b1 := hk (B + 1) (Or.inr rfl) 1 _ rfl
  have b2 := hk (B + 1) (Or.inr rfl) 2 _ rfl
  have b3 := hk (B + 1) (Or.inr rfl) 3 _ rfl
  have b4 := hk (B + 1) (Or.inr rfl) 4 _ rfl
  have b5 := hk (B + 1) (Or.inr rfl) 5 _ rfl
  have b6 := hk (B + 1) (Or.inr rfl) 6 _ rfl
  have b7 := hk (B + 1) (Or.inr rfl) 7 _ rfl
  have b8 := hk (B + 1) (Or.inr rfl) 8 _ rfl
  have b9 := hk (B + 1) (Or.inr rfl) 9 _ rfl
  have b10 := hk (B + 1) (Or.inr rfl) 10 _ rfl
  have b11 := hk (B + 1) (Or.inr rfl) 11 _ rfl
  have b12 := hk (B + 1) (Or.inr rfl) 12 _ rfl
  have b13 := hk (B + 1) (Or.inr rfl) 13 _ rfl
  have b14 := hk (B + 1) (Or.inr rfl) 14 _ rfl
  clear hk hr0 hr1
  go_enter Tryd.func42, Tryd.ntmps42
  go_wp2_with fail
  go_quiet (first | ((go_at_call 43; exact Calls.quiet_of_same ((bits_any _ _).mono fun _ _ h => ⟨h.1, h.2.symm⟩))))
  go_wp2_with fail
  obtain ⟨wn, hwn⟩ : ∃ wn, w1.drewN nq = wn := ⟨_, rfl⟩
  have HX : Hid (Xt w wn) := by rw [← hwn]; exact hx1.out.trans (Gr.xt ((Gr.refl _).drewN _))
  have a14n : wn.cell? ⟨B, 14, none⟩ = some (.slice none 0 0) := by rw [← hwn]; exact a14
  rw [hwn]
  clear hwn hw1 hw0 hs0
  go_loopw [5] (fun s5 wr => s5 = .int .i64 0 ∧ wr = wn) (fun _ _ => 0)
  case atStart => exact ⟨rfl, rfl⟩
  case round =>
    obtain ⟨rfl, rfl⟩ := hrel
    go_wp2_with fail
    go_ret
    exact ⟨rfl, HX.out⟩
end Go.Proofs.YtfpdleljhbkehaaDoor
