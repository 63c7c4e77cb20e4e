import Derived.Test.YtagfgkcipomopaaW2
namespace Go.Proofs.Ytagfgkcipomopaa
open Go.RowKit Go.Sort

/-! ### has -/
theorem eqA34 (w : World) (a b c d : Int) : (binOp .eql 34 (.agg #[.int .i64 a, .int .i64 b]) (.agg #[.int .i64 c, .int .i64 d])).run Try.prog w = .ok (.bool (decide ((a, b) = (c, d)))) w := by
  have := eqAd w (a, b) (c, d)
  simp only [adV] at this
  simp only [binOp]
  simp [this]
def hasB (l : List Ad) (a : Ad) : Bool := decide (a ∈ l)
theorem hasB_take {l : List Ad} {k : Nat} {x a : Ad} (hx : l[k]? = some x) (h : hasB (l.take k) a = false) (hne : x ≠ a) : hasB (l.take (k + 1)) a = false := by
  unfold hasB at *
  rw [decide_eq_false_iff_not] at *
  rw [List.take_add_one, hx]
  simp only [Option.toList_some, List.mem_append, List.mem_singleton]
  rintro (h1 | h1)
  · exact h h1
  · exact hne h1.symm
theorem hasB_at {l : List Ad} {k : Nat} {a : Ad} (hx : l[k]? = some a) : hasB l a = true := decide_eq_true (List.mem_of_getElem? hx)
set_option maxHeartbeats 400000 in
theorem has_any (v : Value) (l : List Ad) (a : Ad) (w : World) (h : SlOf w adC 2 v l) :
    Calls Try.prog 13 #[v, .agg #[.int .i64 a.1, .int .i64 a.2]] w fun e w' => e = .returned (.bool (hasB l a)) ∧ Gr w w' := by
  obtain ⟨w0, hw0, hb0, hs0, c0, c1⟩ := box1 w a.1 a.2 34
  have hg0 : Gr w w0 := by rw [← hw0]; exact (Gr.refl _).alloc _
  obtain ⟨sa, cap, rfl, q1, q2, hcc⟩ := h
  have HC := Lib.hid hcc
  clear hcc
  go_enter Try.func13, Try.ntmps13
  go_wp2_with fail
  clear hw0
  go_loopw [5] (fun i wr => ∃ k : Nat, k ≤ l.length ∧ i = .int .i64 k ∧ Hid (hasB (l.take k) a = false) ∧ Gr w0 wr) (fun i _ => l.length - (intOf i).toNat)
  case atStart => exact ⟨0, Nat.zero_le _, rfl, (by unfold Hid hasB; simp), (Gr.refl _)⟩
  case round =>
    obtain ⟨k, hk, rfl, HK, hg⟩ := hrel
    by_cases hlt : k < l.length
    · obtain ⟨b', off, rfl, hcell⟩ := HC.out (by intro h; simp [h] at hlt)
      obtain ⟨x, hx⟩ : ∃ x, l[k]? = some x := ⟨l[k], by simp [hlt]⟩
      obtain ⟨hgc, hgf⟩ := hg.xt.cells
      obtain ⟨d0, d1⟩ := ad_cells (hcell k x hx)
      have hb' : b' < w.heap.size := World.block_lt_of_cell? w _ d0
      have e : ∀ o, wr.cell? ⟨b', o, none⟩ = w.cell? ⟨b', o, none⟩ := fun o => (hgc b' o (by omega)).trans (hb0.cell (p := ⟨b', o, none⟩) hb')
      rw [← e] at d0 d1
      rw [← hgc _ _ (by omega)] at c0 c1
      have HX := Lib.hid hx
      clear hcell e hgc hgf hb' hx
      by_cases hxa : x = a
      · have heq : ∀ W, (binOp .eql 34 (.agg #[.int .i64 x.1, .int .i64 x.2]) (.agg #[.int .i64 a.1, .int .i64 a.2])).run Try.prog W = .ok (.bool true) W := fun W => by rw [eqA34]; simp [hxa]
        have HA := Lib.hid hxa
        clear hxa
        go_wp2_with fail
        go_quiet (fail)
        go_wp2_with fail
        go_ret
        exact ⟨retB (by have := HX.out; rw [HA.out] at this; exact (hasB_at this).symm), hg0.trans (hg.drewN _)⟩
      · have heq : ∀ W, (binOp .eql 34 (.agg #[.int .i64 x.1, .int .i64 x.2]) (.agg #[.int .i64 a.1, .int .i64 a.2])).run Try.prog W = .ok (.bool false) W := fun W => by rw [eqA34, decide_eq_false (show ¬ ((x.1, x.2) = (a.1, a.2)) from hxa)]
        have HA := Lib.hid hxa
        clear hxa
        go_wp2_with fail
        go_quiet (fail)
        go_wp2_with fail
        go_roundw
        case rel => exact ⟨k + 1, by omega, by go_num, hasB_take HX.out HK.out HA.out, hg.drewN _⟩
        case measure => simp [intOf]; omega
    · have hkl : k = l.length := by omega
      go_wp2_with fail
      go_ret
      exact ⟨retB (by have := HK.out; rw [hkl, List.take_length] at this; exact this.symm), hg0.trans hg⟩
end Go.Proofs.Ytagfgkcipomopaa
