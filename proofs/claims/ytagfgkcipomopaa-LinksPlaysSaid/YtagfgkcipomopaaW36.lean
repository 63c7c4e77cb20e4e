import Derived.Test.YtagfgkcipomopaaW22
namespace Go.Proofs.Ytagfgkcipomopaa
open Go.RowKit Go.Sort

/-! ### areas -/
theorem take_eqAr {a b : List Ar} {k : Nat} {x : Ar} (ha : a[k]? = some x) (hb : b[k]? = some x) (h : a.take k = b.take k) : a.take (k + 1) = b.take (k + 1) := by
  rw [List.take_add_one, List.take_add_one, ha, hb, h]
set_option maxRecDepth 100000 in
set_option maxHeartbeats 800000 in
theorem areas34_any (v u : Value) (l r : List Ar) (w : World) (hv : SlOf w arC 4 v l) (hu : SlOf w arC 4 u r) :
    Calls Try.prog 34 #[v, u] w fun e w' => e = .returned (.bool (decide (l = r))) ∧ Gr w w' := by
  obtain ⟨sa, ca, rfl, q1, q2, hcc⟩ := hv
  obtain ⟨sb, cb, rfl, p1, p2, hdd⟩ := hu
  have HC := Lib.hid hcc
  have HD := Lib.hid hdd
  clear hcc hdd
  by_cases hlen : l.length = r.length
  · rw [← hlen] at p1 ⊢
    have HL := Lib.hid hlen
    clear hlen
    go_enter Try.func34, Try.ntmps34
    go_wp2_with fail
    go_loopw [5] (fun i wr => ∃ k : Nat, k ≤ l.length ∧ i = .int .i64 k ∧ Hid (l.take k = r.take k) ∧ Gr w wr) (fun i _ => l.length - (intOf i).toNat)
    case atStart => exact ⟨0, Nat.zero_le _, rfl, (by unfold Hid; simp), Gr.refl _⟩
    case round =>
      obtain ⟨k, hk, rfl, HK, hg⟩ := hrel
      obtain ⟨hgc, hgf⟩ := hg.xt.cells
      have HG := Lib.hid hg
      clear hg
      by_cases hlt : k < l.length
      · have hlt2 : k < r.length := by rw [← HL.out]; exact hlt
        obtain ⟨b1, o1, rfl, hc1⟩ := HC.out (by intro h; simp [h] at hlt)
        obtain ⟨b2, o2, rfl, hc2⟩ := HD.out (by intro h; simp [h] at hlt2)
        obtain ⟨x, hx⟩ : ∃ x, l[k]? = some x := ⟨l[k], by simp [hlt]⟩
        obtain ⟨y, hy⟩ : ∃ y, r[k]? = some y := ⟨r[k], by simp [hlt2]⟩
        obtain ⟨d0, d1, d2, d3⟩ := ar_cells (hc1 k x hx)
        obtain ⟨e0, e1, e2, e3⟩ := ar_cells (hc2 k y hy)
        have hb1 : b1 < w.heap.size := World.block_lt_of_cell? w _ d0
        have hb2 : b2 < w.heap.size := World.block_lt_of_cell? w _ e0
        rw [← hgc _ _ hb1] at d0 d1 d2 d3
        rw [← hgc _ _ hb2] at e0 e1 e2 e3
        have HX := Lib.hid hx
        have HY := Lib.hid hy
        clear hc1 hc2 hx hy hgc hgf hlt2
        by_cases hxy : x = y
        · have heq : ∀ W, (binOp .neq 41 (.agg #[.int .i64 x.1.1, .int .i64 x.1.2, .int .i64 x.2.1, .int .i64 x.2.2]) (.agg #[.int .i64 y.1.1, .int .i64 y.1.2, .int .i64 y.2.1, .int .i64 y.2.2])).run Try.prog W = .ok (.bool false) W := fun W => by rw [neq41]; simp [hxy]
          have HE := Lib.hid hxy
          clear hxy
          go_wp2_with fail
          go_quiet (fail)
          go_wp2_with fail
          go_roundw
          case rel => exact ⟨k + 1, by omega, by go_num, take_eqAr HX.out (by rw [HY.out, HE.out]) HK.out, HG.out.drewN _⟩
          case measure => simp [intOf]; omega
        · have heq : ∀ W, (binOp .neq 41 (.agg #[.int .i64 x.1.1, .int .i64 x.1.2, .int .i64 x.2.1, .int .i64 x.2.2]) (.agg #[.int .i64 y.1.1, .int .i64 y.1.2, .int .i64 y.2.1, .int .i64 y.2.2])).run Try.prog W = .ok (.bool true) W := fun W => by rw [neq41, decide_eq_false (show ¬ (((x.1.1, x.1.2), (x.2.1, x.2.2)) = ((y.1.1, y.1.2), (y.2.1, y.2.2))) from hxy)]; rfl
          have HE := Lib.hid hxy
          clear hxy
          go_wp2_with fail
          go_quiet (fail)
          go_wp2_with fail
          go_ret
          refine ⟨retB ?_, HG.out.drewN _⟩
          symm
          rw [decide_eq_false_iff_not]
          intro e
          have h1 := HX.out
          rw [e, HY.out] at h1
          cases h1
          exact HE.out rfl
      · clear hgc hgf
        go_wp2_with fail
        go_ret
        refine ⟨retB ?_, HG.out⟩
        symm
        rw [decide_eq_true_eq]
        have h1 := HK.out
        have h2 := HL.out
        rw [List.take_of_length_le (by omega), List.take_of_length_le (by omega)] at h1
        exact h1
  · have hb : ((l.length : Int) != (r.length : Int)) = true := by simp; omega
    have HL := Lib.hid hlen
    clear hlen
    go_enter Try.func34, Try.ntmps34
    go_wp2_with fail
    go_ret
    refine ⟨retB ?_, Gr.refl _⟩
    symm
    rw [decide_eq_false_iff_not]
    intro e
    exact HL.out (by rw [e])
end Go.Proofs.Ytagfgkcipomopaa
