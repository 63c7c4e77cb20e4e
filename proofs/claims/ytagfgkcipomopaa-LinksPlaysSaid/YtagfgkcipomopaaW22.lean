import Derived.Test.YtagfgkcipomopaaW21
import Derived.Test.YtagfgkcipomopaaA1
namespace Go.Proofs.Ytagfgkcipomopaa
open Go.RowKit Go.Sort

/-! ### the document's small functions -/
set_option maxHeartbeats 400000 in
theorem rvalid_any (c r : Int) (w : World) :
    Calls Try.prog 26 #[.agg #[.int .i64 c, .int .i64 r]] w fun e w' => e = .returned (.bool (validB c r)) ∧ Gr w w' := by
  unfold validB
  go_enter Try.func26, Try.ntmps26
  go_wp2
  all_goals (go_ret; refine ⟨?_, (Gr.refl _).alloc _⟩; congr 2; simp [*])
  all_goals omega
set_option maxHeartbeats 400000 in
theorem rvalidArea_any (a b c d : Int) (w : World) :
    Calls Try.prog 48 #[.agg #[.int .i64 a, .int .i64 b, .int .i64 c, .int .i64 d]] w fun e w' => e = .returned (.bool (validA a b c d)) ∧ Gr w w' := by
  unfold validA
  cases h1 : validB a b <;> cases h2 : validB c d
  all_goals
    go_enter Try.func48, Try.ntmps48
    go_wp2_with fail
    refine (rvalid_any _ _ _).mono ?_
    rintro e w1 ⟨rfl, hg1⟩
    rw [h1]
    obtain ⟨hc1, hf1⟩ := hg1.xt.cells
    have hz1 := hg1.xt.sz
    go_wp2_with fail
    refine (rvalid_any _ _ _).mono ?_
    rintro e w2 ⟨rfl, hg2⟩
    rw [h2]
    obtain ⟨hc2, hf2⟩ := hg2.xt.cells
    have hz2 := hg2.xt.sz
    have hz3 : w.heap.size < w1.heap.size := by simp at hz1; omega
    go_wp2_with fail
    all_goals (go_ret; refine ⟨by congr 2; try (simp [*]; try omega), (((Gr.refl _).alloc _).trans hg1).trans hg2⟩)
def inR (x : Ar) (b : Ad) : Bool := decide (x.1.1 ≤ b.1) && decide (b.1 ≤ x.2.1) && decide (x.1.2 ≤ b.2) && decide (b.2 ≤ x.2.2)
theorem inA_inR {x : Ar} (b : Ad) (h : validA x.1.1 x.1.2 x.2.1 x.2.2 = true) : inA x b = inR x b := by
  unfold inA inB inR; rw [h]; rfl
set_option maxHeartbeats 400000 in
theorem rin_any (x : Ar) (b : Ad) (w : World) :
    Calls Try.prog 28 #[.agg #[.int .i64 x.1.1, .int .i64 x.1.2, .int .i64 x.2.1, .int .i64 x.2.2], .agg #[.int .i64 b.1, .int .i64 b.2]] w fun e w' => e = .returned (.bool (inR x b)) ∧ Gr w w' := by
  unfold inR
  go_enter Try.func28, Try.ntmps28
  go_wp2
  all_goals (go_ret; refine ⟨?_, ((Gr.refl _).alloc _).alloc _⟩; congr 2; simp [*])
  all_goals omega
set_option maxHeartbeats 400000 in
theorem before_any (a b : Ad) (w : World) :
    Calls Try.prog 69 #[.agg #[.int .i64 a.1, .int .i64 a.2], .agg #[.int .i64 b.1, .int .i64 b.2]] w fun e w' => e = .returned (.bool (adLt a b)) ∧ Gr w w' := by
  unfold adLt
  go_enter Try.func69, Try.ntmps69
  go_wp2
  all_goals (go_ret; refine ⟨?_, ((Gr.refl _).alloc _).alloc _⟩; congr 2; try (simp [*]))
  all_goals (try omega)
def usesR (l : List Ar) (b : Ad) : Bool := l.any fun x => inR x b
set_option maxRecDepth 100000 in
set_option maxHeartbeats 800000 in
theorem ruses_any (a b : Ad) (v : Value) (l : List Ar) (w : World) (h : SlOf w arC 4 v l) :
    Calls Try.prog 53 #[.agg #[.int .i64 a.1, .int .i64 a.2, v], .agg #[.int .i64 b.1, .int .i64 b.2]] w fun e w' => e = .returned (.bool (usesR l b)) ∧ Gr w w' := by
  obtain ⟨sa, cap, rfl, q1, q2, hcc⟩ := h
  have HC := Lib.hid hcc
  clear hcc
  obtain ⟨w0, hw0, hx0, hs0, c0, c1, c2⟩ : ∃ w0, (w.alloc (.cells #[.int .i64 a.1, .int .i64 a.2, .slice sa l.length cap] 49)).alloc (.cells #[.int .i64 b.1, .int .i64 b.2] 34) = w0 ∧ Gr w w0 ∧ w0.heap.size = w.heap.size + 2 ∧
      w0.cell? ⟨w.heap.size, 2, none⟩ = some (.slice sa l.length cap) ∧ w0.cell? ⟨w.heap.size + 1, 0, none⟩ = some (.int .i64 b.1) ∧ w0.cell? ⟨w.heap.size + 1, 1, none⟩ = some (.int .i64 b.2) :=
    ⟨_, rfl, ((Gr.refl _).alloc _).alloc _, by simp, by simp, by simp, by simp⟩
  go_enter Try.func53, Try.ntmps53
  go_wp2_with fail
  clear hw0
  go_loopw [5] (fun i wr => ∃ k : Nat, k ≤ l.length ∧ i = .int .i64 k ∧ Hid ((l.take k).any (fun x => inR x b) = false) ∧ Gr w0 wr) (fun i _ => l.length - (intOf i).toNat)
  case atStart => exact ⟨0, Nat.zero_le _, rfl, (by unfold Hid; simp), Gr.refl _⟩
  case round =>
    obtain ⟨k, hk, rfl, HK, hg⟩ := hrel
    obtain ⟨hgc, hgf⟩ := hg.xt.cells
    have hgz := hg.xt.sz
    rw [← hgc _ _ (by omega)] at c0 c1 c2
    by_cases hlt : k < l.length
    · obtain ⟨b', off, rfl, hcell⟩ := HC.out (by intro h; simp [h] at hlt)
      obtain ⟨x, hx⟩ : ∃ x, l[k]? = some x := ⟨l[k], by simp [hlt]⟩
      obtain ⟨d0, d1, d2, d3⟩ := ar_cells (hcell k x hx)
      have hb' : b' < w.heap.size := World.block_lt_of_cell? w _ d0
      have e : ∀ o, wr.cell? ⟨b', o, none⟩ = w.cell? ⟨b', o, none⟩ := fun o => (hgc b' o (by omega)).trans ((hx0.xt.cells).1 _ _ hb')
      rw [← e] at d0 d1 d2 d3
      have z2 : b' < wr.heap.size := by omega
      have HX := Lib.hid hx
      have HG := Lib.hid hg
      clear hcell e hgc hgf hx hg
      cases hin : inR x b
      all_goals
        go_wp2_with fail
        refine wp_region_still_tail 6 (by kernel_rfl) (by kernel_rfl) ?_
        change wpStill _ _ (World.drew _) _ _ _
        simp only [List.take_succ_cons, List.take_zero, List.drop_succ_cons, List.drop_zero]
        iterate 6 still_step
        refine wpStill_nil ?_
        change wpList _ _ _ _ _ (World.drew _)
        refine wpList_step (fun K hK => ?_)
        go_simp
        refine (rin_any x b _).mono ?_
        rintro e w1 ⟨rfl, hg1⟩
        rw [hin]
        refine hK _ _ ?_
        clear hK K
        have HG1 : Hid (Gr w0 w1) := HG.out.drew.trans hg1
        clear hg1
        go_wp2_with fail
      · go_roundw
        case rel => exact ⟨k + 1, by omega, by go_num, take_any HX.out HK.out hin, HG1.out⟩
        case measure => simp [intOf]; omega
      · go_ret
        exact ⟨retB (any_at HX.out hin).symm, hx0.trans HG1.out⟩
    · clear hgc hgf
      go_wp2_with fail
      go_ret
      have hkl : k = l.length := by omega
      exact ⟨retB (by have := HK.out; rw [hkl, List.take_length] at this; exact this.symm), hx0.trans hg⟩
/-! ### addrs -/
theorem take_eq {a b : List Ad} {k : Nat} {x : Ad} (ha : a[k]? = some x) (hb : b[k]? = some x) (h : a.take k = b.take k) : a.take (k + 1) = b.take (k + 1) := by
  rw [List.take_add_one, List.take_add_one, ha, hb, h]
set_option maxRecDepth 100000 in
set_option maxHeartbeats 800000 in
theorem addrs_any (v u : Value) (l r : List Ad) (w : World) (hv : SlOf w adC 2 v l) (hu : SlOf w adC 2 u r) :
    Calls Try.prog 24 #[v, u] w fun e w' => e = .returned (.bool (decide (l = r))) ∧ Gr w w' := by
  obtain ⟨sa, ca, rfl, q1, q2, hcc⟩ := hv
  obtain ⟨sb, cb, rfl, p1, p2, hdd⟩ := hu
  have HC := Lib.hid hcc
  have HD := Lib.hid hdd
  clear hcc hdd
  by_cases hlen : l.length = r.length
  · rw [← hlen] at p1 ⊢
    have HL := Lib.hid hlen
    clear hlen
    go_enter Try.func24, Try.ntmps24
    go_wp2_with fail
    go_loopw [5] (fun i wr => ∃ k : Nat, k ≤ l.length ∧ i = .int .i64 k ∧ Hid (l.take k = r.take k) ∧ Gr w wr) (fun i _ => l.length - (intOf i).toNat)
    case atStart => exact ⟨0, Nat.zero_le _, rfl, (by unfold Hid; simp), Gr.refl _⟩
    case round =>
      obtain ⟨k, hk, rfl, HK, hg⟩ := hrel
      obtain ⟨hgc, hgf⟩ := hg.xt.cells
      have HG := Lib.hid hg
      clear hg
      by_cases hlt : k < l.length
      · have hlt2 : k < r.length := by rw [← HL.out]; exact hlt
        obtain ⟨b1, o1, rfl, hc1⟩ := HC.out (by intro h; simp [h] at hlt)
        obtain ⟨b2, o2, rfl, hc2⟩ := HD.out (by intro h; simp [h] at hlt2)
        obtain ⟨x, hx⟩ : ∃ x, l[k]? = some x := ⟨l[k], by simp [hlt]⟩
        obtain ⟨y, hy⟩ : ∃ y, r[k]? = some y := ⟨r[k], by simp [hlt2]⟩
        obtain ⟨d0, d1⟩ := ad_cells (hc1 k x hx)
        obtain ⟨e0, e1⟩ := ad_cells (hc2 k y hy)
        have hb1 : b1 < w.heap.size := World.block_lt_of_cell? w _ d0
        have hb2 : b2 < w.heap.size := World.block_lt_of_cell? w _ e0
        rw [← hgc _ _ hb1] at d0 d1
        rw [← hgc _ _ hb2] at e0 e1
        have HX := Lib.hid hx
        have HY := Lib.hid hy
        clear hc1 hc2 hx hy hgc hgf hlt2
        by_cases hxy : x = y
        · have heq : ∀ W, (binOp .neq 34 (.agg #[.int .i64 x.1, .int .i64 x.2]) (.agg #[.int .i64 y.1, .int .i64 y.2])).run Try.prog W = .ok (.bool false) W := fun W => by rw [neq34]; simp [hxy]
          have HE := Lib.hid hxy
          clear hxy
          go_wp2_with fail
          go_quiet (fail)
          go_wp2_with fail
          go_roundw
          case rel => exact ⟨k + 1, by omega, by go_num, take_eq HX.out (by rw [HY.out, HE.out]) HK.out, HG.out.drewN _⟩
          case measure => simp [intOf]; omega
        · have heq : ∀ W, (binOp .neq 34 (.agg #[.int .i64 x.1, .int .i64 x.2]) (.agg #[.int .i64 y.1, .int .i64 y.2])).run Try.prog W = .ok (.bool true) W := fun W => by rw [neq34, decide_eq_false (show ¬ ((x.1, x.2) = (y.1, y.2)) from hxy)]; rfl
          have HE := Lib.hid hxy
          clear hxy
          go_wp2_with fail
          go_quiet (fail)
          go_wp2_with fail
          go_ret
          refine ⟨retB ?_, HG.out.drewN _⟩
          symm
          rw [decide_eq_false_iff_not]
          intro e
          have h1 := HX.out
          rw [e, HY.out] at h1
          cases h1
          exact HE.out rfl
      · clear hgc hgf
        go_wp2_with fail
        go_ret
        refine ⟨retB ?_, HG.out⟩
        symm
        rw [decide_eq_true_eq]
        have h1 := HK.out
        have h2 := HL.out
        rw [List.take_of_length_le (by omega), List.take_of_length_le (by omega)] at h1
        exact h1
  · have hb : ((l.length : Int) != (r.length : Int)) = true := by simp; omega
    have HL := Lib.hid hlen
    clear hlen
    go_enter Try.func24, Try.ntmps24
    go_wp2_with fail
    go_ret
    refine ⟨retB ?_, Gr.refl _⟩
    symm
    rw [decide_eq_false_iff_not]
    intro e
    exact HL.out (by rw [e])
end Go.Proofs.Ytagfgkcipomopaa
