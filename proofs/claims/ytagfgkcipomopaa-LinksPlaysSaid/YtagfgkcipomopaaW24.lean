import Derived.Test.YtagfgkcipomopaaL14
import Derived.Test.YtagfgkcipomopaaW22
import Derived.Test.YtagfgkcipomopaaW18
namespace Go.Proofs.Ytagfgkcipomopaa
open Go.RowKit Go.Sort

/-! ### find -/
/-- The place of a cell among those that are set, or where it would stand. -/
structure FindIs (M : Mp) (a : Ad) (k : Nat) (t : Bool) : Prop where
  low : ∀ y ∈ M.take k, adLt y.1 a = true
  le : k ≤ M.length
  yes : t = true → ∃ l, M[k]? = some (a, l)
  no : t = false → ∀ y, M[k]? = some y → adLt a y.1 = true
def FindR (w : World) (M : Mp) (a : Ad) (e : Ending) (w' : World) : Prop := ∃ (k : Nat) (t : Bool), e = .returned (.tuple #[.int .i64 k, .bool t]) ∧ FindIs M a k t ∧ Gr w w'
theorem low_next {M : Mp} {a : Ad} {k : Nat} {y : Ad × List Ar} (hy : M[k]? = some y) (h : ∀ z ∈ M.take k, adLt z.1 a = true) (hlt : adLt y.1 a = true) : ∀ z ∈ M.take (k + 1), adLt z.1 a = true := by
  intro z hz
  rw [List.take_add_one, hy] at hz
  rcases List.mem_append.1 hz with h1 | h1
  · exact h z h1
  · simp at h1; rw [h1]; exact hlt
set_option maxRecDepth 100000 in
set_option maxHeartbeats 2000000 in
theorem find49_any (px : Nat) (v : Value) (M : Mp) (a : Ad) (w : World) (hp : w.cell? ⟨px, 0, none⟩ = some v) (hR : RulesOf w v M) (hm : M.length ≤ 4096) :
    Calls Try.prog 49 #[.pointer (some ⟨px, 0, none⟩), .agg #[.int .i64 a.1, .int .i64 a.2]] w (FindR w M a) := by
  have hpx : px < w.heap.size := World.block_lt_of_cell? w _ hp
  obtain ⟨sv, cap, rfl, q1, q2, hcc⟩ := hR
  have HC := Lib.hid hcc
  obtain ⟨w0, hw0, hb0, hs0, c0, c1⟩ := box1 w a.1 a.2 34
  have hg0 : Gr w w0 := by rw [← hw0]; exact (Gr.refl _).alloc _
  have hp0 : w0.cell? ⟨px, 0, none⟩ = some (.slice sv M.length cap) := (hb0.cell (p := ⟨px, 0, none⟩) hpx).trans hp
  clear hcc hp
  go_enter Try.func49, Try.ntmps49
  go_wp2_with fail
  clear hw0
  go_loopw [6] (fun s6 wr => ∃ k : Nat, k ≤ M.length ∧ s6 = .int .i64 k ∧ Hid (∀ z ∈ M.take k, adLt z.1 a = true) ∧ Hid (Gr w0 wr)) (fun s6 _ => M.length - (intOf s6).toNat)
  case atStart => exact ⟨0, Nat.zero_le _, rfl, (by intro z hz; simp at hz), Gr.refl _⟩
  case round =>
    obtain ⟨k, hk, rfl, HK, HG⟩ := hrel
    have hgc := (HG.out.xt.cells).1
    have hgz := HG.out.xt.sz
    have p0 := (hgc px 0 (by omega)).trans hp0
    have c0r := (hgc w.heap.size 0 (by omega)).trans c0
    have c1r := (hgc w.heap.size 1 (by omega)).trans c1
    by_cases hlt : k < M.length
    · obtain ⟨b', off, rfl, hcell⟩ := HC.out (by intro h; simp [h] at hlt)
      obtain ⟨y, hy⟩ : ∃ y, M[k]? = some y := ⟨M[k], by simp [hlt]⟩
      obtain ⟨d0, d1, _⟩ := hcell k y hy
      have hb' : b' < w.heap.size := World.block_lt_of_cell? w _ d0
      have d0r := (hgc b' _ (by omega)).trans (((Xt.cells hb0).1 b' _ hb').trans d0)
      have d1r := (hgc b' _ (by omega)).trans (((Xt.cells hb0).1 b' _ hb').trans d1)
      have HY := Lib.hid hy
      clear hcell hy d0 d1 c0 c1 hp0 hgc
      by_cases hya : y.1 = a
      · have heq : ∀ W, (binOp .eql 34 (.agg #[.int .i64 y.1.1, .int .i64 y.1.2]) (.agg #[.int .i64 a.1, .int .i64 a.2])).run Try.prog W = .ok (.bool true) W := fun W => by rw [eql34]; simp [hya]
        have HE := Lib.hid hya
        clear hya
        go_wp2_with fail
        go_quiet (fail)
        go_wp2_with fail
        go_ret2
        exact ⟨k, true, rfl, ⟨HK.out, hk, fun _ => ⟨y.2, by rw [HY.out, ← HE.out]⟩, fun h => by cases h⟩, hg0.trans (HG.out.drewN _)⟩
      · have heq : ∀ W, (binOp .eql 34 (.agg #[.int .i64 y.1.1, .int .i64 y.1.2]) (.agg #[.int .i64 a.1, .int .i64 a.2])).run Try.prog W = .ok (.bool false) W := fun W => by rw [eql34, decide_eq_false (show ¬ ((y.1.1, y.1.2) = (a.1, a.2)) from hya)]
        have HE := Lib.hid hya
        clear hya
        cases hlt2 : adLt a y.1
        all_goals
          go_wp2_with fail
          go_quiet (fail)
          go_wp2_with fail
          refine wp_region_still_tail 9 (by kernel_rfl) (by kernel_rfl) ?_
          change wpStill _ _ (World.drew _) _ _ _
          simp only [List.take_succ_cons, List.take_zero, List.drop_succ_cons, List.drop_zero]
          iterate 9 still_step
          refine wpStill_nil ?_
          change wpList _ _ _ _ _ (World.drew _)
          refine wpList_step (fun K hK => ?_)
          go_simp
          refine (before_any a y.1 _).mono ?_
          rintro e w3 ⟨rfl, hg3⟩
          rw [hlt2]
          refine hK _ _ ?_
          clear hK K
          have HG3 : Hid (Gr w0 w3) := ((HG.out.drewN nq).drew).trans hg3
          clear hg3 d0r d1r c0r c1r p0 heq
          go_wp2_with fail
        · go_roundw
          case rel =>
            refine ⟨k + 1, by omega, by go_num, low_next HY.out HK.out ?_, HG3.out⟩
            rcases adLt_tri y.1 a with h | h | h
            · exact absurd h HE.out
            · exact h
            · rw [hlt2] at h; cases h
          case measure => simp [intOf]; omega
        · go_ret2
          exact ⟨k, false, rfl, ⟨HK.out, hk, (fun h => by cases h), fun _ z hz => by rw [HY.out] at hz; cases hz; exact hlt2⟩, hg0.trans HG3.out⟩
    · clear hgc c0 c1 hp0
      obtain rfl : k = M.length := by omega
      go_wp2_with fail
      go_ret2
      exact ⟨M.length, false, rfl, ⟨HK.out, hk, (fun h => by cases h), fun _ z hz => by have := (List.getElem?_eq_some_iff.1 hz).1; omega⟩, hg0.trans HG.out⟩
end Go.Proofs.Ytagfgkcipomopaa
