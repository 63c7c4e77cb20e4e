import Derived.Test.YtagfgkcipomopaaA1
import Derived.Test.YtagfgkcipomopaaW12
namespace Go.Proofs.Ytagfgkcipomopaa
open Go.RowKit Go.Sort

/-! ### rules that came in; made -/
/-- A slice of rules, each of three cells. -/
def RulesOf (w : World) (v : Value) (rs : Mp) : Prop :=
  ∃ a cap, v = .slice a rs.length cap ∧ rs.length ≤ cap ∧ cap ≤ 9223372036854775807 ∧ (rs ≠ [] → ∃ b off, a = some ⟨b, off, none⟩ ∧ ∀ k r, rs[k]? = some r →
    w.cell? ⟨b, off + k * 3, none⟩ = some (.int .i64 r.1.1) ∧ w.cell? ⟨b, off + k * 3 + 1, none⟩ = some (.int .i64 r.1.2) ∧ ∃ u, w.cell? ⟨b, off + k * 3 + 2, none⟩ = some u ∧ SlOf w arC 4 u r.2)
theorem RulesOf.xt {w w' : World} {v : Value} {rs : Mp} (h : RulesOf w v rs) (hx : Xt w w') : RulesOf w' v rs := by
  obtain ⟨a, cap, rfl, q1, q2, h2⟩ := h
  refine ⟨a, cap, rfl, q1, q2, fun hl => ?_⟩
  obtain ⟨b, off, rfl, hc⟩ := h2 hl
  refine ⟨b, off, rfl, fun k r hr => ?_⟩
  obtain ⟨c0, c1, u, c2, hu⟩ := hc k r hr
  have hb : b < w.heap.size := World.block_lt_of_cell? w _ c0
  exact ⟨((hx.cells).1 _ _ hb).trans c0, ((hx.cells).1 _ _ hb).trans c1, u, ((hx.cells).1 _ _ hb).trans c2, hu.xt hx⟩
def madeM (rs : Mp) : Mp := (rs.take 300).foldl (fun M r => setTo M r.1 r.2) []
def madeK (rs : Mp) (k : Nat) : Mp := (rs.take k).foldl (fun M r => setTo M r.1 r.2) []
theorem madeK_succ {rs : Mp} {k : Nat} {r : Ad × List Ar} (h : rs[k]? = some r) : madeK rs (k + 1) = setTo (madeK rs k) r.1 r.2 := by
  unfold madeK; rw [List.take_add_one, h, List.foldl_append]; rfl
def MadeR (w : World) (rs : Mp) (e : Ending) (w' : World) : Prop :=
  e = .returned (.pointer (some ⟨w.heap.size + 1, 0, none⟩)) ∧ Lk w' (w.heap.size + 1) w.heap.size (fun b => w.heap.size ≤ b ∧ b < w'.heap.size) (madeM rs) ∧ Xt w w'
set_option maxRecDepth 100000 in
set_option maxHeartbeats 1000000 in
theorem made_any (v : Value) (rs : Mp) (w : World) (h : RulesOf w v rs) : Calls Try.prog 10 #[v] w (MadeR w rs) := by
  have HV := Lib.hid h
  obtain ⟨sa, cap, rfl, q1, q2, hcc⟩ := h
  have HC := Lib.hid hcc
  clear hcc
  go_enter Try.func10, Try.ntmps10
  go_wp2_with fail
  refine (new_any _).mono ?_
  rintro e w1 ⟨rfl, hL, hg⟩
  have HL1 : Hid (Lk w1 (w.heap.size + 1) w.heap.size (fun b => w.heap.size ≤ b ∧ b < w1.heap.size) (madeK rs 0)) := hL
  have HX1 : Hid (Xt w w1) := hg.xt
  clear hL hg
  go_wp2_with fail
  go_loopw [4] (fun i wr => ∃ k : Nat, k ≤ rs.length ∧ k ≤ 300 ∧ i = .int .i64 k ∧ Hid (Lk wr (w.heap.size + 1) w.heap.size (fun b => w.heap.size ≤ b ∧ b < wr.heap.size) (madeK rs k)) ∧ Hid (Xt w wr)) (fun i _ => rs.length - (intOf i).toNat)
  case atStart => exact ⟨0, Nat.zero_le _, by omega, rfl, HL1, HX1⟩
  case round =>
    obtain ⟨k, hk, hk3, rfl, HL, HX⟩ := hrel
    have done : (rs.length ≤ k ∨ 300 ≤ k) → madeK rs k = madeM rs := by
      intro hd
      unfold madeK madeM
      rcases hd with hd | hd
      · rw [List.take_of_length_le hd, List.take_of_length_le (by omega)]
      · rw [show k = 300 by omega]
    have HD := Lib.hid done
    clear done
    by_cases hlt : k < rs.length
    · by_cases h3 : (k : Int) < 300
      · obtain ⟨b', off, rfl, hcell⟩ := HC.out (by intro h; simp [h] at hlt)
        obtain ⟨r, hr⟩ : ∃ r, rs[k]? = some r := ⟨rs[k], by simp [hlt]⟩
        obtain ⟨d0, d1, u, d2, hu⟩ := hcell k r hr
        have hb' : b' < w.heap.size := World.block_lt_of_cell? w _ d0
        have hz := HX.out.sz
        rw [← (HX.out.cells).1 _ _ hb'] at d0 d1 d2
        have HU : Hid (SlOf wr.drew arC 4 u r.2) := hu.xt HX.out.drew
        have HR := Lib.hid hr
        have HLd : Hid (Lk wr.drew (w.heap.size + 1) w.heap.size (fun b => w.heap.size ≤ b ∧ b < wr.heap.size) (madeK rs k)) := HL.out.keep (fun _ _ => rfl) (fun _ h => h)
        clear hcell hr hu hb'
        go_wp2_with fail
        refine wp_region_still_tail 11 (by kernel_rfl) (by kernel_rfl) ?_
        change wpStill _ _ (World.drew _) _ _ _
        simp only [List.take_succ_cons, List.take_zero, List.drop_succ_cons, List.drop_zero]
        iterate 11 still_step
        refine wpStill_nil ?_
        change wpList _ _ _ _ _ (World.drew _)
        refine wpList_step (fun K hK => ?_)
        go_simp
        refine (set16_any (w.heap.size + 1) w.heap.size (fun b => w.heap.size ≤ b ∧ b < wr.heap.size) (madeK rs k) r.1 u r.2 wr.drew HLd.out (fun b hb => hb.2) HU.out).mono ?_
        rintro e w3 ⟨rfl, hL3, hg3⟩
        refine hK _ _ ?_
        clear hK K
        have HL3 : Hid (Lk w3 (w.heap.size + 1) w.heap.size (fun b => w.heap.size ≤ b ∧ b < w3.heap.size) (madeK rs (k + 1))) := by
          rw [madeK_succ HR.out]
          refine hL3.keep (fun _ _ => rfl) (fun b hb => ?_)
          have h1 := hg3.size
          have h2 : wr.drew.heap.size = wr.heap.size := rfl
          rcases hb with hb | hb <;> omega
        have HX3 : Hid (Xt w w3) := HX.out.drew.grownBy hg3 (Nat.le_refl _)
        clear hL3 hg3
        go_wp2_with fail
        go_roundw
        case rel => exact ⟨k + 1, by omega, by omega, by go_num, HL3, HX3⟩
        case measure => simp [intOf]; omega
      · go_wp2_with fail
        go_ret
        have := HD.out (Or.inr (by omega))
        exact ⟨rfl, by rw [← this]; exact HL.out, HX.out⟩
    · go_wp2_with fail
      go_ret
      have := HD.out (Or.inl (by omega))
      exact ⟨rfl, by rw [← this]; exact HL.out, HX.out⟩
end Go.Proofs.Ytagfgkcipomopaa
