import Derived.Test.YtagfgkcipomopaaW14
import Derived.Deep.RegionHeld3
namespace Go.Proofs.Ytagfgkcipomopaa
open Go.RowKit Go.Sort

/-- What the region's calls keep: one box, and all that was there. -/
theorem usesNil_keep {w0 w : World} {k : Nat} {u v : Value} (a : Ad) (h0 : w.cell? ⟨k, 0, none⟩ = some u) (h1 : w.cell? ⟨k, 1, none⟩ = some v) (hx : Hid (Xt w0 w)) : Calls Try.prog 27 #[.pointer none, .agg #[.int .i64 a.1, .int .i64 a.2]] w fun e w' => e = .returned (.slice none 0 0) ∧ w'.cell? ⟨k, 0, none⟩ = some u ∧ w'.cell? ⟨k, 1, none⟩ = some v ∧ Hid (Xt w0 w') :=
  (usesNil_any a w).mono fun e w' ⟨he, hg⟩ => ⟨he, ((hg.xt.cells).1 _ _ (World.block_lt_of_cell? w _ h0)).trans h0, ((hg.xt.cells).1 _ _ (World.block_lt_of_cell? w _ h1)).trans h1, hx.out.trans hg.xt⟩
theorem usersNil_keep {w0 w : World} {k : Nat} {u v : Value} (a : Ad) (h0 : w.cell? ⟨k, 0, none⟩ = some u) (h1 : w.cell? ⟨k, 1, none⟩ = some v) (hx : Hid (Xt w0 w)) : Calls Try.prog 14 #[.pointer none, .agg #[.int .i64 a.1, .int .i64 a.2]] w fun e w' => e = .returned (.slice none 0 0) ∧ w'.cell? ⟨k, 0, none⟩ = some u ∧ w'.cell? ⟨k, 1, none⟩ = some v ∧ Hid (Xt w0 w') :=
  (usersNil_any a w).mono fun e w' ⟨he, hg⟩ => ⟨he, ((hg.xt.cells).1 _ _ (World.block_lt_of_cell? w _ h0)).trans h0, ((hg.xt.cells).1 _ _ (World.block_lt_of_cell? w _ h1)).trans h1, hx.out.trans hg.xt⟩
theorem aboveNil_keep {w0 w : World} {k : Nat} {u v : Value} (l : Value) (h0 : w.cell? ⟨k, 0, none⟩ = some u) (h1 : w.cell? ⟨k, 1, none⟩ = some v) (hx : Hid (Xt w0 w)) : Calls Try.prog 29 #[.pointer none, l] w fun e w' => e = .returned (.slice none 0 0) ∧ w'.cell? ⟨k, 0, none⟩ = some u ∧ w'.cell? ⟨k, 1, none⟩ = some v ∧ Hid (Xt w0 w') :=
  (aboveNil_any l w).mono fun e w' ⟨he, hg⟩ => ⟨he, ((hg.xt.cells).1 _ _ (World.block_lt_of_cell? w _ h0)).trans h0, ((hg.xt.cells).1 _ _ (World.block_lt_of_cell? w _ h1)).trans h1, hx.out.trans hg.xt⟩
theorem lenNil_keep {w0 w : World} {k : Nat} {u v : Value} (h0 : w.cell? ⟨k, 0, none⟩ = some u) (h1 : w.cell? ⟨k, 1, none⟩ = some v) (hx : Hid (Xt w0 w)) : Calls Try.prog 19 #[.pointer none] w fun e w' => e = .returned (.int .i64 0) ∧ w'.cell? ⟨k, 0, none⟩ = some u ∧ w'.cell? ⟨k, 1, none⟩ = some v ∧ Hid (Xt w0 w') :=
  (lenNil_any w).mono fun e w' ⟨he, hg⟩ => ⟨he, by subst hg; exact ⟨h0, h1, hx⟩⟩
set_option maxRecDepth 20000 in
set_option maxHeartbeats 2000000 in
theorem nil8_any (a : Ad) (v : Value) (w : World) : Calls Try.prog 8 #[.agg #[.int .i64 a.1, .int .i64 a.2], v] w fun e w' => e = .returned (.bool true) ∧ Xt w w' := by
  obtain ⟨w0, hw0, hb0, hs0, c0, c1⟩ := box1 w a.1 a.2 34
  have HX0 : Hid (Xt w w0) := hb0
  clear hb0
  go_enter Try.func8, Try.ntmps8
  go_wp2_with fail
  clear hw0
  refine (awake_any _).mono ?_
  rintro e w1 ⟨rfl, hx1⟩
  rw [← (hx1.cells).1 _ _ (by omega)] at c0 c1
  have HX1 : Hid (Xt w w1) := HX0.out.trans hx1
  have hs1 := hx1.sz
  clear hx1
  go_wp2_with fail
  refine (setNil_any a _ _).mono ?_
  rintro e w2 ⟨rfl, hg2⟩
  rw [← (hg2.xt.cells).1 _ _ (by omega)] at c0 c1
  have HX2 : Hid (Xt w w2) := HX1.out.trans hg2.xt
  have hs2 := hg2.xt.sz
  clear hg2
  go_wp2_with fail
  refine (dropNil_any a _).mono ?_
  rintro e w3 ⟨rfl, hg3⟩
  rw [← (hg3.xt.cells).1 _ _ (by omega)] at c0 c1
  have HX3 : Hid (Xt w w3) := HX2.out.trans hg3.xt
  clear hg3
  go_wp2_with (first | (go_at_call 22; refine (circleNil_any _).mono ?_; rintro e w' ⟨rfl, rfl⟩) | (go_at_call 12; refine (orderNil_any _ _).mono ?_; rintro e w' ⟨rfl, rfl⟩) | (go_at_call 11; refine (readyNil_any _ _ _).mono ?_; rintro e w' ⟨rfl, rfl⟩))
  have c0d : w3.drew.cell? ⟨w.heap.size, 0, none⟩ = some (.int .i64 a.1) := c0
  have c1d : w3.drew.cell? ⟨w.heap.size, 1, none⟩ = some (.int .i64 a.2) := c1
  have HXd : Hid (Xt w w3.drew) := HX3.out.drew
  go_region_held3 (fun w' => w'.cell? ⟨w.heap.size, 0, none⟩ = some (.int .i64 a.1) ∧ w'.cell? ⟨w.heap.size, 1, none⟩ = some (.int .i64 a.2)) (first | exact ⟨by assumption, by assumption⟩) (first
    | (go_at_call 27; refine (usesNil_keep (w0 := w) a (by assumption) (by assumption) (by assumption)).mono ?_; rintro e w' ⟨rfl, k0, k1, KX⟩)
    | (go_at_call 14; refine (usersNil_keep (w0 := w) a (by assumption) (by assumption) (by assumption)).mono ?_; rintro e w' ⟨rfl, k0, k1, KX⟩)
    | (go_at_call 29; refine (aboveNil_keep (w0 := w) _ (by assumption) (by assumption) (by assumption)).mono ?_; rintro e w' ⟨rfl, k0, k1, KX⟩)
    | (go_at_call 19; refine (lenNil_keep (w0 := w) (by assumption) (by assumption) (by assumption)).mono ?_; rintro e w' ⟨rfl, k0, k1, KX⟩))
  all_goals
    go_wp2_with (go_at_call 32; refine (copyNil_any _).mono ?_; rintro e w' ⟨rfl, rfl⟩)
    go_ret
    refine ⟨rfl, Hid.out ?_⟩
    assumption
end Go.Proofs.Ytagfgkcipomopaa
