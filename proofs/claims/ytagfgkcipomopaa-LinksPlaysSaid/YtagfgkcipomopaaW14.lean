import Derived.Test.YtagfgkcipomopaaW13
namespace Go.Proofs.Ytagfgkcipomopaa
open Go.RowKit Go.Sort

theorem SlOf.newRow {α : Type} {enc : α → List Value} {k : Nat} (W : World) (l : List α) (hk : ∀ x, (enc x).length = k) (T : TypeId) {cs : Array Value} (hcs : cs = (l.flatMap enc).toArray) (hl : l.length ≤ 9223372036854775807) {n c b : Nat} (hn : n = l.length) (hc : c = l.length) (hb : b = W.heap.size) :
    SlOf (W.alloc (.cells cs T)) enc k (.slice (some ⟨b, 0, none⟩) n c) l := by
  subst hn hc hb hcs
  refine ⟨_, _, rfl, Nat.le_refl _, hl, fun _ => ⟨_, 0, rfl, fun j x hx i u hu => ?_⟩⟩
  have hi : i < k := by rw [← hk x]; exact (List.getElem?_eq_some_iff.1 hu).1
  have hf := flat_get hk l j i x hx hi
  rw [hu] at hf
  rw [Nat.zero_add, World.cell?_alloc_new]
  simpa using hf
theorem box3 (w : World) (x y z t : Int) (o : Obj) : (((w.alloc (.cells #[.int .i64 x, .int .i64 y] 34)).alloc (.cells #[.int .i64 z, .int .i64 t] 34)).alloc o).cell? ⟨w.heap.size, 0, none⟩ = some (.int .i64 x) ∧
    (((w.alloc (.cells #[.int .i64 x, .int .i64 y] 34)).alloc (.cells #[.int .i64 z, .int .i64 t] 34)).alloc o).cell? ⟨w.heap.size, 1, none⟩ = some (.int .i64 y) ∧
    (((w.alloc (.cells #[.int .i64 x, .int .i64 y] 34)).alloc (.cells #[.int .i64 z, .int .i64 t] 34)).alloc o).cell? ⟨w.heap.size + 1, 0, none⟩ = some (.int .i64 z) ∧
    (((w.alloc (.cells #[.int .i64 x, .int .i64 y] 34)).alloc (.cells #[.int .i64 z, .int .i64 t] 34)).alloc o).cell? ⟨w.heap.size + 1, 1, none⟩ = some (.int .i64 t) := by
  refine ⟨?_, ?_, ?_, ?_⟩ <;> (rw [World.cell?_alloc_past _ _ _ (by simp; try omega)]; simp)
set_option maxRecDepth 20000 in
set_option maxHeartbeats 1000000 in
theorem awake_any (w : World) : Calls Try.prog 9 #[] w fun e w' => e = .returned (.bool true) ∧ Xt w w' := by
  go_enter Try.func9, Try.ntmps9
  go_wp2_with fail
  refine (new_any _).mono ?_
  rintro e w1 ⟨rfl, hL, hg⟩
  have hgs := hg.xt.sz
  have HL := Lib.hid hL
  have HG := Lib.hid hg
  clear hL hg
  go_wp2_with fail
  refine (set16_any (w.heap.size + 1) w.heap.size (fun b => w.heap.size ≤ b ∧ b < w1.heap.size) [] (1, 1) _ [((2, 1), (2, 1))] _ ?_ ?_ ?_).mono ?_
  · exact HL.out.xt (fun b hb => hb.2) ((((Xt.refl _).alloc _).alloc _).alloc _)
  · intro b hb; simp; omega
  · exact SlOf.newRow _ _ arC_len 41 rfl (by simp) rfl rfl (by simp)
  rintro e w2 ⟨rfl, hL2, hg2⟩
  rw [awake_set]
  rw [awake_to] at hL2
  have hw1 : Lk w1 (w.heap.size + 1) w.heap.size (fun b => w.heap.size ≤ b ∧ b < w1.heap.size) [] := HL.out
  have hbm : w.heap.size < w1.heap.size := hw1.inM.2
  have hpb : w.heap.size + 1 < w1.heap.size := hw1.inP.2
  have a0 : w2.cell? ⟨w1.heap.size, 0, none⟩ = some (.int .i64 1) := (cell_grown hg2 (by simp; omega) (by omega)).trans (box3 _ _ _ _ _ _).1
  have a1 : w2.cell? ⟨w1.heap.size, 1, none⟩ = some (.int .i64 1) := (cell_grown hg2 (by simp; omega) (by omega)).trans (box3 _ _ _ _ _ _).2.1
  have b0 : w2.cell? ⟨w1.heap.size + 1, 0, none⟩ = some (.int .i64 2) := (cell_grown hg2 (by simp) (by omega)).trans (box3 _ _ _ _ _ _).2.2.1
  have b1 : w2.cell? ⟨w1.heap.size + 1, 1, none⟩ = some (.int .i64 1) := (cell_grown hg2 (by simp) (by omega)).trans (box3 _ _ _ _ _ _).2.2.2
  have hs2 : w1.heap.size + 3 ≤ w2.heap.size := by have := hg2.size; simpa using this
  have HX2 : Hid (Xt w w2) := (((HG.out.xt.alloc _).alloc _).alloc _).grownBy hg2 (Nat.le_refl _)
  have HL2 : Hid (Lk w2 (w.heap.size + 1) w.heap.size (fun b => b < w2.heap.size) [((1, 1), [((2, 1), (2, 1))])]) :=
    hL2.keep (fun _ _ => rfl) (fun b hb => by rcases hb with hb | hb <;> omega)
  clear hL2 hg2 hw1
  go_wp2_with fail
  refine (users_any (w.heap.size + 1) w.heap.size _ _ (2, 1) w2 HL2.out (fun b hb => hb)).mono ?_
  rintro e w3 ⟨vu, rfl, hown3, hx3⟩
  rw [awake_users] at hown3
  obtain ⟨gu, cu, rfl, hgu, hcu, hrow⟩ := RowL.of_own hown3 adC_len (by simp)
  obtain ⟨u0, u1⟩ := ad_cells (hrow.cell (j := 0) (x := (1, 1)) rfl)
  simp only [Nat.zero_mul, Nat.zero_add] at u0 u1
  rw [← (hx3.cells).1 _ _ (by omega)] at a0 a1 b0 b1
  have hs3 := hx3.sz
  have HL3 : Hid (Lk w3 (w.heap.size + 1) w.heap.size (fun b => b < w2.heap.size) [((1, 1), [((2, 1), (2, 1))])]) := HL2.out.xt (fun b hb => hb) hx3
  have HX3 : Hid (Xt w w3) := HX2.out.trans hx3
  have hgu3 : gu < w3.heap.size := World.block_lt_of_cell? w3 _ u0
  clear hown3 hx3 hrow
  go_wp2_with fail
  refine (order12_any (w.heap.size + 1) w.heap.size (fun b => b < w2.heap.size) [((1, 1), [((2, 1), (2, 1))])] _ [(1, 1), (2, 1)] _ ?_ ?_ ?_ (by simp)).mono ?_
  · exact HL3.out.xt (fun b hb => Nat.lt_of_lt_of_le hb hs3) ((Xt.refl _).alloc _)
  · intro b hb; simp; omega
  · exact SlOf.newRow _ _ adC_len 34 rfl (by simp) rfl rfl rfl
  rintro e w4 ⟨vo, rfl, hown4, hx4⟩
  rw [awake_order] at hown4 ⊢
  obtain ⟨go, co, rfl, hgo, hco, hrow⟩ := RowL.of_own hown4 adC_len (by simp)
  obtain ⟨o0, o1⟩ := ad_cells (hrow.cell (j := 0) (x := (2, 1)) rfl)
  simp only [Nat.zero_mul, Nat.zero_add] at o0 o1
  have hx34 : Xt w3 w4 := ((Xt.refl _).alloc _).trans hx4
  rw [← (hx34.cells).1 _ _ (by omega)] at a0 a1 b0 b1 u0 u1
  have HX4 : Hid (Xt w w4) := HX3.out.trans hx34
  clear hown4 hx4 hrow hx34
  go_wp2_with fail
  go_quiet (fail)
  go_wp2_with fail
  go_ret
  exact ⟨rfl, HX4.out.trans (Gr.xt ((Gr.refl _).drewN _))⟩
end Go.Proofs.Ytagfgkcipomopaa
