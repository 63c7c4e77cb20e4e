/- move: lines that may be put in, or taken out (made by mkm5.py). -/
import Derived.Test.YtdoeejhdenifpaaGreatDoorZ1
import Derived.Test.YtdoeejhdenifpaaGreatDoorA6
import Derived.Deep.Cut
namespace Go.Proofs.YtdoeejhdenifpaaGreatDoor
open Go.RowKit Go.Sort
def madeL (m a n : Int) : LinT × Bool := (⟨a, n, m⟩, decide (1 ≤ a) && decide (a ≤ m) && decide (-m ≤ n) && decide (n ≤ m))
theorem neg_4096 : IntKind.i64.wrap (-4096) = -4096 := by rw [IntKind.wrap_i64]; omega
theorem neg_256 : IntKind.i64.wrap (-256) = -256 := by rw [IntKind.wrap_i64]; omega
theorem cells3 {w : World} {b : Nat} {u v x : Value} {T : TypeId} (h : w.heap[b]? = some (.cells #[u, v, x] T (0, 0))) : (w.cell? ⟨b, 0, none⟩ = some u ∧ w.cell? ⟨b, 1, none⟩ = some v ∧ w.cell? ⟨b, 2, none⟩ = some x) ∧ w.frozen? ⟨b, 0, none⟩ = false ∧ w.frozen? ⟨b, 1, none⟩ = false ∧ w.frozen? ⟨b, 2, none⟩ = false := by
 refine ⟨⟨?_, ?_, ?_⟩, ?_, ?_, ?_⟩ <;> simp [World.cell?, World.frozen?, h]
set_option maxRecDepth 100000 in
set_option maxHeartbeats 8000000 in
theorem madeL_false (a n : Int) (w : World) :
    Calls Tryz.prog 114 #[.bool false, .int .i64 a, .int .i64 n] w fun e w' => e = .returned (.tuple #[linV (madeL 4096 a n).1, .bool (madeL 4096 a n).2]) ∧ Xt w w' := by
 unfold madeL
 go_enter Tryz.func114, Tryz.ntmps114
 go_upto_region 4 with fail
 obtain ⟨B, hB⟩ : ∃ B, w.heap.size = B := ⟨_, rfl⟩
 rw [hB]
 obtain ⟨w0, hw0⟩ : ∃ w0, w.alloc (.cells #[.int .i64 0, .int .i64 0, .int .i64 0] 147) = w0 := ⟨_, rfl⟩
 rw [hw0]
 have hs0 : w0.heap.size = B + 1 := by rw [← hw0, ← hB]; simp
 obtain ⟨w1, hw1⟩ : ∃ w1, w0.alloc (.cells #[.int .i64 a, .int .i64 n, .int .i64 4096] 147) = w1 := ⟨_, rfl⟩
 rw [hw1]
 have hx1 : Xt w w1 := by rw [← hw1, ← hw0]; exact ((Xt.refl w).alloc _).alloc _
 have hZ : w1.heap[B]? = some (.cells #[.int .i64 0, .int .i64 0, .int .i64 0] 147 (0, 0)) := by
  rw [← hw1]; exact (Below.heap_alloc w0 _ _ (by omega)).trans (by rw [← hw0, ← hB]; exact (MapKept.heap_alloc w _).1)
 have hL : w1.heap[B + 1]? = some (.cells #[.int .i64 a, .int .i64 n, .int .i64 4096] 147 (0, 0)) := by rw [← hw1, ← hs0]; exact (MapKept.heap_alloc w0 _).1
 obtain ⟨⟨b0, b1, b2⟩, f0, f1, f2⟩ := cells3 hZ
 obtain ⟨hl, _⟩ := cells3 hL
 have hw3 : ∀ m : Int, ((((w1.setCell ⟨B, 0, none⟩ (.int .i64 a)).setCell ⟨B, 1, none⟩ (.int .i64 n)).setCell ⟨B, 2, none⟩ (.int .i64 m)).drew.cell? ⟨B + 1, 0, none⟩ = some (.int .i64 a) ∧ (((w1.setCell ⟨B, 0, none⟩ (.int .i64 a)).setCell ⟨B, 1, none⟩ (.int .i64 n)).setCell ⟨B, 2, none⟩ (.int .i64 m)).drew.cell? ⟨B + 1, 1, none⟩ = some (.int .i64 n) ∧ (((w1.setCell ⟨B, 0, none⟩ (.int .i64 a)).setCell ⟨B, 1, none⟩ (.int .i64 n)).setCell ⟨B, 2, none⟩ (.int .i64 m)).drew.cell? ⟨B + 1, 2, none⟩ = some (.int .i64 4096)) := fun m => by
  have e : ∀ o, (((w1.setCell ⟨B, 0, none⟩ (.int .i64 a)).setCell ⟨B, 1, none⟩ (.int .i64 n)).setCell ⟨B, 2, none⟩ (.int .i64 m)).drew.cell? ⟨B + 1, o, none⟩ = w1.cell? ⟨B + 1, o, none⟩ := fun o => by
   show (((w1.setCell ⟨B, 0, none⟩ (.int .i64 a)).setCell ⟨B, 1, none⟩ (.int .i64 n)).setCell ⟨B, 2, none⟩ (.int .i64 m)).cell? _ = _
   rw [World.cell?_setCell_other _ _ _ _ (by simp), World.cell?_setCell_other _ _ _ _ (by simp), World.cell?_setCell_other _ _ _ _ (by simp)]
  exact ⟨(e 0).trans hl.1, (e 1).trans hl.2.1, (e 2).trans hl.2.2⟩
 have HRW : ∀ m : Int, (((w1.setCell ⟨B, 0, none⟩ (.int .i64 a)).setCell ⟨B, 1, none⟩ (.int .i64 n)).setCell ⟨B, 2, none⟩ (.int .i64 m)).drew.heap[B]? = some (.cells #[.int .i64 a, .int .i64 n, .int .i64 m] 147 (0, 0)) := fun m => setCell_row (setCell_row (setCell_row hZ 0 _) 1 _) 2 _
 have HXE : ∀ m : Int, Xt w (((w1.setCell ⟨B, 0, none⟩ (.int .i64 a)).setCell ⟨B, 1, none⟩ (.int .i64 n)).setCell ⟨B, 2, none⟩ (.int .i64 m)).drew := fun m => Xt.drew (((hx1.grownB (setCell_grown _ _ _ _) (fun q hq => by cases hq; rw [hB]; exact Nat.le_refl _)).grownB (setCell_grown _ _ _ _) (fun q hq => by cases hq; rw [hB]; exact Nat.le_refl _)).grownB (setCell_grown _ _ _ _) (fun q hq => by cases hq; rw [hB]; exact Nat.le_refl _))
 clear hw0 hw1 hs0 hZ hL
 by_cases h1 : 1 ≤ a
 rotate_left
 · refine wp_region_held_drew (S := fun w' => w'.cell? ⟨B + 1, 0, none⟩ = some (.int .i64 a) ∧ w'.cell? ⟨B + 1, 1, none⟩ = some (.int .i64 n) ∧ w'.cell? ⟨B + 1, 2, none⟩ = some (.int .i64 4096)) (by kernel_rfl) hl (fun hHeld => ?_)
   refine tkH 0 ?_ ?_ ?_
   rotate_left
   · intro W hSw; (try dsimp only at hSw); obtain ⟨z0, z1, z2⟩ := hSw; go_simp; first | done | with_reducible rfl
   try simp only [Act.put, nm]
   refine tkH 1 ?_ ?_ ?_
   rotate_left
   · intro W hSw; (try dsimp only at hSw); obtain ⟨z0, z1, z2⟩ := hSw; go_simp; first | done | with_reducible rfl
   try simp only [Act.put, nm]
   refine tkH 2 (.bool false) ?_ ?_
   · intro W hSw; (try dsimp only at hSw); obtain ⟨z0, z1, z2⟩ := hSw; clear z0 z1 z2; go_simp; first | done | with_reducible rfl | (simp; omega) | (simp only [neg_4096, neg_256]; omega)
   try simp only [Act.put, nm]
   refine tkH 3 ?_ ?_ ?_
   rotate_left
   · intro W hSw; (try dsimp only at hSw); obtain ⟨z0, z1, z2⟩ := hSw; go_simp; first | done | with_reducible rfl
   try simp only [Act.put, nm]
   refine skH 4 ?_
   try simp only [Act.put, nm]
   refine skH 5 ?_
   try simp only [Act.put, nm]
   refine skH 6 ?_
   try simp only [Act.put, nm]
   refine skH 7 ?_
   try simp only [Act.put, nm]
   refine tkH 8 ?_ ?_ ?_
   rotate_left
   · intro W hSw; (try dsimp only at hSw); obtain ⟨z0, z1, z2⟩ := hSw; go_simp; first | done | with_reducible rfl
   try simp only [Act.put, nm]
   refine tkH 9 ?_ ?_ ?_
   rotate_left
   · intro W hSw; (try dsimp only at hSw); obtain ⟨z0, z1, z2⟩ := hSw; go_simp; first | done | with_reducible rfl
   try simp only [Act.put, nm]
   refine skH 10 ?_
   try simp only [Act.put, nm]
   refine skH 11 ?_
   try simp only [Act.put, nm]
   refine skH 12 ?_
   try simp only [Act.put, nm]
   refine skH 13 ?_
   try simp only [Act.put, nm]
   refine skH 14 ?_
   try simp only [Act.put, nm]
   refine tkH 15 ?_ ?_ ?_
   rotate_left
   · intro W hSw; (try dsimp only at hSw); obtain ⟨z0, z1, z2⟩ := hSw; go_simp; first | done | with_reducible rfl
   try simp only [Act.put, nm]
   refine tkH 16 ?_ ?_ ?_
   rotate_left
   · intro W hSw; (try dsimp only at hSw); obtain ⟨z0, z1, z2⟩ := hSw; go_simp; first | done | with_reducible rfl
   try simp only [Act.put, nm]
   refine skH 17 ?_
   try simp only [Act.put, nm]
   refine skH 18 ?_
   try simp only [Act.put, nm]
   refine skH 19 ?_
   try simp only [Act.put, nm]
   refine skH 20 ?_
   try simp only [Act.put, nm]
   refine tkH 21 ?_ ?_ ?_
   rotate_left
   · intro W hSw; (try dsimp only at hSw); obtain ⟨z0, z1, z2⟩ := hSw; go_simp; first | done | with_reducible rfl
   try simp only [Act.put, nm]
   refine rdH 22 (fun K hK => ?_)
   go_simp
   refine hK.out _ _ (hw3 4096) (fun hHeld2 => ?_)
   clear hK K
   try simp only [Act.put, nm]
   refine rdH 23 (fun K hK => ?_)
   go_simp
   refine hK.out _ _ (hw3 4096) (fun hHeld2 => ?_)
   clear hK K
   refine wpAnyH_done (by kernel_rfl) ?_ _
   go_wp2_with fail
   (try simp only [Exit.inBlock, Exit.then])
   refine bodyPost_ret (v := .tuple #[.agg #[.int .i64 a, .int .i64 n, .int .i64 4096], .bool false]) ?_ rfl ⟨?_, HXE 4096⟩
   · rw [results_cell_tmp rfl]
     show ((asAddr (.pointer (some ⟨B, 0, none⟩))).run _ _).andThen _ = _
     simp only [asAddr, Sem.run_pure, Result.andThen_ok, run_loadVar_row _ _ _ 147 _ _ _ (HRW 4096) Tryz.underlying147 rfl (by kernel_rfl)]
     rfl
   · unfold linV; simp <;> (intros; omega)
 by_cases h2 : a ≤ 4096
 rotate_left
 · refine wp_region_held_drew (S := fun w' => w'.cell? ⟨B + 1, 0, none⟩ = some (.int .i64 a) ∧ w'.cell? ⟨B + 1, 1, none⟩ = some (.int .i64 n) ∧ w'.cell? ⟨B + 1, 2, none⟩ = some (.int .i64 4096)) (by kernel_rfl) hl (fun hHeld => ?_)
   refine tkH 0 ?_ ?_ ?_
   rotate_left
   · intro W hSw; (try dsimp only at hSw); obtain ⟨z0, z1, z2⟩ := hSw; go_simp; first | done | with_reducible rfl
   try simp only [Act.put, nm]
   refine tkH 1 ?_ ?_ ?_
   rotate_left
   · intro W hSw; (try dsimp only at hSw); obtain ⟨z0, z1, z2⟩ := hSw; go_simp; first | done | with_reducible rfl
   try simp only [Act.put, nm]
   refine tkH 2 (.bool true) ?_ ?_
   · intro W hSw; (try dsimp only at hSw); obtain ⟨z0, z1, z2⟩ := hSw; clear z0 z1 z2; go_simp; first | done | with_reducible rfl | (simp; omega) | (simp only [neg_4096, neg_256]; omega)
   try simp only [Act.put, nm]
   refine tkH 3 ?_ ?_ ?_
   rotate_left
   · intro W hSw; (try dsimp only at hSw); obtain ⟨z0, z1, z2⟩ := hSw; go_simp; first | done | with_reducible rfl
   try simp only [Act.put, nm]
   refine tkH 4 ?_ ?_ ?_
   rotate_left
   · intro W hSw; (try dsimp only at hSw); obtain ⟨z0, z1, z2⟩ := hSw; go_simp; first | done | with_reducible rfl
   try simp only [Act.put, nm]
   refine tkH 5 ?_ ?_ ?_
   rotate_left
   · intro W hSw; (try dsimp only at hSw); obtain ⟨z0, z1, z2⟩ := hSw; go_simp; first | done | with_reducible rfl
   try simp only [Act.put, nm]
   refine tkH 6 ?_ ?_ ?_
   rotate_left
   · intro W hSw; (try dsimp only at hSw); obtain ⟨z0, z1, z2⟩ := hSw; go_simp; first | done | with_reducible rfl
   try simp only [Act.put, nm]
   refine tkH 7 (.bool false) ?_ ?_
   · intro W hSw; (try dsimp only at hSw); obtain ⟨z0, z1, z2⟩ := hSw; clear z0 z1 z2; go_simp; first | done | with_reducible rfl | (simp; omega) | (simp only [neg_4096, neg_256]; omega)
   try simp only [Act.put, nm]
   refine tkH 8 ?_ ?_ ?_
   rotate_left
   · intro W hSw; (try dsimp only at hSw); obtain ⟨z0, z1, z2⟩ := hSw; go_simp; first | done | with_reducible rfl
   try simp only [Act.put, nm]
   refine tkH 9 ?_ ?_ ?_
   rotate_left
   · intro W hSw; (try dsimp only at hSw); obtain ⟨z0, z1, z2⟩ := hSw; go_simp; first | done | with_reducible rfl
   try simp only [Act.put, nm]
   refine skH 10 ?_
   try simp only [Act.put, nm]
   refine skH 11 ?_
   try simp only [Act.put, nm]
   refine skH 12 ?_
   try simp only [Act.put, nm]
   refine skH 13 ?_
   try simp only [Act.put, nm]
   refine skH 14 ?_
   try simp only [Act.put, nm]
   refine tkH 15 ?_ ?_ ?_
   rotate_left
   · intro W hSw; (try dsimp only at hSw); obtain ⟨z0, z1, z2⟩ := hSw; go_simp; first | done | with_reducible rfl
   try simp only [Act.put, nm]
   refine tkH 16 ?_ ?_ ?_
   rotate_left
   · intro W hSw; (try dsimp only at hSw); obtain ⟨z0, z1, z2⟩ := hSw; go_simp; first | done | with_reducible rfl
   try simp only [Act.put, nm]
   refine skH 17 ?_
   try simp only [Act.put, nm]
   refine skH 18 ?_
   try simp only [Act.put, nm]
   refine skH 19 ?_
   try simp only [Act.put, nm]
   refine skH 20 ?_
   try simp only [Act.put, nm]
   refine tkH 21 ?_ ?_ ?_
   rotate_left
   · intro W hSw; (try dsimp only at hSw); obtain ⟨z0, z1, z2⟩ := hSw; go_simp; first | done | with_reducible rfl
   try simp only [Act.put, nm]
   refine rdH 22 (fun K hK => ?_)
   go_simp
   refine hK.out _ _ (hw3 4096) (fun hHeld2 => ?_)
   clear hK K
   try simp only [Act.put, nm]
   refine rdH 23 (fun K hK => ?_)
   go_simp
   refine hK.out _ _ (hw3 4096) (fun hHeld2 => ?_)
   clear hK K
   refine wpAnyH_done (by kernel_rfl) ?_ _
   go_wp2_with fail
   (try simp only [Exit.inBlock, Exit.then])
   refine bodyPost_ret (v := .tuple #[.agg #[.int .i64 a, .int .i64 n, .int .i64 4096], .bool false]) ?_ rfl ⟨?_, HXE 4096⟩
   · rw [results_cell_tmp rfl]
     show ((asAddr (.pointer (some ⟨B, 0, none⟩))).run _ _).andThen _ = _
     simp only [asAddr, Sem.run_pure, Result.andThen_ok, run_loadVar_row _ _ _ 147 _ _ _ (HRW 4096) Tryz.underlying147 rfl (by kernel_rfl)]
     rfl
   · unfold linV; simp <;> (intros; omega)
 by_cases h3 : -4096 ≤ n
 rotate_left
 · refine wp_region_held_drew (S := fun w' => w'.cell? ⟨B + 1, 0, none⟩ = some (.int .i64 a) ∧ w'.cell? ⟨B + 1, 1, none⟩ = some (.int .i64 n) ∧ w'.cell? ⟨B + 1, 2, none⟩ = some (.int .i64 4096)) (by kernel_rfl) hl (fun hHeld => ?_)
   refine tkH 0 ?_ ?_ ?_
   rotate_left
   · intro W hSw; (try dsimp only at hSw); obtain ⟨z0, z1, z2⟩ := hSw; go_simp; first | done | with_reducible rfl
   try simp only [Act.put, nm]
   refine tkH 1 ?_ ?_ ?_
   rotate_left
   · intro W hSw; (try dsimp only at hSw); obtain ⟨z0, z1, z2⟩ := hSw; go_simp; first | done | with_reducible rfl
   try simp only [Act.put, nm]
   refine tkH 2 (.bool true) ?_ ?_
   · intro W hSw; (try dsimp only at hSw); obtain ⟨z0, z1, z2⟩ := hSw; clear z0 z1 z2; go_simp; first | done | with_reducible rfl | (simp; omega) | (simp only [neg_4096, neg_256]; omega)
   try simp only [Act.put, nm]
   refine tkH 3 ?_ ?_ ?_
   rotate_left
   · intro W hSw; (try dsimp only at hSw); obtain ⟨z0, z1, z2⟩ := hSw; go_simp; first | done | with_reducible rfl
   try simp only [Act.put, nm]
   refine tkH 4 ?_ ?_ ?_
   rotate_left
   · intro W hSw; (try dsimp only at hSw); obtain ⟨z0, z1, z2⟩ := hSw; go_simp; first | done | with_reducible rfl
   try simp only [Act.put, nm]
   refine tkH 5 ?_ ?_ ?_
   rotate_left
   · intro W hSw; (try dsimp only at hSw); obtain ⟨z0, z1, z2⟩ := hSw; go_simp; first | done | with_reducible rfl
   try simp only [Act.put, nm]
   refine tkH 6 ?_ ?_ ?_
   rotate_left
   · intro W hSw; (try dsimp only at hSw); obtain ⟨z0, z1, z2⟩ := hSw; go_simp; first | done | with_reducible rfl
   try simp only [Act.put, nm]
   refine tkH 7 (.bool true) ?_ ?_
   · intro W hSw; (try dsimp only at hSw); obtain ⟨z0, z1, z2⟩ := hSw; clear z0 z1 z2; go_simp; first | done | with_reducible rfl | (simp; omega) | (simp only [neg_4096, neg_256]; omega)
   try simp only [Act.put, nm]
   refine tkH 8 ?_ ?_ ?_
   rotate_left
   · intro W hSw; (try dsimp only at hSw); obtain ⟨z0, z1, z2⟩ := hSw; go_simp; first | done | with_reducible rfl
   try simp only [Act.put, nm]
   refine tkH 9 ?_ ?_ ?_
   rotate_left
   · intro W hSw; (try dsimp only at hSw); obtain ⟨z0, z1, z2⟩ := hSw; go_simp; first | done | with_reducible rfl
   try simp only [Act.put, nm]
   refine tkH 10 ?_ ?_ ?_
   rotate_left
   · intro W hSw; (try dsimp only at hSw); obtain ⟨z0, z1, z2⟩ := hSw; go_simp; first | done | with_reducible rfl
   try simp only [Act.put, nm]
   refine tkH 11 ?_ ?_ ?_
   rotate_left
   · intro W hSw; (try dsimp only at hSw); obtain ⟨z0, z1, z2⟩ := hSw; go_simp; first | done | with_reducible rfl
   try simp only [Act.put, nm]
   refine tkH 12 ?_ ?_ ?_
   rotate_left
   · intro W hSw; (try dsimp only at hSw); obtain ⟨z0, z1, z2⟩ := hSw; go_simp; first | done | with_reducible rfl
   try simp only [Act.put, nm]
   refine tkH 13 ?_ ?_ ?_
   rotate_left
   · intro W hSw; (try dsimp only at hSw); obtain ⟨z0, z1, z2⟩ := hSw; go_simp; first | done | with_reducible rfl
   try simp only [Act.put, nm]
   refine tkH 14 (.bool false) ?_ ?_
   · intro W hSw; (try dsimp only at hSw); obtain ⟨z0, z1, z2⟩ := hSw; clear z0 z1 z2; go_simp; first | done | with_reducible rfl | (simp; omega) | (simp only [neg_4096]; omega)
   try simp only [Act.put, nm]
   refine tkH 15 ?_ ?_ ?_
   rotate_left
   · intro W hSw; (try dsimp only at hSw); obtain ⟨z0, z1, z2⟩ := hSw; go_simp; first | done | with_reducible rfl
   try simp only [Act.put, nm]
   refine tkH 16 ?_ ?_ ?_
   rotate_left
   · intro W hSw; (try dsimp only at hSw); obtain ⟨z0, z1, z2⟩ := hSw; go_simp; first | done | with_reducible rfl
   try simp only [Act.put, nm]
   refine skH 17 ?_
   try simp only [Act.put, nm]
   refine skH 18 ?_
   try simp only [Act.put, nm]
   refine skH 19 ?_
   try simp only [Act.put, nm]
   refine skH 20 ?_
   try simp only [Act.put, nm]
   refine tkH 21 ?_ ?_ ?_
   rotate_left
   · intro W hSw; (try dsimp only at hSw); obtain ⟨z0, z1, z2⟩ := hSw; go_simp; first | done | with_reducible rfl
   try simp only [Act.put, nm]
   refine rdH 22 (fun K hK => ?_)
   go_simp
   refine hK.out _ _ (hw3 4096) (fun hHeld2 => ?_)
   clear hK K
   try simp only [Act.put, nm]
   refine rdH 23 (fun K hK => ?_)
   go_simp
   refine hK.out _ _ (hw3 4096) (fun hHeld2 => ?_)
   clear hK K
   refine wpAnyH_done (by kernel_rfl) ?_ _
   go_wp2_with fail
   (try simp only [Exit.inBlock, Exit.then])
   refine bodyPost_ret (v := .tuple #[.agg #[.int .i64 a, .int .i64 n, .int .i64 4096], .bool false]) ?_ rfl ⟨?_, HXE 4096⟩
   · rw [results_cell_tmp rfl]
     show ((asAddr (.pointer (some ⟨B, 0, none⟩))).run _ _).andThen _ = _
     simp only [asAddr, Sem.run_pure, Result.andThen_ok, run_loadVar_row _ _ _ 147 _ _ _ (HRW 4096) Tryz.underlying147 rfl (by kernel_rfl)]
     rfl
   · unfold linV; simp <;> (intros; omega)
 by_cases h4 : n ≤ 4096
 rotate_left
 · refine wp_region_held_drew (S := fun w' => w'.cell? ⟨B + 1, 0, none⟩ = some (.int .i64 a) ∧ w'.cell? ⟨B + 1, 1, none⟩ = some (.int .i64 n) ∧ w'.cell? ⟨B + 1, 2, none⟩ = some (.int .i64 4096)) (by kernel_rfl) hl (fun hHeld => ?_)
   refine tkH 0 ?_ ?_ ?_
   rotate_left
   · intro W hSw; (try dsimp only at hSw); obtain ⟨z0, z1, z2⟩ := hSw; go_simp; first | done | with_reducible rfl
   try simp only [Act.put, nm]
   refine tkH 1 ?_ ?_ ?_
   rotate_left
   · intro W hSw; (try dsimp only at hSw); obtain ⟨z0, z1, z2⟩ := hSw; go_simp; first | done | with_reducible rfl
   try simp only [Act.put, nm]
   refine tkH 2 (.bool true) ?_ ?_
   · intro W hSw; (try dsimp only at hSw); obtain ⟨z0, z1, z2⟩ := hSw; clear z0 z1 z2; go_simp; first | done | with_reducible rfl | (simp; omega) | (simp only [neg_4096, neg_256]; omega)
   try simp only [Act.put, nm]
   refine tkH 3 ?_ ?_ ?_
   rotate_left
   · intro W hSw; (try dsimp only at hSw); obtain ⟨z0, z1, z2⟩ := hSw; go_simp; first | done | with_reducible rfl
   try simp only [Act.put, nm]
   refine tkH 4 ?_ ?_ ?_
   rotate_left
   · intro W hSw; (try dsimp only at hSw); obtain ⟨z0, z1, z2⟩ := hSw; go_simp; first | done | with_reducible rfl
   try simp only [Act.put, nm]
   refine tkH 5 ?_ ?_ ?_
   rotate_left
   · intro W hSw; (try dsimp only at hSw); obtain ⟨z0, z1, z2⟩ := hSw; go_simp; first | done | with_reducible rfl
   try simp only [Act.put, nm]
   refine tkH 6 ?_ ?_ ?_
   rotate_left
   · intro W hSw; (try dsimp only at hSw); obtain ⟨z0, z1, z2⟩ := hSw; go_simp; first | done | with_reducible rfl
   try simp only [Act.put, nm]
   refine tkH 7 (.bool true) ?_ ?_
   · intro W hSw; (try dsimp only at hSw); obtain ⟨z0, z1, z2⟩ := hSw; clear z0 z1 z2; go_simp; first | done | with_reducible rfl | (simp; omega) | (simp only [neg_4096, neg_256]; omega)
   try simp only [Act.put, nm]
   refine tkH 8 ?_ ?_ ?_
   rotate_left
   · intro W hSw; (try dsimp only at hSw); obtain ⟨z0, z1, z2⟩ := hSw; go_simp; first | done | with_reducible rfl
   try simp only [Act.put, nm]
   refine tkH 9 ?_ ?_ ?_
   rotate_left
   · intro W hSw; (try dsimp only at hSw); obtain ⟨z0, z1, z2⟩ := hSw; go_simp; first | done | with_reducible rfl
   try simp only [Act.put, nm]
   refine tkH 10 ?_ ?_ ?_
   rotate_left
   · intro W hSw; (try dsimp only at hSw); obtain ⟨z0, z1, z2⟩ := hSw; go_simp; first | done | with_reducible rfl
   try simp only [Act.put, nm]
   refine tkH 11 ?_ ?_ ?_
   rotate_left
   · intro W hSw; (try dsimp only at hSw); obtain ⟨z0, z1, z2⟩ := hSw; go_simp; first | done | with_reducible rfl
   try simp only [Act.put, nm]
   refine tkH 12 ?_ ?_ ?_
   rotate_left
   · intro W hSw; (try dsimp only at hSw); obtain ⟨z0, z1, z2⟩ := hSw; go_simp; first | done | with_reducible rfl
   try simp only [Act.put, nm]
   refine tkH 13 ?_ ?_ ?_
   rotate_left
   · intro W hSw; (try dsimp only at hSw); obtain ⟨z0, z1, z2⟩ := hSw; go_simp; first | done | with_reducible rfl
   try simp only [Act.put, nm]
   refine tkH 14 (.bool true) ?_ ?_
   · intro W hSw; (try dsimp only at hSw); obtain ⟨z0, z1, z2⟩ := hSw; clear z0 z1 z2; go_simp; first | done | with_reducible rfl | (simp; omega) | (simp only [neg_4096]; omega)
   try simp only [Act.put, nm]
   refine tkH 15 ?_ ?_ ?_
   rotate_left
   · intro W hSw; (try dsimp only at hSw); obtain ⟨z0, z1, z2⟩ := hSw; go_simp; first | done | with_reducible rfl
   try simp only [Act.put, nm]
   refine tkH 16 ?_ ?_ ?_
   rotate_left
   · intro W hSw; (try dsimp only at hSw); obtain ⟨z0, z1, z2⟩ := hSw; go_simp; first | done | with_reducible rfl
   try simp only [Act.put, nm]
   refine tkH 17 ?_ ?_ ?_
   rotate_left
   · intro W hSw; (try dsimp only at hSw); obtain ⟨z0, z1, z2⟩ := hSw; go_simp; first | done | with_reducible rfl
   try simp only [Act.put, nm]
   refine tkH 18 ?_ ?_ ?_
   rotate_left
   · intro W hSw; (try dsimp only at hSw); obtain ⟨z0, z1, z2⟩ := hSw; go_simp; first | done | with_reducible rfl
   try simp only [Act.put, nm]
   refine tkH 19 ?_ ?_ ?_
   rotate_left
   · intro W hSw; (try dsimp only at hSw); obtain ⟨z0, z1, z2⟩ := hSw; go_simp; first | done | with_reducible rfl
   try simp only [Act.put, nm]
   refine tkH 20 (.bool false) ?_ ?_
   · intro W hSw; (try dsimp only at hSw); obtain ⟨z0, z1, z2⟩ := hSw; clear z0 z1 z2; go_simp; first | done | with_reducible rfl | (simp; omega) | (simp only [neg_4096, neg_256]; omega)
   try simp only [Act.put, nm]
   refine tkH 21 ?_ ?_ ?_
   rotate_left
   · intro W hSw; (try dsimp only at hSw); obtain ⟨z0, z1, z2⟩ := hSw; go_simp; first | done | with_reducible rfl
   try simp only [Act.put, nm]
   refine rdH 22 (fun K hK => ?_)
   go_simp
   refine hK.out _ _ (hw3 4096) (fun hHeld2 => ?_)
   clear hK K
   try simp only [Act.put, nm]
   refine rdH 23 (fun K hK => ?_)
   go_simp
   refine hK.out _ _ (hw3 4096) (fun hHeld2 => ?_)
   clear hK K
   refine wpAnyH_done (by kernel_rfl) ?_ _
   go_wp2_with fail
   (try simp only [Exit.inBlock, Exit.then])
   refine bodyPost_ret (v := .tuple #[.agg #[.int .i64 a, .int .i64 n, .int .i64 4096], .bool false]) ?_ rfl ⟨?_, HXE 4096⟩
   · rw [results_cell_tmp rfl]
     show ((asAddr (.pointer (some ⟨B, 0, none⟩))).run _ _).andThen _ = _
     simp only [asAddr, Sem.run_pure, Result.andThen_ok, run_loadVar_row _ _ _ 147 _ _ _ (HRW 4096) Tryz.underlying147 rfl (by kernel_rfl)]
     rfl
   · unfold linV; simp [h4] <;> (intros; omega)
 refine wp_region_held_drew (S := fun w' => w'.cell? ⟨B + 1, 0, none⟩ = some (.int .i64 a) ∧ w'.cell? ⟨B + 1, 1, none⟩ = some (.int .i64 n) ∧ w'.cell? ⟨B + 1, 2, none⟩ = some (.int .i64 4096)) (by kernel_rfl) hl (fun hHeld => ?_)
 refine tkH 0 ?_ ?_ ?_
 rotate_left
 · intro W hSw; (try dsimp only at hSw); obtain ⟨z0, z1, z2⟩ := hSw; go_simp; first | done | with_reducible rfl
 try simp only [Act.put, nm]
 refine tkH 1 ?_ ?_ ?_
 rotate_left
 · intro W hSw; (try dsimp only at hSw); obtain ⟨z0, z1, z2⟩ := hSw; go_simp; first | done | with_reducible rfl
 try simp only [Act.put, nm]
 refine tkH 2 (.bool true) ?_ ?_
 · intro W hSw; (try dsimp only at hSw); obtain ⟨z0, z1, z2⟩ := hSw; clear z0 z1 z2; go_simp; first | done | with_reducible rfl | (simp; omega) | (simp only [neg_4096, neg_256]; omega)
 try simp only [Act.put, nm]
 refine tkH 3 ?_ ?_ ?_
 rotate_left
 · intro W hSw; (try dsimp only at hSw); obtain ⟨z0, z1, z2⟩ := hSw; go_simp; first | done | with_reducible rfl
 try simp only [Act.put, nm]
 refine tkH 4 ?_ ?_ ?_
 rotate_left
 · intro W hSw; (try dsimp only at hSw); obtain ⟨z0, z1, z2⟩ := hSw; go_simp; first | done | with_reducible rfl
 try simp only [Act.put, nm]
 refine tkH 5 ?_ ?_ ?_
 rotate_left
 · intro W hSw; (try dsimp only at hSw); obtain ⟨z0, z1, z2⟩ := hSw; go_simp; first | done | with_reducible rfl
 try simp only [Act.put, nm]
 refine tkH 6 ?_ ?_ ?_
 rotate_left
 · intro W hSw; (try dsimp only at hSw); obtain ⟨z0, z1, z2⟩ := hSw; go_simp; first | done | with_reducible rfl
 try simp only [Act.put, nm]
 refine tkH 7 (.bool true) ?_ ?_
 · intro W hSw; (try dsimp only at hSw); obtain ⟨z0, z1, z2⟩ := hSw; clear z0 z1 z2; go_simp; first | done | with_reducible rfl | (simp; omega) | (simp only [neg_4096, neg_256]; omega)
 try simp only [Act.put, nm]
 refine tkH 8 ?_ ?_ ?_
 rotate_left
 · intro W hSw; (try dsimp only at hSw); obtain ⟨z0, z1, z2⟩ := hSw; go_simp; first | done | with_reducible rfl
 try simp only [Act.put, nm]
 refine tkH 9 ?_ ?_ ?_
 rotate_left
 · intro W hSw; (try dsimp only at hSw); obtain ⟨z0, z1, z2⟩ := hSw; go_simp; first | done | with_reducible rfl
 try simp only [Act.put, nm]
 refine tkH 10 ?_ ?_ ?_
 rotate_left
 · intro W hSw; (try dsimp only at hSw); obtain ⟨z0, z1, z2⟩ := hSw; go_simp; first | done | with_reducible rfl
 try simp only [Act.put, nm]
 refine tkH 11 ?_ ?_ ?_
 rotate_left
 · intro W hSw; (try dsimp only at hSw); obtain ⟨z0, z1, z2⟩ := hSw; go_simp; first | done | with_reducible rfl
 try simp only [Act.put, nm]
 refine tkH 12 ?_ ?_ ?_
 rotate_left
 · intro W hSw; (try dsimp only at hSw); obtain ⟨z0, z1, z2⟩ := hSw; go_simp; first | done | with_reducible rfl
 try simp only [Act.put, nm]
 refine tkH 13 ?_ ?_ ?_
 rotate_left
 · intro W hSw; (try dsimp only at hSw); obtain ⟨z0, z1, z2⟩ := hSw; go_simp; first | done | with_reducible rfl
 try simp only [Act.put, nm]
 refine tkH 14 (.bool true) ?_ ?_
 · intro W hSw; (try dsimp only at hSw); obtain ⟨z0, z1, z2⟩ := hSw; clear z0 z1 z2; go_simp; first | done | with_reducible rfl | (simp; omega) | (simp only [neg_4096]; omega)
 try simp only [Act.put, nm]
 refine tkH 15 ?_ ?_ ?_
 rotate_left
 · intro W hSw; (try dsimp only at hSw); obtain ⟨z0, z1, z2⟩ := hSw; go_simp; first | done | with_reducible rfl
 try simp only [Act.put, nm]
 refine tkH 16 ?_ ?_ ?_
 rotate_left
 · intro W hSw; (try dsimp only at hSw); obtain ⟨z0, z1, z2⟩ := hSw; go_simp; first | done | with_reducible rfl
 try simp only [Act.put, nm]
 refine tkH 17 ?_ ?_ ?_
 rotate_left
 · intro W hSw; (try dsimp only at hSw); obtain ⟨z0, z1, z2⟩ := hSw; go_simp; first | done | with_reducible rfl
 try simp only [Act.put, nm]
 refine tkH 18 ?_ ?_ ?_
 rotate_left
 · intro W hSw; (try dsimp only at hSw); obtain ⟨z0, z1, z2⟩ := hSw; go_simp; first | done | with_reducible rfl
 try simp only [Act.put, nm]
 refine tkH 19 ?_ ?_ ?_
 rotate_left
 · intro W hSw; (try dsimp only at hSw); obtain ⟨z0, z1, z2⟩ := hSw; go_simp; first | done | with_reducible rfl
 try simp only [Act.put, nm]
 refine tkH 20 (.bool true) ?_ ?_
 · intro W hSw; (try dsimp only at hSw); obtain ⟨z0, z1, z2⟩ := hSw; clear z0 z1 z2; go_simp; first | done | with_reducible rfl | (simp; omega) | (simp only [neg_4096, neg_256]; omega)
 try simp only [Act.put, nm]
 refine tkH 21 ?_ ?_ ?_
 rotate_left
 · intro W hSw; (try dsimp only at hSw); obtain ⟨z0, z1, z2⟩ := hSw; go_simp; first | done | with_reducible rfl
 try simp only [Act.put, nm]
 refine rdH 22 (fun K hK => ?_)
 go_simp
 refine hK.out _ _ (hw3 4096) (fun hHeld2 => ?_)
 clear hK K
 try simp only [Act.put, nm]
 refine rdH 23 (fun K hK => ?_)
 go_simp
 refine hK.out _ _ (hw3 4096) (fun hHeld2 => ?_)
 clear hK K
 refine wpAnyH_done (by kernel_rfl) ?_ _
 go_wp2_with fail
 (try simp only [Exit.inBlock, Exit.then])
 refine bodyPost_ret (v := .tuple #[.agg #[.int .i64 a, .int .i64 n, .int .i64 4096], .bool true]) ?_ rfl ⟨?_, HXE 4096⟩
 · rw [results_cell_tmp rfl]
   show ((asAddr (.pointer (some ⟨B, 0, none⟩))).run _ _).andThen _ = _
   simp only [asAddr, Sem.run_pure, Result.andThen_ok, run_loadVar_row _ _ _ 147 _ _ _ (HRW 4096) Tryz.underlying147 rfl (by kernel_rfl)]
   rfl
 · unfold linV; simp [h1, h2, h3, h4] <;> (intros; omega)
set_option maxRecDepth 100000 in
set_option maxHeartbeats 8000000 in
theorem madeL_true (a n : Int) (w : World) :
    Calls Tryz.prog 114 #[.bool true, .int .i64 a, .int .i64 n] w fun e w' => e = .returned (.tuple #[linV (madeL 256 a n).1, .bool (madeL 256 a n).2]) ∧ Xt w w' := by
 unfold madeL
 go_enter Tryz.func114, Tryz.ntmps114
 go_upto_region 4 with fail
 obtain ⟨B, hB⟩ : ∃ B, w.heap.size = B := ⟨_, rfl⟩
 rw [hB]
 obtain ⟨w0, hw0⟩ : ∃ w0, w.alloc (.cells #[.int .i64 0, .int .i64 0, .int .i64 0] 147) = w0 := ⟨_, rfl⟩
 rw [hw0]
 have hs0 : w0.heap.size = B + 1 := by rw [← hw0, ← hB]; simp
 obtain ⟨w1, hw1⟩ : ∃ w1, w0.alloc (.cells #[.int .i64 a, .int .i64 n, .int .i64 256] 147) = w1 := ⟨_, rfl⟩
 rw [hw1]
 have hx1 : Xt w w1 := by rw [← hw1, ← hw0]; exact ((Xt.refl w).alloc _).alloc _
 have hZ : w1.heap[B]? = some (.cells #[.int .i64 0, .int .i64 0, .int .i64 0] 147 (0, 0)) := by
  rw [← hw1]; exact (Below.heap_alloc w0 _ _ (by omega)).trans (by rw [← hw0, ← hB]; exact (MapKept.heap_alloc w _).1)
 have hL : w1.heap[B + 1]? = some (.cells #[.int .i64 a, .int .i64 n, .int .i64 256] 147 (0, 0)) := by rw [← hw1, ← hs0]; exact (MapKept.heap_alloc w0 _).1
 obtain ⟨⟨b0, b1, b2⟩, f0, f1, f2⟩ := cells3 hZ
 obtain ⟨hl, _⟩ := cells3 hL
 have hw3 : ∀ m : Int, ((((w1.setCell ⟨B, 0, none⟩ (.int .i64 a)).setCell ⟨B, 1, none⟩ (.int .i64 n)).setCell ⟨B, 2, none⟩ (.int .i64 m)).drew.cell? ⟨B + 1, 0, none⟩ = some (.int .i64 a) ∧ (((w1.setCell ⟨B, 0, none⟩ (.int .i64 a)).setCell ⟨B, 1, none⟩ (.int .i64 n)).setCell ⟨B, 2, none⟩ (.int .i64 m)).drew.cell? ⟨B + 1, 1, none⟩ = some (.int .i64 n) ∧ (((w1.setCell ⟨B, 0, none⟩ (.int .i64 a)).setCell ⟨B, 1, none⟩ (.int .i64 n)).setCell ⟨B, 2, none⟩ (.int .i64 m)).drew.cell? ⟨B + 1, 2, none⟩ = some (.int .i64 256)) := fun m => by
  have e : ∀ o, (((w1.setCell ⟨B, 0, none⟩ (.int .i64 a)).setCell ⟨B, 1, none⟩ (.int .i64 n)).setCell ⟨B, 2, none⟩ (.int .i64 m)).drew.cell? ⟨B + 1, o, none⟩ = w1.cell? ⟨B + 1, o, none⟩ := fun o => by
   show (((w1.setCell ⟨B, 0, none⟩ (.int .i64 a)).setCell ⟨B, 1, none⟩ (.int .i64 n)).setCell ⟨B, 2, none⟩ (.int .i64 m)).cell? _ = _
   rw [World.cell?_setCell_other _ _ _ _ (by simp), World.cell?_setCell_other _ _ _ _ (by simp), World.cell?_setCell_other _ _ _ _ (by simp)]
  exact ⟨(e 0).trans hl.1, (e 1).trans hl.2.1, (e 2).trans hl.2.2⟩
 have HRW : ∀ m : Int, (((w1.setCell ⟨B, 0, none⟩ (.int .i64 a)).setCell ⟨B, 1, none⟩ (.int .i64 n)).setCell ⟨B, 2, none⟩ (.int .i64 m)).drew.heap[B]? = some (.cells #[.int .i64 a, .int .i64 n, .int .i64 m] 147 (0, 0)) := fun m => setCell_row (setCell_row (setCell_row hZ 0 _) 1 _) 2 _
 have HXE : ∀ m : Int, Xt w (((w1.setCell ⟨B, 0, none⟩ (.int .i64 a)).setCell ⟨B, 1, none⟩ (.int .i64 n)).setCell ⟨B, 2, none⟩ (.int .i64 m)).drew := fun m => Xt.drew (((hx1.grownB (setCell_grown _ _ _ _) (fun q hq => by cases hq; rw [hB]; exact Nat.le_refl _)).grownB (setCell_grown _ _ _ _) (fun q hq => by cases hq; rw [hB]; exact Nat.le_refl _)).grownB (setCell_grown _ _ _ _) (fun q hq => by cases hq; rw [hB]; exact Nat.le_refl _))
 clear hw0 hw1 hs0 hZ hL
 by_cases h1 : 1 ≤ a
 rotate_left
 · refine wp_region_held_drew (S := fun w' => w'.cell? ⟨B + 1, 0, none⟩ = some (.int .i64 a) ∧ w'.cell? ⟨B + 1, 1, none⟩ = some (.int .i64 n) ∧ w'.cell? ⟨B + 1, 2, none⟩ = some (.int .i64 256)) (by kernel_rfl) hl (fun hHeld => ?_)
   refine tkH 0 ?_ ?_ ?_
   rotate_left
   · intro W hSw; (try dsimp only at hSw); obtain ⟨z0, z1, z2⟩ := hSw; go_simp; first | done | with_reducible rfl
   try simp only [Act.put, nm]
   refine tkH 1 ?_ ?_ ?_
   rotate_left
   · intro W hSw; (try dsimp only at hSw); obtain ⟨z0, z1, z2⟩ := hSw; go_simp; first | done | with_reducible rfl
   try simp only [Act.put, nm]
   refine tkH 2 (.bool false) ?_ ?_
   · intro W hSw; (try dsimp only at hSw); obtain ⟨z0, z1, z2⟩ := hSw; clear z0 z1 z2; go_simp; first | done | with_reducible rfl | (simp; omega) | (simp only [neg_4096, neg_256]; omega)
   try simp only [Act.put, nm]
   refine tkH 3 ?_ ?_ ?_
   rotate_left
   · intro W hSw; (try dsimp only at hSw); obtain ⟨z0, z1, z2⟩ := hSw; go_simp; first | done | with_reducible rfl
   try simp only [Act.put, nm]
   refine skH 4 ?_
   try simp only [Act.put, nm]
   refine skH 5 ?_
   try simp only [Act.put, nm]
   refine skH 6 ?_
   try simp only [Act.put, nm]
   refine skH 7 ?_
   try simp only [Act.put, nm]
   refine tkH 8 ?_ ?_ ?_
   rotate_left
   · intro W hSw; (try dsimp only at hSw); obtain ⟨z0, z1, z2⟩ := hSw; go_simp; first | done | with_reducible rfl
   try simp only [Act.put, nm]
   refine tkH 9 ?_ ?_ ?_
   rotate_left
   · intro W hSw; (try dsimp only at hSw); obtain ⟨z0, z1, z2⟩ := hSw; go_simp; first | done | with_reducible rfl
   try simp only [Act.put, nm]
   refine skH 10 ?_
   try simp only [Act.put, nm]
   refine skH 11 ?_
   try simp only [Act.put, nm]
   refine skH 12 ?_
   try simp only [Act.put, nm]
   refine skH 13 ?_
   try simp only [Act.put, nm]
   refine skH 14 ?_
   try simp only [Act.put, nm]
   refine tkH 15 ?_ ?_ ?_
   rotate_left
   · intro W hSw; (try dsimp only at hSw); obtain ⟨z0, z1, z2⟩ := hSw; go_simp; first | done | with_reducible rfl
   try simp only [Act.put, nm]
   refine tkH 16 ?_ ?_ ?_
   rotate_left
   · intro W hSw; (try dsimp only at hSw); obtain ⟨z0, z1, z2⟩ := hSw; go_simp; first | done | with_reducible rfl
   try simp only [Act.put, nm]
   refine skH 17 ?_
   try simp only [Act.put, nm]
   refine skH 18 ?_
   try simp only [Act.put, nm]
   refine skH 19 ?_
   try simp only [Act.put, nm]
   refine skH 20 ?_
   try simp only [Act.put, nm]
   refine tkH 21 ?_ ?_ ?_
   rotate_left
   · intro W hSw; (try dsimp only at hSw); obtain ⟨z0, z1, z2⟩ := hSw; go_simp; first | done | with_reducible rfl
   try simp only [Act.put, nm]
   refine rdH 22 (fun K hK => ?_)
   go_simp
   refine hK.out _ _ (hw3 256) (fun hHeld2 => ?_)
   clear hK K
   try simp only [Act.put, nm]
   refine rdH 23 (fun K hK => ?_)
   go_simp
   refine hK.out _ _ (hw3 256) (fun hHeld2 => ?_)
   clear hK K
   refine wpAnyH_done (by kernel_rfl) ?_ _
   go_wp2_with fail
   (try simp only [Exit.inBlock, Exit.then])
   refine bodyPost_ret (v := .tuple #[.agg #[.int .i64 a, .int .i64 n, .int .i64 256], .bool false]) ?_ rfl ⟨?_, HXE 256⟩
   · rw [results_cell_tmp rfl]
     show ((asAddr (.pointer (some ⟨B, 0, none⟩))).run _ _).andThen _ = _
     simp only [asAddr, Sem.run_pure, Result.andThen_ok, run_loadVar_row _ _ _ 147 _ _ _ (HRW 256) Tryz.underlying147 rfl (by kernel_rfl)]
     rfl
   · unfold linV; simp <;> (intros; omega)
 by_cases h2 : a ≤ 256
 rotate_left
 · refine wp_region_held_drew (S := fun w' => w'.cell? ⟨B + 1, 0, none⟩ = some (.int .i64 a) ∧ w'.cell? ⟨B + 1, 1, none⟩ = some (.int .i64 n) ∧ w'.cell? ⟨B + 1, 2, none⟩ = some (.int .i64 256)) (by kernel_rfl) hl (fun hHeld => ?_)
   refine tkH 0 ?_ ?_ ?_
   rotate_left
   · intro W hSw; (try dsimp only at hSw); obtain ⟨z0, z1, z2⟩ := hSw; go_simp; first | done | with_reducible rfl
   try simp only [Act.put, nm]
   refine tkH 1 ?_ ?_ ?_
   rotate_left
   · intro W hSw; (try dsimp only at hSw); obtain ⟨z0, z1, z2⟩ := hSw; go_simp; first | done | with_reducible rfl
   try simp only [Act.put, nm]
   refine tkH 2 (.bool true) ?_ ?_
   · intro W hSw; (try dsimp only at hSw); obtain ⟨z0, z1, z2⟩ := hSw; clear z0 z1 z2; go_simp; first | done | with_reducible rfl | (simp; omega) | (simp only [neg_4096, neg_256]; omega)
   try simp only [Act.put, nm]
   refine tkH 3 ?_ ?_ ?_
   rotate_left
   · intro W hSw; (try dsimp only at hSw); obtain ⟨z0, z1, z2⟩ := hSw; go_simp; first | done | with_reducible rfl
   try simp only [Act.put, nm]
   refine tkH 4 ?_ ?_ ?_
   rotate_left
   · intro W hSw; (try dsimp only at hSw); obtain ⟨z0, z1, z2⟩ := hSw; go_simp; first | done | with_reducible rfl
   try simp only [Act.put, nm]
   refine tkH 5 ?_ ?_ ?_
   rotate_left
   · intro W hSw; (try dsimp only at hSw); obtain ⟨z0, z1, z2⟩ := hSw; go_simp; first | done | with_reducible rfl
   try simp only [Act.put, nm]
   refine tkH 6 ?_ ?_ ?_
   rotate_left
   · intro W hSw; (try dsimp only at hSw); obtain ⟨z0, z1, z2⟩ := hSw; go_simp; first | done | with_reducible rfl
   try simp only [Act.put, nm]
   refine tkH 7 (.bool false) ?_ ?_
   · intro W hSw; (try dsimp only at hSw); obtain ⟨z0, z1, z2⟩ := hSw; clear z0 z1 z2; go_simp; first | done | with_reducible rfl | (simp; omega) | (simp only [neg_4096, neg_256]; omega)
   try simp only [Act.put, nm]
   refine tkH 8 ?_ ?_ ?_
   rotate_left
   · intro W hSw; (try dsimp only at hSw); obtain ⟨z0, z1, z2⟩ := hSw; go_simp; first | done | with_reducible rfl
   try simp only [Act.put, nm]
   refine tkH 9 ?_ ?_ ?_
   rotate_left
   · intro W hSw; (try dsimp only at hSw); obtain ⟨z0, z1, z2⟩ := hSw; go_simp; first | done | with_reducible rfl
   try simp only [Act.put, nm]
   refine skH 10 ?_
   try simp only [Act.put, nm]
   refine skH 11 ?_
   try simp only [Act.put, nm]
   refine skH 12 ?_
   try simp only [Act.put, nm]
   refine skH 13 ?_
   try simp only [Act.put, nm]
   refine skH 14 ?_
   try simp only [Act.put, nm]
   refine tkH 15 ?_ ?_ ?_
   rotate_left
   · intro W hSw; (try dsimp only at hSw); obtain ⟨z0, z1, z2⟩ := hSw; go_simp; first | done | with_reducible rfl
   try simp only [Act.put, nm]
   refine tkH 16 ?_ ?_ ?_
   rotate_left
   · intro W hSw; (try dsimp only at hSw); obtain ⟨z0, z1, z2⟩ := hSw; go_simp; first | done | with_reducible rfl
   try simp only [Act.put, nm]
   refine skH 17 ?_
   try simp only [Act.put, nm]
   refine skH 18 ?_
   try simp only [Act.put, nm]
   refine skH 19 ?_
   try simp only [Act.put, nm]
   refine skH 20 ?_
   try simp only [Act.put, nm]
   refine tkH 21 ?_ ?_ ?_
   rotate_left
   · intro W hSw; (try dsimp only at hSw); obtain ⟨z0, z1, z2⟩ := hSw; go_simp; first | done | with_reducible rfl
   try simp only [Act.put, nm]
   refine rdH 22 (fun K hK => ?_)
   go_simp
   refine hK.out _ _ (hw3 256) (fun hHeld2 => ?_)
   clear hK K
   try simp only [Act.put, nm]
   refine rdH 23 (fun K hK => ?_)
   go_simp
   refine hK.out _ _ (hw3 256) (fun hHeld2 => ?_)
   clear hK K
   refine wpAnyH_done (by kernel_rfl) ?_ _
   go_wp2_with fail
   (try simp only [Exit.inBlock, Exit.then])
   refine bodyPost_ret (v := .tuple #[.agg #[.int .i64 a, .int .i64 n, .int .i64 256], .bool false]) ?_ rfl ⟨?_, HXE 256⟩
   · rw [results_cell_tmp rfl]
     show ((asAddr (.pointer (some ⟨B, 0, none⟩))).run _ _).andThen _ = _
     simp only [asAddr, Sem.run_pure, Result.andThen_ok, run_loadVar_row _ _ _ 147 _ _ _ (HRW 256) Tryz.underlying147 rfl (by kernel_rfl)]
     rfl
   · unfold linV; simp <;> (intros; omega)
 by_cases h3 : -256 ≤ n
 rotate_left
 · refine wp_region_held_drew (S := fun w' => w'.cell? ⟨B + 1, 0, none⟩ = some (.int .i64 a) ∧ w'.cell? ⟨B + 1, 1, none⟩ = some (.int .i64 n) ∧ w'.cell? ⟨B + 1, 2, none⟩ = some (.int .i64 256)) (by kernel_rfl) hl (fun hHeld => ?_)
   refine tkH 0 ?_ ?_ ?_
   rotate_left
   · intro W hSw; (try dsimp only at hSw); obtain ⟨z0, z1, z2⟩ := hSw; go_simp; first | done | with_reducible rfl
   try simp only [Act.put, nm]
   refine tkH 1 ?_ ?_ ?_
   rotate_left
   · intro W hSw; (try dsimp only at hSw); obtain ⟨z0, z1, z2⟩ := hSw; go_simp; first | done | with_reducible rfl
   try simp only [Act.put, nm]
   refine tkH 2 (.bool true) ?_ ?_
   · intro W hSw; (try dsimp only at hSw); obtain ⟨z0, z1, z2⟩ := hSw; clear z0 z1 z2; go_simp; first | done | with_reducible rfl | (simp; omega) | (simp only [neg_4096, neg_256]; omega)
   try simp only [Act.put, nm]
   refine tkH 3 ?_ ?_ ?_
   rotate_left
   · intro W hSw; (try dsimp only at hSw); obtain ⟨z0, z1, z2⟩ := hSw; go_simp; first | done | with_reducible rfl
   try simp only [Act.put, nm]
   refine tkH 4 ?_ ?_ ?_
   rotate_left
   · intro W hSw; (try dsimp only at hSw); obtain ⟨z0, z1, z2⟩ := hSw; go_simp; first | done | with_reducible rfl
   try simp only [Act.put, nm]
   refine tkH 5 ?_ ?_ ?_
   rotate_left
   · intro W hSw; (try dsimp only at hSw); obtain ⟨z0, z1, z2⟩ := hSw; go_simp; first | done | with_reducible rfl
   try simp only [Act.put, nm]
   refine tkH 6 ?_ ?_ ?_
   rotate_left
   · intro W hSw; (try dsimp only at hSw); obtain ⟨z0, z1, z2⟩ := hSw; go_simp; first | done | with_reducible rfl
   try simp only [Act.put, nm]
   refine tkH 7 (.bool true) ?_ ?_
   · intro W hSw; (try dsimp only at hSw); obtain ⟨z0, z1, z2⟩ := hSw; clear z0 z1 z2; go_simp; first | done | with_reducible rfl | (simp; omega) | (simp only [neg_4096, neg_256]; omega)
   try simp only [Act.put, nm]
   refine tkH 8 ?_ ?_ ?_
   rotate_left
   · intro W hSw; (try dsimp only at hSw); obtain ⟨z0, z1, z2⟩ := hSw; go_simp; first | done | with_reducible rfl
   try simp only [Act.put, nm]
   refine tkH 9 ?_ ?_ ?_
   rotate_left
   · intro W hSw; (try dsimp only at hSw); obtain ⟨z0, z1, z2⟩ := hSw; go_simp; first | done | with_reducible rfl
   try simp only [Act.put, nm]
   refine tkH 10 ?_ ?_ ?_
   rotate_left
   · intro W hSw; (try dsimp only at hSw); obtain ⟨z0, z1, z2⟩ := hSw; go_simp; first | done | with_reducible rfl
   try simp only [Act.put, nm]
   refine tkH 11 ?_ ?_ ?_
   rotate_left
   · intro W hSw; (try dsimp only at hSw); obtain ⟨z0, z1, z2⟩ := hSw; go_simp; first | done | with_reducible rfl
   try simp only [Act.put, nm]
   refine tkH 12 ?_ ?_ ?_
   rotate_left
   · intro W hSw; (try dsimp only at hSw); obtain ⟨z0, z1, z2⟩ := hSw; go_simp; first | done | with_reducible rfl
   try simp only [Act.put, nm]
   refine tkH 13 ?_ ?_ ?_
   rotate_left
   · intro W hSw; (try dsimp only at hSw); obtain ⟨z0, z1, z2⟩ := hSw; go_simp; first | done | with_reducible rfl
   try simp only [Act.put, nm]
   refine tkH 14 (.bool false) ?_ ?_
   · intro W hSw; (try dsimp only at hSw); obtain ⟨z0, z1, z2⟩ := hSw; clear z0 z1 z2; go_simp; first | done | with_reducible rfl | (simp; omega) | (simp only [neg_256]; omega)
   try simp only [Act.put, nm]
   refine tkH 15 ?_ ?_ ?_
   rotate_left
   · intro W hSw; (try dsimp only at hSw); obtain ⟨z0, z1, z2⟩ := hSw; go_simp; first | done | with_reducible rfl
   try simp only [Act.put, nm]
   refine tkH 16 ?_ ?_ ?_
   rotate_left
   · intro W hSw; (try dsimp only at hSw); obtain ⟨z0, z1, z2⟩ := hSw; go_simp; first | done | with_reducible rfl
   try simp only [Act.put, nm]
   refine skH 17 ?_
   try simp only [Act.put, nm]
   refine skH 18 ?_
   try simp only [Act.put, nm]
   refine skH 19 ?_
   try simp only [Act.put, nm]
   refine skH 20 ?_
   try simp only [Act.put, nm]
   refine tkH 21 ?_ ?_ ?_
   rotate_left
   · intro W hSw; (try dsimp only at hSw); obtain ⟨z0, z1, z2⟩ := hSw; go_simp; first | done | with_reducible rfl
   try simp only [Act.put, nm]
   refine rdH 22 (fun K hK => ?_)
   go_simp
   refine hK.out _ _ (hw3 256) (fun hHeld2 => ?_)
   clear hK K
   try simp only [Act.put, nm]
   refine rdH 23 (fun K hK => ?_)
   go_simp
   refine hK.out _ _ (hw3 256) (fun hHeld2 => ?_)
   clear hK K
   refine wpAnyH_done (by kernel_rfl) ?_ _
   go_wp2_with fail
   (try simp only [Exit.inBlock, Exit.then])
   refine bodyPost_ret (v := .tuple #[.agg #[.int .i64 a, .int .i64 n, .int .i64 256], .bool false]) ?_ rfl ⟨?_, HXE 256⟩
   · rw [results_cell_tmp rfl]
     show ((asAddr (.pointer (some ⟨B, 0, none⟩))).run _ _).andThen _ = _
     simp only [asAddr, Sem.run_pure, Result.andThen_ok, run_loadVar_row _ _ _ 147 _ _ _ (HRW 256) Tryz.underlying147 rfl (by kernel_rfl)]
     rfl
   · unfold linV; simp <;> (intros; omega)
 by_cases h4 : n ≤ 256
 rotate_left
 · refine wp_region_held_drew (S := fun w' => w'.cell? ⟨B + 1, 0, none⟩ = some (.int .i64 a) ∧ w'.cell? ⟨B + 1, 1, none⟩ = some (.int .i64 n) ∧ w'.cell? ⟨B + 1, 2, none⟩ = some (.int .i64 256)) (by kernel_rfl) hl (fun hHeld => ?_)
   refine tkH 0 ?_ ?_ ?_
   rotate_left
   · intro W hSw; (try dsimp only at hSw); obtain ⟨z0, z1, z2⟩ := hSw; go_simp; first | done | with_reducible rfl
   try simp only [Act.put, nm]
   refine tkH 1 ?_ ?_ ?_
   rotate_left
   · intro W hSw; (try dsimp only at hSw); obtain ⟨z0, z1, z2⟩ := hSw; go_simp; first | done | with_reducible rfl
   try simp only [Act.put, nm]
   refine tkH 2 (.bool true) ?_ ?_
   · intro W hSw; (try dsimp only at hSw); obtain ⟨z0, z1, z2⟩ := hSw; clear z0 z1 z2; go_simp; first | done | with_reducible rfl | (simp; omega) | (simp only [neg_4096, neg_256]; omega)
   try simp only [Act.put, nm]
   refine tkH 3 ?_ ?_ ?_
   rotate_left
   · intro W hSw; (try dsimp only at hSw); obtain ⟨z0, z1, z2⟩ := hSw; go_simp; first | done | with_reducible rfl
   try simp only [Act.put, nm]
   refine tkH 4 ?_ ?_ ?_
   rotate_left
   · intro W hSw; (try dsimp only at hSw); obtain ⟨z0, z1, z2⟩ := hSw; go_simp; first | done | with_reducible rfl
   try simp only [Act.put, nm]
   refine tkH 5 ?_ ?_ ?_
   rotate_left
   · intro W hSw; (try dsimp only at hSw); obtain ⟨z0, z1, z2⟩ := hSw; go_simp; first | done | with_reducible rfl
   try simp only [Act.put, nm]
   refine tkH 6 ?_ ?_ ?_
   rotate_left
   · intro W hSw; (try dsimp only at hSw); obtain ⟨z0, z1, z2⟩ := hSw; go_simp; first | done | with_reducible rfl
   try simp only [Act.put, nm]
   refine tkH 7 (.bool true) ?_ ?_
   · intro W hSw; (try dsimp only at hSw); obtain ⟨z0, z1, z2⟩ := hSw; clear z0 z1 z2; go_simp; first | done | with_reducible rfl | (simp; omega) | (simp only [neg_4096, neg_256]; omega)
   try simp only [Act.put, nm]
   refine tkH 8 ?_ ?_ ?_
   rotate_left
   · intro W hSw; (try dsimp only at hSw); obtain ⟨z0, z1, z2⟩ := hSw; go_simp; first | done | with_reducible rfl
   try simp only [Act.put, nm]
   refine tkH 9 ?_ ?_ ?_
   rotate_left
   · intro W hSw; (try dsimp only at hSw); obtain ⟨z0, z1, z2⟩ := hSw; go_simp; first | done | with_reducible rfl
   try simp only [Act.put, nm]
   refine tkH 10 ?_ ?_ ?_
   rotate_left
   · intro W hSw; (try dsimp only at hSw); obtain ⟨z0, z1, z2⟩ := hSw; go_simp; first | done | with_reducible rfl
   try simp only [Act.put, nm]
   refine tkH 11 ?_ ?_ ?_
   rotate_left
   · intro W hSw; (try dsimp only at hSw); obtain ⟨z0, z1, z2⟩ := hSw; go_simp; first | done | with_reducible rfl
   try simp only [Act.put, nm]
   refine tkH 12 ?_ ?_ ?_
   rotate_left
   · intro W hSw; (try dsimp only at hSw); obtain ⟨z0, z1, z2⟩ := hSw; go_simp; first | done | with_reducible rfl
   try simp only [Act.put, nm]
   refine tkH 13 ?_ ?_ ?_
   rotate_left
   · intro W hSw; (try dsimp only at hSw); obtain ⟨z0, z1, z2⟩ := hSw; go_simp; first | done | with_reducible rfl
   try simp only [Act.put, nm]
   refine tkH 14 (.bool true) ?_ ?_
   · intro W hSw; (try dsimp only at hSw); obtain ⟨z0, z1, z2⟩ := hSw; clear z0 z1 z2; go_simp; first | done | with_reducible rfl | (simp; omega) | (simp only [neg_256]; omega)
   try simp only [Act.put, nm]
   refine tkH 15 ?_ ?_ ?_
   rotate_left
   · intro W hSw; (try dsimp only at hSw); obtain ⟨z0, z1, z2⟩ := hSw; go_simp; first | done | with_reducible rfl
   try simp only [Act.put, nm]
   refine tkH 16 ?_ ?_ ?_
   rotate_left
   · intro W hSw; (try dsimp only at hSw); obtain ⟨z0, z1, z2⟩ := hSw; go_simp; first | done | with_reducible rfl
   try simp only [Act.put, nm]
   refine tkH 17 ?_ ?_ ?_
   rotate_left
   · intro W hSw; (try dsimp only at hSw); obtain ⟨z0, z1, z2⟩ := hSw; go_simp; first | done | with_reducible rfl
   try simp only [Act.put, nm]
   refine tkH 18 ?_ ?_ ?_
   rotate_left
   · intro W hSw; (try dsimp only at hSw); obtain ⟨z0, z1, z2⟩ := hSw; go_simp; first | done | with_reducible rfl
   try simp only [Act.put, nm]
   refine tkH 19 ?_ ?_ ?_
   rotate_left
   · intro W hSw; (try dsimp only at hSw); obtain ⟨z0, z1, z2⟩ := hSw; go_simp; first | done | with_reducible rfl
   try simp only [Act.put, nm]
   refine tkH 20 (.bool false) ?_ ?_
   · intro W hSw; (try dsimp only at hSw); obtain ⟨z0, z1, z2⟩ := hSw; clear z0 z1 z2; go_simp; first | done | with_reducible rfl | (simp; omega) | (simp only [neg_4096, neg_256]; omega)
   try simp only [Act.put, nm]
   refine tkH 21 ?_ ?_ ?_
   rotate_left
   · intro W hSw; (try dsimp only at hSw); obtain ⟨z0, z1, z2⟩ := hSw; go_simp; first | done | with_reducible rfl
   try simp only [Act.put, nm]
   refine rdH 22 (fun K hK => ?_)
   go_simp
   refine hK.out _ _ (hw3 256) (fun hHeld2 => ?_)
   clear hK K
   try simp only [Act.put, nm]
   refine rdH 23 (fun K hK => ?_)
   go_simp
   refine hK.out _ _ (hw3 256) (fun hHeld2 => ?_)
   clear hK K
   refine wpAnyH_done (by kernel_rfl) ?_ _
   go_wp2_with fail
   (try simp only [Exit.inBlock, Exit.then])
   refine bodyPost_ret (v := .tuple #[.agg #[.int .i64 a, .int .i64 n, .int .i64 256], .bool false]) ?_ rfl ⟨?_, HXE 256⟩
   · rw [results_cell_tmp rfl]
     show ((asAddr (.pointer (some ⟨B, 0, none⟩))).run _ _).andThen _ = _
     simp only [asAddr, Sem.run_pure, Result.andThen_ok, run_loadVar_row _ _ _ 147 _ _ _ (HRW 256) Tryz.underlying147 rfl (by kernel_rfl)]
     rfl
   · unfold linV; simp [h4] <;> (intros; omega)
 refine wp_region_held_drew (S := fun w' => w'.cell? ⟨B + 1, 0, none⟩ = some (.int .i64 a) ∧ w'.cell? ⟨B + 1, 1, none⟩ = some (.int .i64 n) ∧ w'.cell? ⟨B + 1, 2, none⟩ = some (.int .i64 256)) (by kernel_rfl) hl (fun hHeld => ?_)
 refine tkH 0 ?_ ?_ ?_
 rotate_left
 · intro W hSw; (try dsimp only at hSw); obtain ⟨z0, z1, z2⟩ := hSw; go_simp; first | done | with_reducible rfl
 try simp only [Act.put, nm]
 refine tkH 1 ?_ ?_ ?_
 rotate_left
 · intro W hSw; (try dsimp only at hSw); obtain ⟨z0, z1, z2⟩ := hSw; go_simp; first | done | with_reducible rfl
 try simp only [Act.put, nm]
 refine tkH 2 (.bool true) ?_ ?_
 · intro W hSw; (try dsimp only at hSw); obtain ⟨z0, z1, z2⟩ := hSw; clear z0 z1 z2; go_simp; first | done | with_reducible rfl | (simp; omega) | (simp only [neg_4096, neg_256]; omega)
 try simp only [Act.put, nm]
 refine tkH 3 ?_ ?_ ?_
 rotate_left
 · intro W hSw; (try dsimp only at hSw); obtain ⟨z0, z1, z2⟩ := hSw; go_simp; first | done | with_reducible rfl
 try simp only [Act.put, nm]
 refine tkH 4 ?_ ?_ ?_
 rotate_left
 · intro W hSw; (try dsimp only at hSw); obtain ⟨z0, z1, z2⟩ := hSw; go_simp; first | done | with_reducible rfl
 try simp only [Act.put, nm]
 refine tkH 5 ?_ ?_ ?_
 rotate_left
 · intro W hSw; (try dsimp only at hSw); obtain ⟨z0, z1, z2⟩ := hSw; go_simp; first | done | with_reducible rfl
 try simp only [Act.put, nm]
 refine tkH 6 ?_ ?_ ?_
 rotate_left
 · intro W hSw; (try dsimp only at hSw); obtain ⟨z0, z1, z2⟩ := hSw; go_simp; first | done | with_reducible rfl
 try simp only [Act.put, nm]
 refine tkH 7 (.bool true) ?_ ?_
 · intro W hSw; (try dsimp only at hSw); obtain ⟨z0, z1, z2⟩ := hSw; clear z0 z1 z2; go_simp; first | done | with_reducible rfl | (simp; omega) | (simp only [neg_4096, neg_256]; omega)
 try simp only [Act.put, nm]
 refine tkH 8 ?_ ?_ ?_
 rotate_left
 · intro W hSw; (try dsimp only at hSw); obtain ⟨z0, z1, z2⟩ := hSw; go_simp; first | done | with_reducible rfl
 try simp only [Act.put, nm]
 refine tkH 9 ?_ ?_ ?_
 rotate_left
 · intro W hSw; (try dsimp only at hSw); obtain ⟨z0, z1, z2⟩ := hSw; go_simp; first | done | with_reducible rfl
 try simp only [Act.put, nm]
 refine tkH 10 ?_ ?_ ?_
 rotate_left
 · intro W hSw; (try dsimp only at hSw); obtain ⟨z0, z1, z2⟩ := hSw; go_simp; first | done | with_reducible rfl
 try simp only [Act.put, nm]
 refine tkH 11 ?_ ?_ ?_
 rotate_left
 · intro W hSw; (try dsimp only at hSw); obtain ⟨z0, z1, z2⟩ := hSw; go_simp; first | done | with_reducible rfl
 try simp only [Act.put, nm]
 refine tkH 12 ?_ ?_ ?_
 rotate_left
 · intro W hSw; (try dsimp only at hSw); obtain ⟨z0, z1, z2⟩ := hSw; go_simp; first | done | with_reducible rfl
 try simp only [Act.put, nm]
 refine tkH 13 ?_ ?_ ?_
 rotate_left
 · intro W hSw; (try dsimp only at hSw); obtain ⟨z0, z1, z2⟩ := hSw; go_simp; first | done | with_reducible rfl
 try simp only [Act.put, nm]
 refine tkH 14 (.bool true) ?_ ?_
 · intro W hSw; (try dsimp only at hSw); obtain ⟨z0, z1, z2⟩ := hSw; clear z0 z1 z2; go_simp; first | done | with_reducible rfl | (simp; omega) | (simp only [neg_256]; omega)
 try simp only [Act.put, nm]
 refine tkH 15 ?_ ?_ ?_
 rotate_left
 · intro W hSw; (try dsimp only at hSw); obtain ⟨z0, z1, z2⟩ := hSw; go_simp; first | done | with_reducible rfl
 try simp only [Act.put, nm]
 refine tkH 16 ?_ ?_ ?_
 rotate_left
 · intro W hSw; (try dsimp only at hSw); obtain ⟨z0, z1, z2⟩ := hSw; go_simp; first | done | with_reducible rfl
 try simp only [Act.put, nm]
 refine tkH 17 ?_ ?_ ?_
 rotate_left
 · intro W hSw; (try dsimp only at hSw); obtain ⟨z0, z1, z2⟩ := hSw; go_simp; first | done | with_reducible rfl
 try simp only [Act.put, nm]
 refine tkH 18 ?_ ?_ ?_
 rotate_left
 · intro W hSw; (try dsimp only at hSw); obtain ⟨z0, z1, z2⟩ := hSw; go_simp; first | done | with_reducible rfl
 try simp only [Act.put, nm]
 refine tkH 19 ?_ ?_ ?_
 rotate_left
 · intro W hSw; (try dsimp only at hSw); obtain ⟨z0, z1, z2⟩ := hSw; go_simp; first | done | with_reducible rfl
 try simp only [Act.put, nm]
 refine tkH 20 (.bool true) ?_ ?_
 · intro W hSw; (try dsimp only at hSw); obtain ⟨z0, z1, z2⟩ := hSw; clear z0 z1 z2; go_simp; first | done | with_reducible rfl | (simp; omega) | (simp only [neg_4096, neg_256]; omega)
 try simp only [Act.put, nm]
 refine tkH 21 ?_ ?_ ?_
 rotate_left
 · intro W hSw; (try dsimp only at hSw); obtain ⟨z0, z1, z2⟩ := hSw; go_simp; first | done | with_reducible rfl
 try simp only [Act.put, nm]
 refine rdH 22 (fun K hK => ?_)
 go_simp
 refine hK.out _ _ (hw3 256) (fun hHeld2 => ?_)
 clear hK K
 try simp only [Act.put, nm]
 refine rdH 23 (fun K hK => ?_)
 go_simp
 refine hK.out _ _ (hw3 256) (fun hHeld2 => ?_)
 clear hK K
 refine wpAnyH_done (by kernel_rfl) ?_ _
 go_wp2_with fail
 (try simp only [Exit.inBlock, Exit.then])
 refine bodyPost_ret (v := .tuple #[.agg #[.int .i64 a, .int .i64 n, .int .i64 256], .bool true]) ?_ rfl ⟨?_, HXE 256⟩
 · rw [results_cell_tmp rfl]
   show ((asAddr (.pointer (some ⟨B, 0, none⟩))).run _ _).andThen _ = _
   simp only [asAddr, Sem.run_pure, Result.andThen_ok, run_loadVar_row _ _ _ 147 _ _ _ (HRW 256) Tryz.underlying147 rfl (by kernel_rfl)]
   rfl
 · unfold linV; simp [h1, h2, h3, h4] <;> (intros; omega)
end Go.Proofs.YtdoeejhdenifpaaGreatDoor
