import Derived.Test.YtfpdleljhbkehaaGreatDoorB10
import Derived.Deep.RegionHeld3
namespace Go.Proofs.YtfpdleljhbkehaaGreatDoor
open Go.RowKit Go.Sort

/-! ### awake -/
theorem Xt.via {w a b : World} {mb : Nat} (h : Xt w a) (k : a.grownBy b (some mb)) (hm : w.heap.size ≤ mb) : Xt w b := h.grownB k (fun m e => by cases e; exact hm)
theorem noArgs (w : World) : ArgsIn w 0 (.slice none 0 0) [] := ⟨rfl, none, 0, rfl, by omega⟩
theorem zero_small : smallT zeroC.t := by simp [zeroC, smallT, smallL]
theorem aw1 : putCode [] (1, 1) (numC 4619567317775286272) = 0 := by kernel_rfl
abbrev awM (x : Option Addr) : GM := [((1, 1), (copyC (numC 4619567317775286272), x))]
theorem aw1' (x : Option Addr) : putTo [] (1, 1) (numC 4619567317775286272) x = awM x := by
  simp only [putTo, seven_ok, Bool.true_eq_false, if_false, show validB (1, 1).1 (1, 1).2 = true by kernel_rfl, show ((numC 4619567317775286272).kind == 0) = false by kernel_rfl, show fullB [] (1, 1) = false by kernel_rfl, Bool.false_eq_true]
  rfl
theorem aw2 (x : Option Addr) : putCode (awM x) (257, 1) (numC 4619567317775286272) = 20 := by
  simp only [putCode, seven_ok, Bool.true_eq_false, if_false, show validB (257, 1).1 (257, 1).2 = false by kernel_rfl, if_true]
theorem aw2' (x y : Option Addr) : putTo (awM x) (257, 1) (numC 4619567317775286272) y = awM x := by
  simp only [putTo, seven_ok, Bool.true_eq_false, if_false, show validB (257, 1).1 (257, 1).2 = false by kernel_rfl, if_true]
theorem aw3 (x : Option Addr) : putCode (awM x) (2, 2) ⟨3, zeroC.v, zeroC.t⟩ = 1 := by simp only [putCode, three_no, if_true]
theorem aw3' (x y : Option Addr) : putTo (awM x) (2, 2) ⟨3, zeroC.v, zeroC.t⟩ y = awM x := by simp only [putTo, three_no, if_true]
theorem aw4 (x : Option Addr) : (lkM (1, 1) (awM x)).getD (zeroC, none) = (copyC (numC 4619567317775286272), x) := rfl
theorem numC_ok {x : Nat} (h : x < 18446744073709551616) : (numC x).ok := by simp [ContT.ok, numC, zeroC, NodeT.ok, okL, ByteArray.size, h]
theorem three_ok : (ContT.mk 3 zeroC.v zeroC.t).ok := by simp [ContT.ok, zeroC, NodeT.ok, okL, ByteArray.size]
theorem seven_cells (a' : Option Addr) : ∃ cs : Array Value, copyCV (copyC (numC 4619567317775286272)) a' = .agg cs ∧ cs.size = 21 ∧ cs.all (·.oneCell') = true ∧ cs[2]? = some (.float .f64 4619567317775286272) := by
  refine ⟨_, copyCV_eq _ _, rfl, by simp [Value.oneCell'], ?_⟩
  show some (Value.float .f64 (oneX (oneX 4619567317775286272))) = _
  rw [one_seven, one_seven]
set_option maxRecDepth 100000 in
set_option maxHeartbeats 4000000 in
theorem awake_any (w : World) (hT : Tabs w) : Calls Tryz.prog 5 #[] w fun e w' => e = .returned (.bool true) ∧ Xt w w' := by
  have HT := Lib.hid hT
  clear hT
  go_enter Tryz.func5, Tryz.ntmps5
  go_wp2_with fail
  refine (gnew_any _).mono ?_
  rintro e w1 ⟨rfl, hG, hg1⟩
  have hx1 := hg1.xt
  generalize hgb : w.heap.size + 1 = gb at hG ⊢
  generalize hmb : w.heap.size = mb at hG
  have hwm : w.heap.size ≤ mb := by omega
  clear hg1
  go_wp2_with fail
  refine (cell_any (1, 1) _).mono ?_
  rintro e w2 ⟨rfl, hg2⟩
  have hx2 := hx1.trans hg2.xt
  have hG2 := hG.xt hg2.xt
  clear hx1 hG hg2
  go_wp2_with fail
  refine (number_any _ _).mono ?_
  rintro e w3 ⟨rfl, hg3⟩
  have hx3 := hx2.trans hg3
  have hG3 := hG2.xt hg3
  clear hx2 hG2 hg3
  go_wp2_with fail
  refine (gput_any 0 gb mb [] (1, 1) (numC 4619567317775286272) none 0 w3 hG3 (numC_ok (by decide)) (HT.out.xt hx3) zero_small (noArgs _)).mono ?_
  rintro e w4 ⟨x, rfl, hG4, hg4⟩
  rw [aw1' x] at hG4
  rw [aw1]
  have hx4 := hx3.via hg4 hwm
  clear hx3 hG3 hg4
  go_wp2_with fail
  refine (cell_any (257, 1) _).mono ?_
  rintro e w5 ⟨rfl, hg5⟩
  have hx5 := hx4.trans hg5.xt
  have hG5 := hG4.xt hg5.xt
  clear hx4 hG4 hg5
  go_wp2_with fail
  refine (number_any _ _).mono ?_
  rintro e w6 ⟨rfl, hg6⟩
  have hx6 := hx5.trans hg6
  have hG6 := hG5.xt hg6
  clear hx5 hG5 hg6
  go_wp2_with fail
  refine (gput_any 0 gb mb (awM x) (257, 1) (numC 4619567317775286272) none 0 w6 hG6 (numC_ok (by decide)) (HT.out.xt hx6) zero_small (noArgs _)).mono ?_
  rintro e w7 ⟨y, rfl, hG7, hg7⟩
  rw [aw2' x y] at hG7
  rw [aw2]
  have hx7 := hx6.via hg7 hwm
  clear hx6 hG6 hg7
  go_wp2_with fail
  refine (cell_any (2, 2) _).mono ?_
  rintro e w8 ⟨rfl, hg8⟩
  have hx8 := hx7.trans hg8.xt
  have hG8 := hG7.xt hg8.xt
  clear hx7 hG7 hg8
  go_wp2_with fail
  refine (gput_any 0 gb mb (awM x) (2, 2) ⟨3, zeroC.v, zeroC.t⟩ none 0 w8 hG8 three_ok (HT.out.xt hx8) zero_small (noArgs _)).mono ?_
  rintro e w9 ⟨z, rfl, hG9, hg9⟩
  rw [aw3' x z] at hG9
  rw [aw3]
  have hx9 := hx8.via hg9 hwm
  clear hx8 hG8 hg9
  go_wp2_with fail
  refine (cell_any (1, 1) _).mono ?_
  rintro e wa ⟨rfl, hga⟩
  have hxa := hx9.trans hga.xt
  have hGa := hG9.xt hga.xt
  clear hx9 hG9 hga
  go_wp2_with fail
  refine (gget_any gb mb (awM x) (1, 1) wa hGa).mono ?_
  rw [aw4]
  rintro e wb ⟨n, a', rfl, hA, hgb'⟩
  obtain ⟨cs, hcv, hcs, hone, h2⟩ := seven_cells a'
  rw [hcv]
  have hxb := hxa.trans hgb'
  have hGb := hGa.xt hgb'
  clear hxa hGa hgb' hA hcv
  obtain ⟨wz, hwz⟩ : ∃ wz, wb.alloc (.cells #[.int .i64 0, .int .i64 0, .float .f64 0, .string ⟨#[]⟩, .bool false, .int .i64 0, .int .i64 0, .int .i64 0, .float .f64 0, .string ⟨#[]⟩, .bool false, .int .i64 0, .int .i64 0, .int .i64 0, .bool false, .bool false, .int .i64 0, .int .i64 0, .bool false, .bool false, .slice none 0 0] 33) = wz := ⟨_, rfl⟩
  have hrz : wz.heap[wb.heap.size]? = some (.cells #[.int .i64 0, .int .i64 0, .float .f64 0, .string ⟨#[]⟩, .bool false, .int .i64 0, .int .i64 0, .int .i64 0, .float .f64 0, .string ⟨#[]⟩, .bool false, .int .i64 0, .int .i64 0, .int .i64 0, .bool false, .bool false, .int .i64 0, .int .i64 0, .bool false, .bool false, .slice none 0 0] 33 (0, 0)) := by rw [← hwz]; exact (MapKept.heap_alloc wb _).1
  obtain ⟨wc, hwc⟩ : ∃ wc, wz.setRow wb.heap.size cs = wc := ⟨_, rfl⟩
  have hxwc : Xt wb wc := by rw [← hwc, ← hwz]; exact ((Xt.refl wb).alloc _).grownB (setRow_grown _ _ _) (fun m hm => by cases hm; exact Nat.le_refl _)
  have d2 : wc.cell? ⟨wb.heap.size, 2, none⟩ = some (.float .f64 4619567317775286272) := by
    have := setRow_heap wz wb.heap.size _ cs _ _ hrz
    rw [hwc] at this
    simp [World.cell?, this, h2]
  have HRZ := Lib.hid hrz
  have HWC := Lib.hid hwc
  have HON := Lib.hid hone
  have HCS := Lib.hid hcs
  have hxc := hxb.trans hxwc
  have hGc := hGb.xt hxwc
  clear hxb hGb hxwc hrz hwc hone hcs h2
  go_wp2_with (refine wpList_store_row (P := Tryz.prog) rfl 33 _ _ rfl wb.heap.size cs rfl rfl 33 _ HRZ.out (by rw [HCS.out]; kernel_rfl) (by rw [HCS.out]; rfl) HON.out ?_; rw [HWC.out])
  refine (bounds_any gb mb (awM x) wc hGc (by simp)).mono ?_
  rintro e wd ⟨rfl, hxd'⟩
  rw [show boundsL ((awM x).map (·.1)) = ((1, 1), (1, 1)) from rfl]
  have hxd := hxc.trans hxd'
  have hGd := hGc.xt hxd'
  have f2 := hxd'.cellsIn _ _ _ d2
  clear hxc hGc hxd' d2
  go_wp2_with fail
  -- REGION 9
  obtain ⟨ws, hws⟩ : ∃ ws, wd.alloc (.cells #[.int .i64 1, .int .i64 1, .int .i64 1, .int .i64 1] 52) = ws := ⟨_, rfl⟩
  have hxs : Xt wd ws.drew := by rw [← hws]; exact ((Xt.refl wd).alloc _).drew
  have hSs : ws.drew.cell? ⟨wb.heap.size, 2, none⟩ = some (.float .f64 4619567317775286272) ∧ ws.drew.cell? ⟨wd.heap.size, 0, none⟩ = some (.int .i64 1) ∧ ws.drew.cell? ⟨wd.heap.size, 1, none⟩ = some (.int .i64 1) ∧ ws.drew.cell? ⟨wd.heap.size, 2, none⟩ = some (.int .i64 1) ∧ ws.drew.cell? ⟨wd.heap.size, 3, none⟩ = some (.int .i64 1) ∧ GridIs ws.drew gb mb (awM x) := by
    refine ⟨hxs.cellsIn _ _ _ f2, ?_, ?_, ?_, ?_, hGd.xt hxs⟩ <;> (show ws.cell? _ = _; rw [← hws, World.cell?_alloc_new]; rfl)
  have hxe := hxd.trans hxs
  have HGD := Lib.hid hGd
  rw [hws]
  clear hws hxd hGd f2 hxs
  refine wp_region_held_drew (S := fun w' => w'.cell? ⟨wb.heap.size, 2, none⟩ = some (.float .f64 4619567317775286272) ∧ w'.cell? ⟨wd.heap.size, 0, none⟩ = some (.int .i64 1) ∧ w'.cell? ⟨wd.heap.size, 1, none⟩ = some (.int .i64 1) ∧ w'.cell? ⟨wd.heap.size, 2, none⟩ = some (.int .i64 1) ∧ w'.cell? ⟨wd.heap.size, 3, none⟩ = some (.int .i64 1) ∧ GridIs w' gb mb (awM x)) (by kernel_rfl) hSs (fun hHeld => ?_)
  refine wpAnyH_take (i := 0) (oi := _) (v := ?_) rfl (by kernel_rfl) (by kernel_rfl) (by kernel_rfl) (fun _ _ _ h => h) (Or.inl ⟨by rfl, ?_⟩) (by assumption) ?_
  rotate_left
  · intro w hSw; (try dsimp only at hSw); clear hSw; go_simp; first | done | with_reducible rfl
  try simp only [Act.put, List.getElem_toArray, List.getElem_cons_zero, List.setIfInBounds_toArray, List.set_cons_zero, List.set_cons_succ]
  refine wpAnyH_take (i := 1) (oi := _) (v := ?_) rfl (by kernel_rfl) (by kernel_rfl) (by kernel_rfl) (fun _ _ _ h => h) (Or.inl ⟨by rfl, ?_⟩) (by assumption) ?_
  rotate_left
  · intro w hSw; (try dsimp only at hSw); clear hSw; go_simp; first | done | with_reducible rfl
  try simp only [Act.put, List.getElem_toArray, List.getElem_cons_zero, List.getElem_cons_succ, List.setIfInBounds_toArray, List.set_cons_zero, List.set_cons_succ]
  refine wpAnyH_take (i := 2) (oi := _) (v := ?_) rfl (by kernel_rfl) (by kernel_rfl) (by kernel_rfl) (fun _ _ _ h => h) (Or.inl ⟨by rfl, ?_⟩) (by assumption) ?_
  rotate_left
  · intro w hSw; (try dsimp only at hSw); clear hSw; go_simp; first | done | with_reducible rfl
  try simp only [Act.put, List.getElem_toArray, List.getElem_cons_zero, List.getElem_cons_succ, List.setIfInBounds_toArray, List.set_cons_zero, List.set_cons_succ]
  refine wpAnyH_take (i := 3) (oi := _) (v := ?_) rfl (by kernel_rfl) (by kernel_rfl) (by kernel_rfl) (fun _ _ _ h => h) (Or.inl ⟨by rfl, ?_⟩) (by assumption) ?_
  rotate_left
  · intro w hSw; (try dsimp only at hSw); clear hSw; go_simp; first | done | with_reducible rfl
  try simp only [Act.put, List.getElem_toArray, List.getElem_cons_zero, List.getElem_cons_succ, List.setIfInBounds_toArray, List.set_cons_zero, List.set_cons_succ]
  refine wpAnyH_take (i := 4) (oi := _) (v := ?_) rfl (by kernel_rfl) (by kernel_rfl) (by kernel_rfl) (fun _ _ _ h => h) (Or.inl ⟨by rfl, ?_⟩) (by assumption) ?_
  rotate_left
  · intro w hSw; (try dsimp only at hSw); clear hSw; go_simp; first | done | with_reducible rfl
  try simp only [Act.put, List.getElem_toArray, List.getElem_cons_zero, List.getElem_cons_succ, List.setIfInBounds_toArray, List.set_cons_zero, List.set_cons_succ]
  refine wpAnyH_take (i := 5) (oi := _) (v := ?_) rfl (by kernel_rfl) (by kernel_rfl) (by kernel_rfl) (fun _ _ _ h => h) (Or.inl ⟨by rfl, ?_⟩) (by assumption) ?_
  rotate_left
  · intro w hSw; (try dsimp only at hSw); clear hSw; go_simp; first | done | with_reducible rfl
  try simp only [Act.put, List.getElem_toArray, List.getElem_cons_zero, List.getElem_cons_succ, List.setIfInBounds_toArray, List.set_cons_zero, List.set_cons_succ]
  refine wpAnyH_take (i := 6) (oi := _) (v := ?_) rfl (by kernel_rfl) (by kernel_rfl) (by kernel_rfl) (fun _ _ _ h => h) (Or.inl ⟨by rfl, ?_⟩) (by assumption) ?_
  rotate_left
  · intro w hSw; (try dsimp only at hSw); clear hSw; go_simp; first | done | with_reducible rfl
  try simp only [Act.put, List.getElem_toArray, List.getElem_cons_zero, List.getElem_cons_succ, List.setIfInBounds_toArray, List.set_cons_zero, List.set_cons_succ]
  refine wpAnyH_take (i := 7) (oi := _) (v := ?_) rfl (by kernel_rfl) (by kernel_rfl) (by kernel_rfl) (fun _ _ _ h => h) (Or.inl ⟨by rfl, ?_⟩) (by assumption) ?_
  rotate_left
  · intro w hSw; (try dsimp only at hSw); clear hSw; go_simp; first | done | with_reducible rfl
  try simp only [Act.put, List.getElem_toArray, List.getElem_cons_zero, List.getElem_cons_succ, List.setIfInBounds_toArray, List.set_cons_zero, List.set_cons_succ]
  refine wpAnyH_take (i := 8) (oi := _) (v := ?_) rfl (by kernel_rfl) (by kernel_rfl) (by kernel_rfl) (fun _ _ _ h => h) (Or.inl ⟨by rfl, ?_⟩) (by assumption) ?_
  rotate_left
  · intro w hSw; (try dsimp only at hSw); clear hSw; go_simp; first | done | with_reducible rfl
  try simp only [Act.put, List.getElem_toArray, List.getElem_cons_zero, List.getElem_cons_succ, List.setIfInBounds_toArray, List.set_cons_zero, List.set_cons_succ]
  refine wpAnyH_take (i := 9) (oi := _) (v := ?_) rfl (by kernel_rfl) (by kernel_rfl) (by kernel_rfl) (fun _ _ _ h => h) (Or.inl ⟨by rfl, ?_⟩) (by assumption) ?_
  rotate_left
  · intro w hSw; (try dsimp only at hSw); clear hSw; go_simp; first | done | with_reducible rfl
  try simp only [Act.put, List.getElem_toArray, List.getElem_cons_zero, List.getElem_cons_succ, List.setIfInBounds_toArray, List.set_cons_zero, List.set_cons_succ]
  refine wpAnyH_take (i := 10) (oi := _) (v := ?_) rfl (by kernel_rfl) (by kernel_rfl) (by kernel_rfl) (fun _ _ _ h => h) (Or.inl ⟨by rfl, ?_⟩) (by assumption) ?_
  rotate_left
  · intro w hSw; (try dsimp only at hSw); clear hSw; go_simp; first | done | with_reducible rfl
  try simp only [Act.put, List.getElem_toArray, List.getElem_cons_zero, List.getElem_cons_succ, List.setIfInBounds_toArray, List.set_cons_zero, List.set_cons_succ]
  refine wpAnyH_take (i := 11) (oi := _) (v := ?_) rfl (by kernel_rfl) (by kernel_rfl) (by kernel_rfl) (fun _ _ _ h => h) (Or.inl ⟨by rfl, ?_⟩) (by assumption) ?_
  rotate_left
  · intro w hSw; (try dsimp only at hSw); clear hSw; go_simp; first | done | with_reducible rfl
  try simp only [Act.put, List.getElem_toArray, List.getElem_cons_zero, List.getElem_cons_succ, List.setIfInBounds_toArray, List.set_cons_zero, List.set_cons_succ]
  refine wpAnyH_ready (rs := [12]) (by kernel_rfl) (by simp) ?_
  refine AllReadyH.cons (o := _) rfl (fun K hK => ?_) AllReadyH.nil
  go_simp
  refine (glen_any gb mb (awM x) _ hHeld.2.2.2.2.2).mono ?_
  rintro e w' ⟨rfl, rfl⟩
  refine hK.out _ _ hHeld (fun hHeld2 => ?_)
  clear hK K hHeld2
  try simp only [Act.put, List.getElem_toArray, List.getElem_cons_zero, List.getElem_cons_succ, List.setIfInBounds_toArray, List.set_cons_zero, List.set_cons_succ]
  refine wpAnyH_take (i := 13) (oi := _) (v := ?_) rfl (by kernel_rfl) (by kernel_rfl) (by kernel_rfl) (fun _ _ _ h => h) (Or.inl ⟨by rfl, ?_⟩) (by assumption) ?_
  rotate_left
  · intro w hSw; (try dsimp only at hSw); clear hSw; go_simp; first | done | with_reducible rfl
  try simp only [Act.put, List.getElem_toArray, List.getElem_cons_zero, List.getElem_cons_succ, List.setIfInBounds_toArray, List.set_cons_zero, List.set_cons_succ]
  refine wpAnyH_take (i := 14) (oi := _) (v := ?_) rfl (by kernel_rfl) (by kernel_rfl) (by kernel_rfl) (fun _ _ _ h => h) (Or.inl ⟨by rfl, ?_⟩) (by assumption) ?_
  rotate_left
  · intro w hSw; (try dsimp only at hSw); clear hSw; go_simp; first | done | with_reducible rfl
  try simp only [Act.put, List.getElem_toArray, List.getElem_cons_zero, List.getElem_cons_succ, List.setIfInBounds_toArray, List.set_cons_zero, List.set_cons_succ]
  refine wpAnyH_take (i := 15) (oi := _) (v := ?_) rfl (by kernel_rfl) (by kernel_rfl) (by kernel_rfl) (fun _ _ _ h => h) (Or.inl ⟨by rfl, ?_⟩) (by assumption) ?_
  rotate_left
  · intro w hSw; (try dsimp only at hSw); clear hSw; go_simp; first | done | with_reducible rfl
  try simp only [Act.put, List.getElem_toArray, List.getElem_cons_zero, List.getElem_cons_succ, List.setIfInBounds_toArray, List.set_cons_zero, List.set_cons_succ]
  refine wpAnyH_take (i := 16) (oi := _) (v := ?_) rfl (by kernel_rfl) (by kernel_rfl) (by kernel_rfl) (fun _ _ _ h => h) (Or.inl ⟨by rfl, ?_⟩) (by assumption) ?_
  rotate_left
  · intro w hSw; (try dsimp only at hSw); clear hSw; go_simp; first | done | with_reducible rfl
  try simp only [Act.put, List.getElem_toArray, List.getElem_cons_zero, List.getElem_cons_succ, List.setIfInBounds_toArray, List.set_cons_zero, List.set_cons_succ]
  refine wpAnyH_take (i := 17) (oi := _) (v := ?_) rfl (by kernel_rfl) (by kernel_rfl) (by kernel_rfl) (fun _ _ _ h => h) (Or.inl ⟨by rfl, ?_⟩) (by assumption) ?_
  rotate_left
  · intro w hSw; (try dsimp only at hSw); clear hSw; go_simp; first | done | with_reducible rfl
  try simp only [Act.put, List.getElem_toArray, List.getElem_cons_zero, List.getElem_cons_succ, List.setIfInBounds_toArray, List.set_cons_zero, List.set_cons_succ]
  refine wpAnyH_take (i := 18) (oi := _) (v := ?_) rfl (by kernel_rfl) (by kernel_rfl) (by kernel_rfl) (fun _ _ _ h => h) (Or.inl ⟨by rfl, ?_⟩) (by assumption) ?_
  rotate_left
  · intro w hSw; (try dsimp only at hSw); obtain ⟨s0, s1, s2, s3, s4, s5⟩ := hSw; clear s5; go_simp; first | done | with_reducible rfl
  try simp only [Act.put, List.getElem_toArray, List.getElem_cons_zero, List.getElem_cons_succ, List.setIfInBounds_toArray, List.set_cons_zero, List.set_cons_succ]
  refine wpAnyH_take (i := 19) (oi := _) (v := ?_) rfl (by kernel_rfl) (by kernel_rfl) (by kernel_rfl) (fun _ _ _ h => h) (Or.inl ⟨by rfl, ?_⟩) (by assumption) ?_
  rotate_left
  · intro w hSw; (try dsimp only at hSw); clear hSw; go_simp; first | done | with_reducible rfl
  try simp only [Act.put, List.getElem_toArray, List.getElem_cons_zero, List.getElem_cons_succ, List.setIfInBounds_toArray, List.set_cons_zero, List.set_cons_succ]
  refine wpAnyH_take (i := 20) (oi := _) (v := ?_) rfl (by kernel_rfl) (by kernel_rfl) (by kernel_rfl) (fun _ _ _ h => h) (Or.inl ⟨by rfl, ?_⟩) (by assumption) ?_
  rotate_left
  · intro w hSw; (try dsimp only at hSw); clear hSw; go_simp; first | done | with_reducible rfl
  try simp only [Act.put, List.getElem_toArray, List.getElem_cons_zero, List.getElem_cons_succ, List.setIfInBounds_toArray, List.set_cons_zero, List.set_cons_succ]
  refine wpAnyH_take (i := 21) (oi := _) (v := ?_) rfl (by kernel_rfl) (by kernel_rfl) (by kernel_rfl) (fun _ _ _ h => h) (Or.inl ⟨by rfl, ?_⟩) (by assumption) ?_
  rotate_left
  · intro w hSw; (try dsimp only at hSw); clear hSw; go_simp; first | done | with_reducible rfl
  try simp only [Act.put, List.getElem_toArray, List.getElem_cons_zero, List.getElem_cons_succ, List.setIfInBounds_toArray, List.set_cons_zero, List.set_cons_succ]
  refine wpAnyH_take (i := 22) (oi := _) (v := ?_) rfl (by kernel_rfl) (by kernel_rfl) (by kernel_rfl) (fun _ _ _ h => h) (Or.inl ⟨by rfl, ?_⟩) (by assumption) ?_
  rotate_left
  · intro w hSw; (try dsimp only at hSw); clear hSw; go_simp; first | done | with_reducible rfl
  try simp only [Act.put, List.getElem_toArray, List.getElem_cons_zero, List.getElem_cons_succ, List.setIfInBounds_toArray, List.set_cons_zero, List.set_cons_succ]
  refine wpAnyH_take (i := 23) (oi := _) (v := ?_) rfl (by kernel_rfl) (by kernel_rfl) (by kernel_rfl) (fun _ _ _ h => h) (Or.inl ⟨by rfl, ?_⟩) (by assumption) ?_
  rotate_left
  · intro w hSw; (try dsimp only at hSw); clear hSw; go_simp; first | done | with_reducible rfl
  try simp only [Act.put, List.getElem_toArray, List.getElem_cons_zero, List.getElem_cons_succ, List.setIfInBounds_toArray, List.set_cons_zero, List.set_cons_succ]
  refine wpAnyH_take (i := 24) (oi := _) (v := ?_) rfl (by kernel_rfl) (by kernel_rfl) (by kernel_rfl) (fun _ _ _ h => h) (Or.inl ⟨by rfl, ?_⟩) (by assumption) ?_
  rotate_left
  · intro w hSw; (try dsimp only at hSw); clear hSw; go_simp; first | done | with_reducible rfl
  try simp only [Act.put, List.getElem_toArray, List.getElem_cons_zero, List.getElem_cons_succ, List.setIfInBounds_toArray, List.set_cons_zero, List.set_cons_succ]
  refine wpAnyH_take (i := 25) (oi := _) (v := ?_) rfl (by kernel_rfl) (by kernel_rfl) (by kernel_rfl) (fun _ _ _ h => h) (Or.inl ⟨by rfl, ?_⟩) (by assumption) ?_
  rotate_left
  · intro w hSw; (try dsimp only at hSw); obtain ⟨s0, s1, s2, s3, s4, s5⟩ := hSw; clear s5; go_simp; first | done | with_reducible rfl
  try simp only [Act.put, List.getElem_toArray, List.getElem_cons_zero, List.getElem_cons_succ, List.setIfInBounds_toArray, List.set_cons_zero, List.set_cons_succ]
  refine wpAnyH_ready (rs := [26]) (by kernel_rfl) (by simp) ?_
  refine AllReadyH.cons (o := _) rfl (fun K hK => ?_) AllReadyH.nil
  go_simp
  refine (cell_any (1, 1) _).mono ?_
  rintro e wf ⟨rfl, hgwf⟩
  have hxwf := hgwf.xt
  refine hK.out _ _ ⟨hxwf.cellsIn _ _ _ hHeld.1, hxwf.cellsIn _ _ _ hHeld.2.1, hxwf.cellsIn _ _ _ hHeld.2.2.1, hxwf.cellsIn _ _ _ hHeld.2.2.2.1, hxwf.cellsIn _ _ _ hHeld.2.2.2.2.1, hHeld.2.2.2.2.2.xt hxwf⟩ (fun hHeld3 => ?_)
  clear hK K
  try simp only [Act.put, List.getElem_toArray, List.getElem_cons_zero, List.getElem_cons_succ, List.setIfInBounds_toArray, List.set_cons_zero, List.set_cons_succ]
  refine wpAnyH_ready (rs := [27]) (by kernel_rfl) (by simp) ?_
  refine AllReadyH.cons (o := _) rfl (fun K hK => ?_) AllReadyH.nil
  go_simp
  refine (cell_any (1, 1) _).mono ?_
  rintro e wg ⟨rfl, hgwg⟩
  have hxwg := hgwg.xt
  refine hK.out _ _ ⟨hxwg.cellsIn _ _ _ hHeld3.1, hxwg.cellsIn _ _ _ hHeld3.2.1, hxwg.cellsIn _ _ _ hHeld3.2.2.1, hxwg.cellsIn _ _ _ hHeld3.2.2.2.1, hxwg.cellsIn _ _ _ hHeld3.2.2.2.2.1, hHeld3.2.2.2.2.2.xt hxwg⟩ (fun hHeld4 => ?_)
  clear hK K
  try simp only [Act.put, List.getElem_toArray, List.getElem_cons_zero, List.getElem_cons_succ, List.setIfInBounds_toArray, List.set_cons_zero, List.set_cons_succ]
  refine wpAnyH_take (i := 28) (oi := _) (v := ?_) rfl (by kernel_rfl) (by kernel_rfl) (by kernel_rfl) (fun _ _ _ h => h) (Or.inl ⟨by rfl, ?_⟩) (by assumption) ?_
  rotate_left
  · intro w hSw; (try dsimp only at hSw); clear hSw; go_simp; first | done | with_reducible rfl
  try simp only [Act.put, List.getElem_toArray, List.getElem_cons_zero, List.getElem_cons_succ, List.setIfInBounds_toArray, List.set_cons_zero, List.set_cons_succ]
  refine wpAnyH_take (i := 29) (oi := _) (v := ?_) rfl (by kernel_rfl) (by kernel_rfl) (by kernel_rfl) (fun _ _ _ h => h) (Or.inl ⟨by rfl, ?_⟩) (by assumption) ?_
  rotate_left
  · intro w hSw; (try dsimp only at hSw); clear hSw; go_simp; first | done | with_reducible rfl
  try simp only [Act.put, List.getElem_toArray, List.getElem_cons_zero, List.getElem_cons_succ, List.setIfInBounds_toArray, List.set_cons_zero, List.set_cons_succ]
  refine wpAnyH_take (i := 30) (oi := _) (v := ?_) rfl (by kernel_rfl) (by kernel_rfl) (by kernel_rfl) (fun _ _ _ h => h) (Or.inl ⟨by rfl, ?_⟩) (by assumption) ?_
  rotate_left
  · intro w hSw; (try dsimp only at hSw); clear hSw; go_simp; first | done | with_reducible rfl
  try simp only [Act.put, List.getElem_toArray, List.getElem_cons_zero, List.getElem_cons_succ, List.setIfInBounds_toArray, List.set_cons_zero, List.set_cons_succ]
  refine wpAnyH_take (i := 31) (oi := _) (v := ?_) rfl (by kernel_rfl) (by kernel_rfl) (by kernel_rfl) (fun _ _ _ h => h) (Or.inl ⟨by rfl, ?_⟩) (by assumption) ?_
  rotate_left
  · intro w hSw; (try dsimp only at hSw); clear hSw; go_simp; first | done | with_reducible rfl
  try simp only [Act.put, List.getElem_toArray, List.getElem_cons_zero, List.getElem_cons_succ, List.setIfInBounds_toArray, List.set_cons_zero]
  refine wpAnyH_done (by kernel_rfl) ?_ _
  go_wp2_with fail
  go_ret
  exact ⟨rfl, (hxe.trans hxwf).trans hxwg⟩
end Go.Proofs.YtfpdleljhbkehaaGreatDoor
