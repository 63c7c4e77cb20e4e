import Derived.Test.YtfpdleljhbkehaaDoorW31
namespace Go.Proofs.YtfpdleljhbkehaaDoor
open Go.RowKit Go.Sort Go.Maps Go.Shelf
attribute [local go_sem] Oper.semAt_some

theorem rowCells_own {X Y : World} {row : Option Nat} {B : Nat} {cs : Array Value} {T : TypeId} {fz : Nat × Nat} (h : X.heap[B]? = some (.cells cs T fz)) (hg : X.grownBy Y row) (hr : ∀ r, row = some r → ∃ o : Obj, X.heap[r]? = some o ∧ o.isCells = false) : Y.heap[B]? = some (.cells cs T fz) := by
  refine (hg.block B (Array.getElem?_eq_some_iff.1 h).1 (fun e => ?_)).trans h
  obtain ⟨o, ho, hc⟩ := hr B e.symm
  rw [h] at ho; cases ho; cases hc
/-! ### Bounds -/
def boundsL (l : List Ad) : Ar := l.foldl (fun b k => ((min b.1.1 k.1, min b.1.2 k.2), (max b.2.1 k.1, max b.2.2 k.2))) ((256, 4096), (0, 0))
theorem boundsL_snoc (l : List Ad) (k : Ad) : boundsL (l ++ [k]) = ((min (boundsL l).1.1 k.1, min (boundsL l).1.2 k.2), (max (boundsL l).2.1 k.1, max (boundsL l).2.2 k.2)) := by simp [boundsL]
abbrev arV (x : Ar) : Value := .agg #[.int .i64 x.1.1, .int .i64 x.1.2, .int .i64 x.2.1, .int .i64 x.2.2]
set_option maxRecDepth 100000 in
set_option maxHeartbeats 4000000 in
theorem bounds_any (gb mb : Nat) (M : GM) (w : World) (hG : GridIs w gb mb M) (hne : M ≠ []) : Calls Tryd.prog 18 #[.pointer (some ⟨gb, 0, none⟩)] w fun e w' => e = .returned (.tuple #[arV (boundsL (M.map (·.1))), .bool true]) ∧ Xt w w' := by
  have hlen : ((M.length : Int) == 0) = false := by
    have : 0 < M.length := List.length_pos_iff.2 hne
    simp; exact hne
  obtain ⟨w1, hw1⟩ : ∃ w1, w.alloc (.cells #[.int .i64 0, .int .i64 0, .int .i64 0, .int .i64 0] 55) = w1 := ⟨_, rfl⟩
  have hx1 : Xt w w1 := by rw [← hw1]; exact (Xt.refl w).alloc _
  have HL := Lib.hid (callsIn_wide (n := 19).2 (glen_any gb mb M w1 (hG.xt hx1)))
  refine (callsIn_wide (n := 20)).1 ?_
  have h1 : 1 ≤ 20 := by omega
  have hf1 : Fence.wide.fn 13 := trivial
  have hf2 : Fence.wide.fn 14 := trivial
  refine callsIn_of_wp_marks Tryd.func18 rfl trivial ?_ rfl
  simp only [Tryd.ntmps18, List.size_toArray, List.length_cons, List.length_nil, Nat.reduceAdd, Nat.reduceSub, Array.replicate_succ, Array.replicate_zero, List.push_toArray, List.append_toArray, List.nil_append, List.cons_append]
  gi_wp2_with (first
    | (gi_at_call 13; refine HL.out.mono ?_; rintro e w' ⟨rfl, rfl⟩)
    | (gi_at_call 14; refine (all_in 19 (by omega) _ _).mono ?_; rintro e w' ⟨rfl, rfl⟩))
  obtain ⟨B, hBe⟩ : ∃ B, w1.heap.size = B := ⟨_, rfl⟩
  simp only [hBe]
  obtain ⟨W0, hW0⟩ : ∃ W0, ((w1.alloc (.cells #[.int .i64 256, .int .i64 4096, .int .i64 0, .int .i64 0] 55)).alloc (.cells #[.pointer (some ⟨gb, 0, none⟩)] 35)).alloc (.cells #[.func (.func 31) #[] #[]] 70) = W0 := ⟨_, rfl⟩
  have hsz : W0.heap.size = B + 3 := by rw [← hW0]; simp [hBe]
  have hx0 : Xt w1 W0 := by rw [← hW0]; exact (((Xt.refl w1).alloc _).alloc _).alloc _
  have hr1 : w1.heap[w.heap.size]? = some (.cells #[.int .i64 0, .int .i64 0, .int .i64 0, .int .i64 0] 55 (0, 0)) := by rw [← hw1]; exact (MapKept.heap_alloc w _).1
  have hr0 := (hx0.block _ (Array.getElem?_eq_some_iff.1 hr1).1).trans hr1
  have hb0 : W0.heap[B]? = some (.cells #[.int .i64 256, .int .i64 4096, .int .i64 0, .int .i64 0] 55 (0, 0)) := by
    rw [← hW0, ← hBe]
    have e1 := (MapKept.heap_alloc w1 (.cells #[.int .i64 256, .int .i64 4096, .int .i64 0, .int .i64 0] 55)).1
    have x1 := (((Xt.refl (w1.alloc (.cells #[.int .i64 256, .int .i64 4096, .int .i64 0, .int .i64 0] 55))).alloc (.cells #[.pointer (some ⟨gb, 0, none⟩)] 35)).alloc (.cells #[.func (.func 31) #[] #[]] 70))
    exact (x1.block _ (by simp)).trans e1
  have hcg : W0.cell? ⟨B + 1, 0, none⟩ = some (.pointer (some ⟨gb, 0, none⟩)) := by
    have e2 : W0.heap[B + 1]? = some (.cells #[.pointer (some ⟨gb, 0, none⟩)] 35 (0, 0)) := by
      rw [← hW0, ← hBe]
      have e1 := (MapKept.heap_alloc (w1.alloc (.cells #[.int .i64 256, .int .i64 4096, .int .i64 0, .int .i64 0] 55)) (.cells #[.pointer (some ⟨gb, 0, none⟩)] 35)).1
      have x1 := (Xt.refl ((w1.alloc (.cells #[.int .i64 256, .int .i64 4096, .int .i64 0, .int .i64 0] 55)).alloc (.cells #[.pointer (some ⟨gb, 0, none⟩)] 35))).alloc (.cells #[.func (.func 31) #[] #[]] 70)
      have e3 := (x1.block _ (by simp)).trans e1
      simpa using e3
    simp [World.cell?, e2]
  have hcw : W0.heap[B + 1 + 1]? = some (.cells #[.func (.func 31) #[] #[]] 70 (0, 0)) := by
    rw [← hW0, ← hBe]
    have := World.alloc_heap_new ((w1.alloc (.cells #[.int .i64 256, .int .i64 4096, .int .i64 0, .int .i64 0] 55)).alloc (.cells #[.pointer (some ⟨gb, 0, none⟩)] 35)) (.cells #[.func (.func 31) #[] #[]] 70)
    simpa using this
  have hxW : Xt w W0 := hx1.trans hx0
  have HS1 : Hid (B = w.heap.size + 1) := by have : w1.heap.size = w.heap.size + 1 := (by rw [← hw1]; simp); unfold Hid; omega
  have hwB : w.heap.size < B := by have := HS1.out; omega
  rw [hW0]
  clear hW0 hw1 HL
  refine wpIn_rangeFunc_ownH (F := Fence.wide) rfl (by omega) (gf := 50) (lb := #[.pointer (some ⟨B + 1, 0, none⟩), .pointer (some ⟨B + 1 + 1, 0, none⟩)]) rfl trivial (enters_of Tryd.func50 (by kernel_rfl) rfl)
    (some1_stops (fun _ => false) 31 #[] (enters_of Tryd.func31 (by kernel_rfl) rfl) (fun _ => true) w.heap.size w rfl (fun _ => True) (fun _ _ _ _ _ => trivial) (fun a W _ => all1_any a W) 19 (by omega) (B + 1) (B + 1 + 1) gb mb M hG W0 hxW trivial (by omega) hcg hcw)
    (fun h k => ⟨h.1.trans k.1, h.2.trans k.2⟩) (fun W l o o' hl ho hc hw => ⟨belowK_b (w := W0) (by omega) W l o o' hl ho hc hw, KeepsT.of_grown (grownBy_putObj' W l o') (fun j o2 e h2 => by cases e; rw [ho] at h2; cases h2; cases o <;> simp_all [keptO, Obj.isCells, Obj.isWalk])⟩) (Below.refl _ _) (fun _ => rfl)
    (fun pre W => (W.heap[B]? = some (.cells #[.int .i64 (boundsL (pre.map (·.1))).1.1, .int .i64 (boundsL (pre.map (·.1))).1.2, .int .i64 (boundsL (pre.map (·.1))).2.1, .int .i64 (boundsL (pre.map (·.1))).2.2] 55 (0, 0)) ∧ W.heap[w.heap.size]? = some (.cells #[.int .i64 0, .int .i64 0, .int .i64 0, .int .i64 0] 55 (0, 0))) ∧ Below w.heap.size w W)
    (fun _ _ _ => False)
    (OwnFrom.and (fun s X Y row hs hg hr => ⟨rowCells_own hs.1 hg (fun r e => (hr r e).2), rowCells_own hs.2 hg (fun r e => (hr r e).2)⟩) (ownFrom_below (Nat.le_refl _) (by omega)))
    (fun _ _ _ _ _ hs _ _ => hs)
    ⟨⟨hb0, hr0⟩, hxW⟩
    (fun x a' W => ∃ Bx, W.heap[Bx]? = some (.cells #[.int .i64 x.1.1, .int .i64 x.1.2] 26 (0, 0)) ∧ a' = { tmps := #[.pointer (some ⟨gb, 0, none⟩), undef, .pointer (some ⟨w.heap.size, 0, none⟩), .bool false, .pointer (some ⟨B, 0, none⟩), .pointer (some ⟨Bx, 0, none⟩), .pointer (some ⟨gb, 0, none⟩), .int .i64 M.length, .bool false, undef, .agg #[.int .i64 256, .int .i64 4096], .agg #[.int .i64 256, .int .i64 4096, .int .i64 0, .int .i64 0], .pointer (some ⟨gb, 0, none⟩), .func (.func 50) #[] #[.pointer (some ⟨B + 1, 0, none⟩), .pointer (some ⟨B + 1 + 1, 0, none⟩)], adW x.1, copyCV x.2.1 x.2.2, undef, undef, undef, undef, undef, undef, undef, undef, undef, undef, undef, undef, undef, undef, undef, undef, undef, undef, undef, undef, undef, undef, undef, undef, undef, undef, undef, undef, undef], defers := [] })
    (fun x a' _ X Y row hs hg hr => by
      obtain ⟨Bx, h1, h2⟩ := hs
      exact ⟨Bx, rowCells_own h1 hg (fun r e => (hr r e).2), h2⟩)
    ?assign ?body ?done ?stop
  case assign =>
    rintro l pre x W K ⟨⟨hv, hv2⟩, hB⟩ hK
    gi_wp2
    exact hK _ _ ((KeepsOthers.alloc _ _).from _) ⟨(Below.refl _ W).alloc hB.size _, KeepsT.of_xt ((Xt.refl W).alloc _)⟩ ⟨⟨(Below.heap_alloc W _ _ (Array.getElem?_eq_some_iff.1 hv).1).trans hv, (Below.heap_alloc W _ _ (Array.getElem?_eq_some_iff.1 hv2).1).trans hv2⟩, hB.alloc hB.size _⟩ ⟨W.heap.size, World.alloc_heap_new W _, rfl⟩
  case body =>
    rintro l pre x a' W hl ⟨r, hr⟩ ⟨⟨hv, hv2⟩, hB⟩ ⟨Bx, hBx, rfl⟩ hlt
    have hne : B ≠ Bx := fun e => by have hq := hv; rw [e, hBx] at hq; simp at hq
    have HV := Lib.hid hv
    have HV2 := Lib.hid hv2
    generalize hbl : boundsL (pre.map (·.1)) = bl at hv HV
    have HBL := Lib.hid hbl
    clear hbl
    obtain ⟨⟨b1, b2⟩, b3, b4⟩ := bl
    obtain ⟨x, xc⟩ := x
    have c0 : W.cell? ⟨B, 0, none⟩ = some (.int .i64 b1) := by simp [World.cell?, hv]
    have c1 : W.cell? ⟨B, 1, none⟩ = some (.int .i64 b2) := by simp [World.cell?, hv]
    have c2 : W.cell? ⟨B, 2, none⟩ = some (.int .i64 b3) := by simp [World.cell?, hv]
    have c3 : W.cell? ⟨B, 3, none⟩ = some (.int .i64 b4) := by simp [World.cell?, hv]
    have z : ∀ o, W.frozen? ⟨B, o, none⟩ = false := fun o => by simp [World.frozen?, hv]
    have z0 := z 0
    have z1 := z 1
    have z2 := z 2
    have z3 := z 3
    have d0 : W.cell? ⟨Bx, 0, none⟩ = some (.int .i64 x.1) := by simp [World.cell?, hBx]
    have d1 : W.cell? ⟨Bx, 1, none⟩ = some (.int .i64 x.2) := by simp [World.cell?, hBx]
    clear hv z hBx hv2
    gi_wp2
    have r4 := setCell_row (setCell_row (setCell_row (setCell_row HV.out 0 (.int .i64 (min b1 x.1))) 1 (.int .i64 (min b2 x.2))) 2 (.int .i64 (max b3 x.1))) 3 (.int .i64 (max b4 x.2))
    simp only [List.setIfInBounds_toArray, List.set_cons_zero, List.set_cons_succ] at r4
    have hg4 := grown_set (grown_set (grown_set (grown_set (World.grownBy.refl W (some B)) 0 (.int .i64 (min b1 x.1))) 1 (.int .i64 (min b2 x.2))) 2 (.int .i64 (max b3 x.1))) 3 (.int .i64 (max b4 x.2))
    have hb4 : Below w.heap.size W _ := (Below.refl w.heap.size W).grown hg4 hB.size (fun k e => by cases e; omega)
    refine ⟨KeepsFrom.of_grownBy hg4 (fun j e => by cases e; omega), ⟨hb4, KeepsT.of_grown hg4 (fun j o e ho => by cases e; rw [HV.out] at ho; cases ho; rfl)⟩, ⟨?_, (hg4.block _ (Array.getElem?_eq_some_iff.1 HV2.out).1 (fun e => by cases e; omega)).trans HV2.out⟩, hB.trans hb4⟩
    have hs := boundsL_snoc (pre.map (·.1)) x
    rw [HBL.out] at hs
    simp only [List.map_append, List.map_cons, List.map_nil, hs]
    exact r4
  case done =>
    rintro D xs W hD hS ⟨⟨hv, hv2⟩, hB⟩ hK
    have hkeys : xs.map (·.1) = M.map (·.1) := by
      have := congrArg (List.map (·.1)) hS
      rw [List.filter_eq_self.2 (fun _ _ => rfl)] at this
      simpa [List.map_map, Function.comp_def] using this
    rw [hkeys] at hv
    have c0 : W.cell? ⟨B, 0, none⟩ = some (.int .i64 (boundsL (M.map (·.1))).1.1) := by simp [World.cell?, hv]
    have c1 : W.cell? ⟨B, 1, none⟩ = some (.int .i64 (boundsL (M.map (·.1))).1.2) := by simp [World.cell?, hv]
    have c2 : W.cell? ⟨B, 2, none⟩ = some (.int .i64 (boundsL (M.map (·.1))).2.1) := by simp [World.cell?, hv]
    have c3 : W.cell? ⟨B, 3, none⟩ = some (.int .i64 (boundsL (M.map (·.1))).2.2) := by simp [World.cell?, hv]
    have y0 : W.cell? ⟨w.heap.size, 0, none⟩ = some (.int .i64 0) := by simp [World.cell?, hv2]
    have y1 : W.cell? ⟨w.heap.size, 1, none⟩ = some (.int .i64 0) := by simp [World.cell?, hv2]
    have y2 : W.cell? ⟨w.heap.size, 2, none⟩ = some (.int .i64 0) := by simp [World.cell?, hv2]
    have y3 : W.cell? ⟨w.heap.size, 3, none⟩ = some (.int .i64 0) := by simp [World.cell?, hv2]
    have z : ∀ o, W.frozen? ⟨w.heap.size, o, none⟩ = false := fun o => by simp [World.frozen?, hv2]
    have z0 := z 0
    have z1 := z 1
    have z2 := z 2
    have z3 := z 3
    have HV2 := Lib.hid hv2
    clear z hv hv2 hkeys
    generalize hbl : boundsL (M.map (·.1)) = bl at *
    have HBL := Lib.hid hbl
    clear hbl
    obtain ⟨⟨b1, b2⟩, b3, b4⟩ := bl
    gi_wp2
    have r4 := setCell_row (setCell_row (setCell_row (setCell_row HV2.out 0 (.int .i64 b1)) 1 (.int .i64 b2)) 2 (.int .i64 b3)) 3 (.int .i64 b4)
    simp only [List.setIfInBounds_toArray, List.set_cons_zero, List.set_cons_succ] at r4
    have hg4 := grown_set (grown_set (grown_set (grown_set (World.grownBy.refl W (some w.heap.size)) 0 (.int .i64 b1)) 1 (.int .i64 b2)) 2 (.int .i64 b3)) 3 (.int .i64 b4)
    have hb4 : Below w.heap.size W _ := (Below.refl w.heap.size W).grown hg4 hB.size (fun k e => by cases e; omega)
    generalize World.setCell _ _ _ = W5 at r4 hg4 hb4 ⊢
    have hK5 := (hg4.block D (Array.getElem?_eq_some_iff.1 hK).1 (fun e => by cases e; omega)).trans hK
    refine ⟨by simp, .inl ⟨_, _, rfl, run_takeDeferred hK5, ?_⟩⟩
    have r6 : (W5.putObj D (.deferred none)).heap[w.heap.size]? = some (.cells #[.int .i64 b1, .int .i64 b2, .int .i64 b3, .int .i64 b4] 55 (0, 0)) := (World.putObj_heap_other (by omega)).trans r4
    refine ⟨.tuple #[arV ((b1, b2), (b3, b4)), .bool true], ?_, ?_⟩
    · rw [results_cell_tmp rfl]
      show ((asAddr (.pointer (some ⟨w.heap.size, 0, none⟩))).run _ _).andThen _ = _
      simp only [asAddr, Sem.run_pure, Result.andThen_ok, run_loadVar_row _ _ _ 55 _ _ _ r6 Tryd.underlying55 rfl (by kernel_rfl)]
      rfl
    · rw [HBL.out]
      exact ⟨rfl, (hB.trans hb4).trans (belowK_b (w := w) (Nat.le_refl _) W5 D _ _ (by omega) hK5 rfl rfl)⟩
  case stop =>
    rintro D c pre W hD hS hF
    exact hF.elim
end Go.Proofs.YtfpdleljhbkehaaDoor
