import Derived.Test.YtideclfpbpjebaaGreatDoorB37
import Derived.Test.YtideclfpbpjebaaGreatDoorB38
namespace Go.Proofs.YtideclfpbpjebaaGreatDoor
section
open Go.RowKit Go.Sort Go.Maps Go.Shelf Go.MapKept
attribute [local go_sem] Oper.semAt_some

set_option maxRecDepth 100000 in
theorem bounds_zero (gb mb : Nat) (w : World) (hG : GridIs w gb mb []) : Calls Tryz.prog 14 #[.pointer (some ⟨gb, 0, none⟩)] w fun e w' => e = .returned (.tuple #[arV ((0, 0), (0, 0)), .bool false]) ∧ Xt w w' := by
  obtain ⟨w1, hw1⟩ : ∃ w1, w.alloc (.cells #[.int .i64 0, .int .i64 0, .int .i64 0, .int .i64 0] 48) = w1 := ⟨_, rfl⟩
  have hx1 : Hid (Xt w w1) := by rw [← hw1]; exact (Xt.refl w).alloc _
  have hr1 : w1.heap[w.heap.size]? = some (.cells #[.int .i64 0, .int .i64 0, .int .i64 0, .int .i64 0] 48 (0, 0)) := by rw [← hw1]; exact (MapKept.heap_alloc w _).1
  obtain ⟨w2, hw2⟩ : ∃ w2, w1.setRow w.heap.size #[.int .i64 0, .int .i64 0, .int .i64 0, .int .i64 0] = w2 := ⟨_, rfl⟩
  have hr2 : w2.heap[w.heap.size]? = some (.cells #[.int .i64 0, .int .i64 0, .int .i64 0, .int .i64 0] 48 (0, 0)) := by rw [← hw2]; exact setRow_heap w1 _ _ _ _ _ hr1
  have HX : Hid (Xt w w2) := by rw [← hw2]; exact hx1.out.grownB (setRow_grown _ _ _) (fun m hm => by cases hm; exact Nat.le_refl _)
  have HLN := Lib.hid (glen_any gb mb [] w1 (hG.xt hx1.out))
  have HR1 := Lib.hid hr1
  have HR2 := Lib.hid hr2
  have HW2 := Lib.hid hw2
  clear hr1 hr2 hw2 hG
  go_enter Tryz.func14, Tryz.ntmps14
  go_wp2_with (first
    | (go_at_call 15; refine HLN.out.mono ?_; rintro e w' ⟨rfl, rfl⟩)
    | (refine wpList_store_row (P := Tryz.prog) rfl 48 _ _ rfl w.heap.size #[.int .i64 0, .int .i64 0, .int .i64 0, .int .i64 0] rfl rfl 48 _ HR1.out (by kernel_rfl) rfl (by simp [Value.oneCell']) ?_; rw [HW2.out]))
  (try simp only [Exit.inBlock, Exit.then])
  refine bodyPost_ret (v := .tuple #[arV ((0, 0), (0, 0)), .bool false]) ?_ rfl ⟨rfl, HX.out⟩
  rw [results_cell_tmp rfl]
  show ((asAddr (.pointer (some ⟨w.heap.size, 0, none⟩))).run _ _).andThen _ = _
  simp only [asAddr, Sem.run_pure, Result.andThen_ok, run_loadVar_row _ _ _ 48 _ _ _ HR2.out Tryz.underlying48 rfl (by kernel_rfl)]
  rfl
theorem bounds_same {w : World} {gb mb rb : Nat} {M : GM} {l : List PI} (h : Pair w gb mb M rb l) : ∃ (X : Ar) (is : Bool), (∀ V, Xt w V → Calls Tryz.prog 14 #[.pointer (some ⟨gb, 0, none⟩)] V fun e w' => e = .returned (.tuple #[arV X, .bool is]) ∧ Xt V w') ∧
    (∀ V, Xt w V → Calls Tryz.prog 23 #[.pointer (some ⟨rb, 0, none⟩)] V fun e w' => e = .returned (.tuple #[arV X, .bool is]) ∧ Xt V w') := by
  have hlen : M.length = l.length := by have := congrArg List.length h.e; rwa [er_len, pis_len] at this
  by_cases hl : l = []
  · have hM : M = [] := List.eq_nil_of_length_eq_zero (by rw [hlen, hl]; rfl)
    subst hl hM
    exact ⟨_, _, fun V hV => bounds_zero gb mb V (h.g.xt hV), fun V hV => dbounds_nil rb V (h.r.xt hV)⟩
  · have hM : M ≠ [] := fun e => hl (List.eq_nil_of_length_eq_zero (by rw [← hlen, e]; rfl))
    have hk : M.map (·.1) = l.map (·.a) := by
      have := congrArg (List.map (·.1)) h.e
      rw [er_keys] at this
      rw [this]
      simp [pis]
    refine ⟨bndD (l.map (·.a)), true, fun V hV => ?_, fun V hV => dbounds_any rb l V (h.r.xt hV) hl⟩
    have hb : boundsL (M.map (·.1)) = bndD (l.map (·.a)) := by
      rw [hk]
      refine bnd_same (by simpa using hl) fun a ha => ?_
      obtain ⟨x, hx, rfl⟩ := List.mem_map.1 ha
      exact (h.ok.each (x.a, x.c) (List.mem_map.2 ⟨x, hx, rfl⟩)).1
    have := bounds_any gb mb M V (h.g.xt hV) hM
    rwa [hb] at this
abbrev rowA (z : Ar) : Array Value := #[.int .i64 z.1.1, .int .i64 z.1.2, .int .i64 z.2.1, .int .i64 z.2.2]
theorem boxA (w : World) (z : Ar) : ∃ wZ wR, w.alloc (.cells #[.int .i64 0, .int .i64 0, .int .i64 0, .int .i64 0] 48) = wZ ∧ wZ.setRow w.heap.size (rowA z) = wR ∧
    Hid (wZ.heap[w.heap.size]? = some (Obj.cells #[.int .i64 0, .int .i64 0, .int .i64 0, .int .i64 0] 48 (0, 0))) ∧ Hid (wR.heap[w.heap.size]? = some (Obj.cells (rowA z) 48 (0, 0))) ∧ Hid (Xt w wR) ∧ wR.heap.size = w.heap.size + 1 := by
  have h1 := (MapKept.heap_alloc w (.cells #[.int .i64 0, .int .i64 0, .int .i64 0, .int .i64 0] 48)).1
  exact ⟨_, _, rfl, rfl, h1, setRow_heap _ _ _ _ _ _ h1, ((Xt.refl w).alloc _).grownB (setRow_grown _ _ _) (fun m hm => by cases hm; exact Nat.le_refl _), by simp⟩
/-- All of a grid is just what the document's has. -/
theorem told_all_any {w : World} {gb mb rb : Nat} {M : GM} {l : List PI} {la : Option Addr} {lc : Nat} (h : Pair w gb mb M rb l) (hp : PutsIn w (.slice la l.length lc) l) (leave : Int) (V0 V : World) (hx : Xt w V0) (hV : V = (V0.alloc (.cells #[.pointer (some ⟨gb, 0, none⟩)] 25)).alloc (.cells #[.func (.func 35) #[] #[]] 86)) :
    Calls Tryz.prog 8 #[.func (.func 59) #[] #[.pointer (some ⟨V0.heap.size, 0, none⟩), .pointer (some ⟨V0.heap.size + 1, 0, none⟩)], .slice la l.length lc, .int .i64 leave] V fun e w' => e = .returned (.bool true) ∧ Xt V w' := by
  obtain ⟨V1, hV1⟩ : ∃ V1, V0.alloc (.cells #[.pointer (some ⟨gb, 0, none⟩)] 25) = V1 := ⟨_, rfl⟩
  rw [hV1] at hV
  have s1 : V1.heap.size = V0.heap.size + 1 := by rw [← hV1]; simp
  have hx1 : Xt V0 V1 := by rw [← hV1]; exact (Xt.refl _).alloc _
  have hx2 : Xt V1 V := by rw [hV]; exact (Xt.refl _).alloc _
  have r1 : V1.heap[V0.heap.size]? = some (Obj.cells #[.pointer (some ⟨gb, 0, none⟩)] 25 (0, 0)) := by rw [← hV1]; exact (MapKept.heap_alloc V0 _).1
  have r2 : V.heap[V0.heap.size + 1]? = some (Obj.cells #[.func (.func 35) #[] #[]] 86 (0, 0)) := by rw [hV, ← s1]; exact (MapKept.heap_alloc V1 _).1
  have hxV := hx.trans (hx1.trans hx2)
  exact told_any 35 #[] (enters_of Tryz.func35 (by kernel_rfl) rfl) (fun _ => true) V (fun _ => True) (fun _ _ _ _ => trivial) (fun a W _ => all1_any a W) V0.heap.size (V0.heap.size + 1) gb mb M _ l leave (h.g.xt hxV) (by rw [h.e]; exact h.ok) (hp.xt hxV) (by rw [h.e, List.filter_eq_self.2 (fun _ _ => rfl)]) (by have := rowX hx2 r1; simp [World.cell?, this]) r2 trivial
theorem all_call (gb : Nat) (V : World) : Calls Tryz.prog 9 #[.pointer (some ⟨gb, 0, none⟩)] V fun e w' => e = .returned (.func (.func 59) #[] #[.pointer (some ⟨V.heap.size, 0, none⟩), .pointer (some ⟨V.heap.size + 1, 0, none⟩)]) ∧ w' = (V.alloc (.cells #[.pointer (some ⟨gb, 0, none⟩)] 25)).alloc (.cells #[.func (.func 35) #[] #[]] 86) := (callsIn_wide (n := 20)).1 (all_in 20 (by omega) (some ⟨gb, 0, none⟩) V)
set_option maxRecDepth 100000 in
set_option maxHeartbeats 1000000 in
theorem step_all (w0 w : World) (wb gs rs k j : Nat) (p q : G5) (o : OpT) (n : Nat) (hT : Tabs w0) (h : St w0 w wb gs rs k j p q) (hk : pickZ o.on 2 = (k : Int)) (hkj : k < 2 ∧ j < 2 ∧ k + j = 1) (ho : I64 o.on ∧ I64 o.n) (hok : o.x.c.ok) (hsm : smallT o.x.c.t) (hin : ArgsIn w n (.slice o.x.p o.x.c.t.args.length o.x.cap) o.x.c.t.args)
    (hn : (o.kind == 1) = false ∧ (o.kind == 2) = false ∧ (o.kind == 3) = true) : Calls Tryz.prog 7 #[.pointer (some ⟨wb, 0, none⟩), opV o] w (StepR w0 wb gs rs k j) := by
  obtain ⟨n1, n2, n3⟩ := hn
  obtain ⟨w1, hw1⟩ : ∃ w1, w.alloc (.cells (opC o).toArray 50) = w1 := ⟨_, rfl⟩
  have HX1 : Hid (Xt w w1) := by unfold Hid; rw [← hw1]; exact (Xt.refl _).alloc _
  have HR1 : Hid (w1.heap[w.heap.size]? = some (Obj.cells (opC o).toArray 50 (0, 0))) := by unfold Hid; rw [← hw1]; exact (MapKept.heap_alloc w _).1
  have H0 := Lib.hid h
  have H := Lib.hid (h.xt HX1.out)
  have HT := Lib.hid (hT.xt h.hx)
  have HOK := Lib.hid hok
  have HSM := Lib.hid hsm
  have HIN := Lib.hid hin
  have HO := Lib.hid ho
  have HKJ := Lib.hid hkj
  have HP := Lib.hid (pickz_any o.on 2 w1 ho.1.1 ho.1.2 (by omega) (by omega))
  rw [hk] at HP
  obtain ⟨g0, g1, g2, g3, g4, g5⟩ := H.out.cells
  obtain ⟨⟨c0, c1, c2, c3, c4⟩, _⟩ := opC_at HR1.out
  have hk2 : (k : Int) < 2 := by omega
  have hj2 : (j : Int) < 2 := by omega
  have hsub : IntKind.i64.wrap (1 - (k : Int)) = (j : Int) := by rw [IntKind.wrap_i64]; omega
  clear h hk ho hT hok hsm hin
  go_enter Tryz.func7, Tryz.ntmps7
  go_upto_region 20 with (first
    | (go_at_call 17; refine HP.out.mono ?_; rintro e w' ⟨rfl, rfl⟩))
  clear HP n1 n2 n3
  obtain ⟨B, hB⟩ : ∃ B, w.heap.size = B := ⟨_, rfl⟩
  simp only [hB]
  rw [hB] at HR1
  obtain ⟨X, is, hb1, hb2⟩ := bounds_same H.out.pa
  have HB1 := Lib.hid (hb1 w1 (Xt.refl _))
  have HB2 := Lib.hid hb2
  obtain ⟨vv, hcc, hPP⟩ := H.out.pa.r.cell
  obtain ⟨la, lc, rfl, hlc, hlc2⟩ := hPP.shape
  have HPP := Lib.hid hPP
  have HCC := Lib.hid hcc
  have hml : p.M.length = p.l.length := by have := congrArg List.length H.out.pa.e; rwa [er_len, pis_len] at this
  have HML := Lib.hid hml
  clear hb1 hb2 hPP hcc hml c0 c1 c2 c3 c4 g0 g1 g2 g3 g4 g5
  go_upto_region 22 with (first
    | (go_at_call 14; refine HB1.out.mono ?_; rintro e w2 ⟨rfl, hx2⟩; have HX2 := Lib.hid hx2; obtain ⟨wZ, w3, hwZ, hw3, HRZ, HRK3, HX3, hs3⟩ := boxA w2 X; have HX13 : Hid (Xt w1 w3) := Lib.hid (hx2.trans HX3.out); clear hx2)
    | (go_at_call 23; refine (HB2.out _ HX13.out).mono ?_; rintro e w4 ⟨rfl, hx4⟩; have HX4 := Lib.hid hx4; obtain ⟨wY, w5, hwY, hw5, HRY, HRK5, HX5, hs5⟩ := boxA w4 X; have HX15 : Hid (Xt w1 w5) := Lib.hid (HX13.out.trans (hx4.trans HX5.out)); clear hx4)
    | (refine wpList_store_row (P := Tryz.prog) rfl 48 _ _ rfl w2.heap.size (rowA X) rfl rfl 48 _ HRZ.out (by kernel_rfl) rfl (by simp [Value.oneCell']) ?_; clear HRZ; rw [hw3])
    | (refine wpList_store_row (P := Tryz.prog) rfl 48 _ _ rfl w4.heap.size (rowA X) rfl rfl 48 _ HRY.out (by kernel_rfl) rfl (by simp [Value.oneCell']) ?_; clear HRY; rw [hw5]))
  have HK3 := Lib.hid (rowX (HX4.out.trans HX5.out) HRK3.out)
  obtain ⟨K2, hK2⟩ : ∃ K, w2.heap.size = K := ⟨_, rfl⟩
  obtain ⟨K4, hK4⟩ : ∃ K, w4.heap.size = K := ⟨_, rfl⟩
  rw [hK2] at HK3
  rw [hK4] at HRK5
  simp only [hK2, hK4]
  have HF : Hid (∀ V, Xt w5 V → (V.cell? ⟨p.r, 0, none⟩ = some (.slice la p.l.length lc) ∧ V.cell? ⟨B, 2, none⟩ = some (.int .i64 o.n)) ∧ (V.cell? ⟨K2, 0, none⟩ = some (.int .i64 X.1.1) ∧ V.cell? ⟨K2, 1, none⟩ = some (.int .i64 X.1.2) ∧ V.cell? ⟨K2, 2, none⟩ = some (.int .i64 X.2.1) ∧ V.cell? ⟨K2, 3, none⟩ = some (.int .i64 X.2.2)) ∧ (V.cell? ⟨K4, 0, none⟩ = some (.int .i64 X.1.1) ∧ V.cell? ⟨K4, 1, none⟩ = some (.int .i64 X.1.2) ∧ V.cell? ⟨K4, 2, none⟩ = some (.int .i64 X.2.1) ∧ V.cell? ⟨K4, 3, none⟩ = some (.int .i64 X.2.2))) := Lib.hid fun V hV => by
    obtain ⟨⟨_, _, q, _, _⟩, _⟩ := opC_at (rowX (HX15.out.trans hV) HR1.out)
    exact ⟨⟨(HX15.out.trans hV).cellsIn _ _ _ HCC.out, q⟩, (cells4 (rowX hV HK3.out)).1, (cells4 (rowX hV HRK5.out)).1⟩
  have HTO := Lib.hid (fun (leave : Int) (V0 V : World) (hx : Xt w5 V0) hV => told_all_any H.out.pa HPP.out leave V0 V (HX15.out.trans hx) hV)
  have HPK := Lib.hid (fun V => pickz_any o.n 5 V HO.out.2.1 HO.out.2.2 (by omega) (by omega))
  clear hwZ hw3 hwY hw5 hs3 hs5 hK2 hK4
  have HXD : Hid (Xt w5 w5.drew) := Lib.hid (Xt.refl _).drew
  refine rg (fun V => Xt w5 V) HXD.out fun hHeld => ?_
  refine tk HF.out 0 ?_
  refine tk HF.out 2 ?_
  refine tk HF.out 3 ?_
  refine tk HF.out 4 ?_
  refine tk HF.out 5 ?_
  refine tk HF.out 6 ?_
  refine tk HF.out 7 ?_
  refine rdH 1 fun K hK => ?_
  go_simp
  refine (all_call _ _).mono ?_
  rintro e w6 ⟨rfl, hw6⟩
  have HTD := Lib.hid (HTO.out (pickZ o.n 5) w5.drew w6 HXD.out hw6)
  have HX6 : Hid (Xt w5 w6) := Lib.hid (by rw [hw6]; exact (HXD.out.alloc _).alloc _)
  refine ko hK HX6.out fun hHe => ?_
  clear hK K hw6
  refine rdH 8 fun K hK => ?_
  go_simp
  refine (HPK.out _).mono ?_
  rintro e w' ⟨rfl, rfl⟩
  refine ko hK HX6.out fun hHe2 => ?_
  clear hK K
  refine rdH 9 fun K hK => ?_
  go_simp
  refine HTD.out.mono ?_
  rintro e w7 ⟨rfl, hx7⟩
  have HX7 : Hid (Xt w5 w7) := Lib.hid (HX6.out.trans hx7)
  refine ko hK HX7.out fun hHe3 => ?_
  clear hK K hx7
  refine tk HF.out 10 ?_
  refine wpAnyH_done (by kernel_rfl) ?_ _
  clear hHeld hHe hHe2 hHe3 HTD HXD
  go_wp2_with fail
  have HXD : Hid (Xt w5 w7.drew) := Lib.hid HX7.out.drew
  refine rg (fun V => Xt w5 V) HXD.out fun hHeld => ?_
  refine tk HF.out 0 ?_
  refine tk HF.out 2 ?_
  refine tk HF.out 3 ?_
  refine tk HF.out 4 ?_
  refine tk HF.out 5 ?_
  refine rdH 1 fun K hK => ?_
  go_simp
  refine (all_call _ _).mono ?_
  rintro e w8 ⟨rfl, hw8⟩
  have HTD := Lib.hid (HTO.out 0 w7.drew w8 HXD.out hw8)
  have HX8 : Hid (Xt w5 w8) := Lib.hid (by rw [hw8]; exact (HXD.out.alloc _).alloc _)
  refine ko hK HX8.out fun hHe => ?_
  clear hK K hw8
  refine rdH 6 fun K hK => ?_
  go_simp
  refine HTD.out.mono ?_
  rintro e w9 ⟨rfl, hx9⟩
  have HX9 : Hid (Xt w5 w9) := Lib.hid (HX8.out.trans hx9)
  refine ko hK HX9.out fun hHe3 => ?_
  clear hK K hx9
  refine tk HF.out 7 ?_
  refine wpAnyH_done (by kernel_rfl) ?_ _
  clear hHeld hHe hHe3 HTD HXD
  go_wp2_with fail
  have HXD : Hid (Xt w5 w9.drew) := Lib.hid HX9.out.drew
  have HLN := Lib.hid (glen_any p.g p.m p.M w9.drew (H.out.pa.g.xt (HX15.out.trans HXD.out)))
  rw [HML.out] at HLN
  refine rg (fun V => Xt w5 V) HXD.out fun hHeld => ?_
  refine tk HF.out 0 ?_
  refine tk HF.out 1 ?_
  refine tk HF.out 2 ?_
  refine tk HF.out 3 ?_
  refine tk HF.out 4 ?_
  refine tk HF.out 5 ?_
  refine tk HF.out 6 ?_
  refine tk HF.out 7 ?_
  refine tk HF.out 8 ?_
  refine tk HF.out 9 ?_
  refine tk HF.out 10 ?_
  refine tk HF.out 11 ?_
  refine tk HF.out 12 ?_
  refine tk HF.out 13 ?_
  refine tk HF.out 14 ?_
  refine tk HF.out 15 ?_
  refine tk HF.out 17 ?_
  refine tk HF.out 18 ?_
  refine tk HF.out 19 ?_
  refine tk HF.out 20 ?_
  refine tk HF.out 21 ?_
  refine rdH 16 fun K hK => ?_
  go_simp
  refine HLN.out.mono ?_
  rintro e w' ⟨rfl, rfl⟩
  refine ko hK HXD.out fun hHe => ?_
  clear hK K
  refine tk HF.out 22 ?_
  refine tk HF.out 23 ?_
  refine tk HF.out 24 ?_
  refine wpAnyH_done (by kernel_rfl) ?_ _
  go_wp2_with fail
  go_ret
  exact ⟨rfl, p, q, H.out.xt (HX15.out.trans HXD.out)⟩
end
end Go.Proofs.YtideclfpbpjebaaGreatDoor
