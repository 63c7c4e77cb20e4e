import Derived.Test.YtideclfpbpjebaaGreatDoorB37
import Derived.Test.YtideclfpbpjebaaGreatDoorB38
namespace Go.Proofs.YtideclfpbpjebaaGreatDoor
section
open Go.RowKit Go.Sort Go.Maps Go.Shelf Go.MapKept
attribute [local go_sem] Oper.semAt_some

theorem in1_any (z : Ar) (b : Nat) (a : Ad) (w : World) (hr : w.heap[b]? = some (Obj.cells #[.int .i64 z.1.1, .int .i64 z.1.2, .int .i64 z.2.1, .int .i64 z.2.2] 48 (0, 0))) : Calls Tryz.prog 47 (#[adW a] ++ #[.pointer (some ⟨b, 0, none⟩)]) w fun e w' => e = .returned (.bool (inAr z a)) ∧ Gr w w' := by
  obtain ⟨w0, hw0, hb0, hs0, k0, k1⟩ := box1 w a.1 a.2 36
  have HX0 : Hid (Xt w w0) := Lib.hid hb0
  obtain ⟨⟨c0, c1, c2, c3⟩, _⟩ := cells4 (rowX HX0.out hr)
  have HI := Lib.hid (fun V => in_any z.1.1 z.1.2 z.2.1 z.2.2 a.1 a.2 V)
  have HG0 : Hid (Gr w w0) := Lib.hid (by rw [← hw0]; exact (Gr.refl _).alloc _)
  go_enter Tryz.func47, Tryz.ntmps47
  go_wp2_with (first
    | (go_at_call 48; refine (HI.out _).mono ?_; rintro e w1 ⟨rfl, hg1⟩; have HG1 := Lib.hid hg1; clear hg1))
  go_ret
  exact ⟨rfl, HG0.out.trans HG1.out⟩
set_option maxRecDepth 100000 in
set_option maxHeartbeats 1000000 in
theorem step_in (w0 w : World) (wb gs rs k j : Nat) (p q : G5) (o : OpT) (n : Nat) (hT : Tabs w0) (h : St w0 w wb gs rs k j p q) (hk : pickZ o.on 2 = (k : Int)) (hkj : k < 2 ∧ j < 2 ∧ k + j = 1) (ho : I64 o.on ∧ I64 o.n) (hok : o.x.c.ok) (hsm : smallT o.x.c.t) (hin : ArgsIn w n (.slice o.x.p o.x.c.t.args.length o.x.cap) o.x.c.t.args)
    (hn : (o.kind == 1) = false ∧ (o.kind == 2) = false ∧ (o.kind == 3) = false ∧ (o.kind == 4) = true) : Calls Tryz.prog 7 #[.pointer (some ⟨wb, 0, none⟩), opV o] w (StepR w0 wb gs rs k j) := by
  obtain ⟨n1, n2, n3, n4⟩ := hn
  obtain ⟨w1, hw1⟩ : ∃ w1, w.alloc (.cells (opC o).toArray 50) = w1 := ⟨_, rfl⟩
  have HX1 : Hid (Xt w w1) := by unfold Hid; rw [← hw1]; exact (Xt.refl _).alloc _
  have HR1 : Hid (w1.heap[w.heap.size]? = some (Obj.cells (opC o).toArray 50 (0, 0))) := by unfold Hid; rw [← hw1]; exact (MapKept.heap_alloc w _).1
  have H0 := Lib.hid h
  have H := Lib.hid (h.xt HX1.out)
  have HT := Lib.hid (hT.xt h.hx)
  have HOK := Lib.hid hok
  have HSM := Lib.hid hsm
  have HIN := Lib.hid hin
  have HO := Lib.hid ho
  have HKJ := Lib.hid hkj
  have HP := Lib.hid (pickz_any o.on 2 w1 ho.1.1 ho.1.2 (by omega) (by omega))
  rw [hk] at HP
  obtain ⟨g0, g1, g2, g3, g4, g5⟩ := H.out.cells
  obtain ⟨⟨c0, c1, c2, c3, c4⟩, _⟩ := opC_at HR1.out
  have hk2 : (k : Int) < 2 := by omega
  have hj2 : (j : Int) < 2 := by omega
  have hsub : IntKind.i64.wrap (1 - (k : Int)) = (j : Int) := by rw [IntKind.wrap_i64]; omega
  clear h hk ho hT hok hsm hin
  go_enter Tryz.func7, Tryz.ntmps7
  go_upto_region 26 with (first
    | (go_at_call 17; refine HP.out.mono ?_; rintro e w' ⟨rfl, rfl⟩))
  clear HP n1 n2 n3 n4
  obtain ⟨B, hB⟩ : ∃ B, w.heap.size = B := ⟨_, rfl⟩
  simp only [hB]
  rw [hB] at HR1
  obtain ⟨_, ⟨z0, z1, z2, z3⟩, _⟩ := opC_at HR1.out
  have HDI := Lib.hid (din_any o.z p.r p.l w1 H.out.pa.r)
  go_upto_region 27 with (first
    | (go_at_call 24; refine HDI.out.mono ?_; rintro e w2 ⟨v, l', b0, rfl, hb0, hG, hl, _, hx⟩; obtain ⟨va, vc, rfl, _, _⟩ := hG.own.slice (n := l'.length) rfl; have HX2 := Lib.hid hx; have HL := Lib.hid hl; have HPG := Lib.hid hG.puts; clear hb0 hG hx hl HDI))
  have HF : Hid (∀ V, Xt w2 V → V.cell? ⟨B, 26, none⟩ = some (.int .i64 o.z.1.1) ∧ V.cell? ⟨B, 27, none⟩ = some (.int .i64 o.z.1.2) ∧ V.cell? ⟨B, 28, none⟩ = some (.int .i64 o.z.2.1) ∧ V.cell? ⟨B, 29, none⟩ = some (.int .i64 o.z.2.2) ∧ V.cell? ⟨B, 2, none⟩ = some (.int .i64 o.n)) := Lib.hid fun V hV => by
    obtain ⟨⟨_, _, q, _, _⟩, ⟨q0, q1, q2, q3⟩, _⟩ := opC_at (rowX (HX2.out.trans hV) HR1.out)
    exact ⟨q0, q1, q2, q3, q⟩
  have HTO : Hid (∀ (V : World) (leave : Int) (V0 : World), Xt w2 V0 → ((V0.alloc (.cells #[.int .i64 o.z.1.1, .int .i64 o.z.1.2, .int .i64 o.z.2.1, .int .i64 o.z.2.2] 48)).alloc (.cells #[.pointer (some ⟨p.g, 0, none⟩)] 25)).alloc (.cells #[.func (.func 47) #[] #[.pointer (some ⟨V0.heap.size, 0, none⟩)]] 86) = V →
      Calls Tryz.prog 8 #[.func (.func 59) #[] #[.pointer (some ⟨V0.heap.size + 1, 0, none⟩), .pointer (some ⟨V0.heap.size + 2, 0, none⟩)], .slice va l'.length vc, .int .i64 leave] V fun e w' => e = .returned (.bool true) ∧ Xt V w') := Lib.hid fun V leave V0 hV0 hV => by
    have hx1 := (Xt.refl V0).alloc (.cells #[.int .i64 o.z.1.1, .int .i64 o.z.1.2, .int .i64 o.z.2.1, .int .i64 o.z.2.2] 48)
    obtain ⟨V1, hV1⟩ : ∃ V1, V0.alloc (.cells #[.int .i64 o.z.1.1, .int .i64 o.z.1.2, .int .i64 o.z.2.1, .int .i64 o.z.2.2] 48) = V1 := ⟨_, rfl⟩
    obtain ⟨V2, hV2⟩ : ∃ V2, V1.alloc (.cells #[.pointer (some ⟨p.g, 0, none⟩)] 25) = V2 := ⟨_, rfl⟩
    rw [hV1] at hx1 hV
    rw [hV2] at hV
    have s1 : V1.heap.size = V0.heap.size + 1 := by rw [← hV1]; simp
    have s2 : V2.heap.size = V0.heap.size + 2 := by rw [← hV2]; simp [s1]
    have hx2 : Xt V1 V2 := by rw [← hV2]; exact (Xt.refl _).alloc _
    have hx3 : Xt V2 V := by rw [← hV]; exact (Xt.refl _).alloc _
    have r1 : V1.heap[V0.heap.size]? = some (Obj.cells #[.int .i64 o.z.1.1, .int .i64 o.z.1.2, .int .i64 o.z.2.1, .int .i64 o.z.2.2] 48 (0, 0)) := by rw [← hV1]; exact (MapKept.heap_alloc V0 _).1
    have r2 : V2.heap[V0.heap.size + 1]? = some (Obj.cells #[.pointer (some ⟨p.g, 0, none⟩)] 25 (0, 0)) := by rw [← hV2, ← s1]; exact (MapKept.heap_alloc V1 _).1
    have r3 : V.heap[V0.heap.size + 2]? = some (Obj.cells #[.func (.func 47) #[] #[.pointer (some ⟨V0.heap.size, 0, none⟩)]] 86 (0, 0)) := by rw [← hV, ← s2]; exact (MapKept.heap_alloc V2 _).1
    have r1V := rowX (hx2.trans hx3) r1
    have hxV : Xt w1 V := HX2.out.trans (hV0.trans (hx1.trans (hx2.trans hx3)))
    exact told_any 47 #[.pointer (some ⟨V0.heap.size, 0, none⟩)] (enters_of Tryz.func47 (by kernel_rfl) rfl) (inAr o.z) V (fun W => W.heap[V0.heap.size]? = some (Obj.cells #[.int .i64 o.z.1.1, .int .i64 o.z.1.2, .int .i64 o.z.2.1, .int .i64 o.z.2.2] 48 (0, 0)))
      (fun W W' hW hB => (hB.block _ (Array.getElem?_eq_some_iff.1 r1V).1).trans hW) (fun a W hW => in1_any o.z _ a W hW) (V0.heap.size + 1) (V0.heap.size + 2) p.g p.m p.M (.slice va l'.length vc) l' leave ((H.out.pa.g).xt hxV) (by rw [H.out.pa.e]; exact H.out.pa.ok) (HPG.out.xt (hV0.trans (hx1.trans (hx2.trans hx3)))) (by rw [HL.out, H.out.pa.e]) (by have := rowX hx3 r2; simp [World.cell?, this]) r3 r1V
  have HIN1 := Lib.hid (fun (V : World) => (callsIn_wide (n := 20)).1 (gin_in 20 (by omega) (some ⟨p.g, 0, none⟩) o.z V))
  have HPK := Lib.hid (fun V => pickz_any o.n 5 V HO.out.2.1 HO.out.2.2 (by omega) (by omega))
  clear z0 z1 z2 z3 c0 c1 c2 c3 c4 g0 g1 g2 g3 g4 g5
  have HXD : Hid (Xt w2 w2.drew) := Lib.hid (Xt.refl _).drew
  refine rg (fun V => Xt w2 V) HXD.out fun hHeld => ?_
  refine tk HF.out 0 ?_
  refine tk HF.out 1 ?_
  refine tk HF.out 2 ?_
  refine tk HF.out 4 ?_
  refine tk HF.out 5 ?_
  refine tk HF.out 6 ?_
  refine rdH 3 fun K hK => ?_
  go_simp
  refine (HIN1.out _).mono ?_
  rintro e w3 ⟨rfl, hw3⟩
  have HTD := Lib.hid (HTO.out w3 (pickZ o.n 5) w2.drew HXD.out hw3.symm)
  have HX3 : Hid (Xt w2 w3) := Lib.hid (by rw [hw3]; exact ((HXD.out.alloc _).alloc _).alloc _)
  refine ko hK HX3.out fun hHe => ?_
  clear hK K hw3
  refine rdH 7 fun K hK => ?_
  go_simp
  refine (HPK.out _).mono ?_
  rintro e w' ⟨rfl, rfl⟩
  refine ko hK HX3.out fun hHe2 => ?_
  clear hK K
  refine rdH 8 fun K hK => ?_
  go_simp
  refine HTD.out.mono ?_
  rintro e w4 ⟨rfl, hx4⟩
  have HX4 : Hid (Xt w2 w4) := Lib.hid (HX3.out.trans hx4)
  refine ko hK HX4.out fun hHe3 => ?_
  clear hK K hx4
  refine tk HF.out 9 ?_
  refine wpAnyH_done (by kernel_rfl) ?_ _
  obtain ⟨k0, k1, k2, k3, k4⟩ := HF.out w4 HX4.out
  clear hHeld hHe hHe2 hHe3 HTD
  go_wp2_with (first
    | (go_at_call 25; refine (HIN1.out _).mono ?_; rintro e w5 ⟨rfl, hw5⟩; have HX5 : Hid (Xt w2 w5) := Lib.hid (by rw [hw5]; exact ((HX4.out.alloc _).alloc _).alloc _); have HTD := Lib.hid (HTO.out w5 0 w4 HX4.out hw5.symm); clear hw5)
    | (go_at_call 8; refine HTD.out.mono ?_; rintro e w6 ⟨rfl, hx6⟩; have HX6 : Hid (Xt w2 w6) := Lib.hid (HX5.out.trans hx6); clear hx6 HTD))
  go_ret
  exact ⟨rfl, p, q, H.out.xt (HX2.out.trans HX6.out)⟩
end
end Go.Proofs.YtideclfpbpjebaaGreatDoor
