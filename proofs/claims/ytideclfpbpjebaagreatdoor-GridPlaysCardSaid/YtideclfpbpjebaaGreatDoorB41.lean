import Derived.Test.YtideclfpbpjebaaGreatDoorB37
import Derived.Test.YtideclfpbpjebaaGreatDoorB39
namespace Go.Proofs.YtideclfpbpjebaaGreatDoor
section
open Go.RowKit Go.Sort Go.Maps Go.Shelf Go.MapKept
attribute [local go_sem] Oper.semAt_some

theorem look_same {w : World} {gb mb rb : Nat} {M : GM} {l : List PI} (h : Pair w gb mb M rb l) (a : Ad) : ∃ c0, ((lkM a M).getD (zeroC, none)).1 = c0 ∧ (lkM a (pis l)).getD zeroC = c0 ∧ copyC c0 = c0 ∧ c0.ok ∧ smallT c0.t := by
  have he := er_lk a M
  rw [h.e] at he
  cases hl : lkM a M with
  | none =>
    rw [hl] at he
    exact ⟨zeroC, rfl, by rw [he]; rfl, zeroC_copy, zero_ok, by simp [zeroC, smallT, smallL]⟩
  | some x =>
    rw [hl] at he
    have hm := h.ok.each _ (lkM_mem he)
    exact ⟨x.1, rfl, by rw [he]; rfl, hm.2.2.2.1, hm.2.2.2.2, (h.g.args _ (lkM_mem hl)).1⟩
/-- Get, by what is there. -/
theorem get_same {w : World} {gb mb rb : Nat} {M : GM} {l : List PI} (h : Pair w gb mb M rb l) (a : Ad) {c0 : ContT} (h1 : ((lkM a M).getD (zeroC, none)).1 = c0) (h2 : copyC c0 = c0) : Calls Tryz.prog 13 #[.pointer (some ⟨gb, 0, none⟩), .agg #[.int .i64 a.1, .int .i64 a.2]] w fun e w' =>
    ∃ n a', e = .returned (contV c0 a' c0.t.args.length c0.t.args.length) ∧ OwnIn (fun b => w.heap.size ≤ b) w' n (.slice a' c0.t.args.length c0.t.args.length) c0.t.args ∧ Xt w w' :=
  (ggetO_any gb mb M a w h.g).mono fun _ _ ⟨n, a', e, hO, hx⟩ => by
    rw [h1] at e hO
    rw [copy_args h2] at hO
    exact ⟨n, a', by rw [e, copy_val h2], hO, hx⟩
set_option maxRecDepth 100000 in
set_option maxHeartbeats 1000000 in
theorem step_there (w0 w : World) (wb gs rs k j : Nat) (p q : G5) (o : OpT) (n : Nat) (hT : Tabs w0) (h : St w0 w wb gs rs k j p q) (hk : pickZ o.on 2 = (k : Int)) (hkj : k < 2 ∧ j < 2 ∧ k + j = 1) (ho : I64 o.on ∧ I64 o.n) (hok : o.x.c.ok) (hsm : smallT o.x.c.t) (hin : ArgsIn w n (.slice o.x.p o.x.c.t.args.length o.x.cap) o.x.c.t.args)
    (hn : (o.kind == 1) = false ∧ (o.kind == 2) = false ∧ (o.kind == 3) = false ∧ (o.kind == 4) = false ∧ (o.kind == 5) = false ∧ (o.kind == 6) = false ∧ (o.kind == 7) = true) : Calls Tryz.prog 7 #[.pointer (some ⟨wb, 0, none⟩), opV o] w (StepR w0 wb gs rs k j) := by
  obtain ⟨n1, n2, n3, n4, n5, n6, n7⟩ := hn
  obtain ⟨w1, hw1⟩ : ∃ w1, w.alloc (.cells (opC o).toArray 50) = w1 := ⟨_, rfl⟩
  have HX1 : Hid (Xt w w1) := by unfold Hid; rw [← hw1]; exact (Xt.refl _).alloc _
  have HR1 : Hid (w1.heap[w.heap.size]? = some (Obj.cells (opC o).toArray 50 (0, 0))) := by unfold Hid; rw [← hw1]; exact (MapKept.heap_alloc w _).1
  have H0 := Lib.hid h
  have H := Lib.hid (h.xt HX1.out)
  have HT := Lib.hid (hT.xt h.hx)
  have HOK := Lib.hid hok
  have HSM := Lib.hid hsm
  have HIN := Lib.hid hin
  have HO := Lib.hid ho
  have HKJ := Lib.hid hkj
  have HP := Lib.hid (pickz_any o.on 2 w1 ho.1.1 ho.1.2 (by omega) (by omega))
  rw [hk] at HP
  obtain ⟨g0, g1, g2, g3, g4, g5⟩ := H.out.cells
  obtain ⟨⟨c0, c1, c2, c3, c4⟩, _⟩ := opC_at HR1.out
  have hk2 : (k : Int) < 2 := by omega
  have hj2 : (j : Int) < 2 := by omega
  have hsub : IntKind.i64.wrap (1 - (k : Int)) = (j : Int) := by rw [IntKind.wrap_i64]; omega
  clear h hk ho hT hok hsm hin
  go_enter Tryz.func7, Tryz.ntmps7
  go_upto_region 42 with (first
    | (go_at_call 17; refine HP.out.mono ?_; rintro e w' ⟨rfl, rfl⟩))
  clear HP n1 n2 n3 n4 n5 n6 n7
  obtain ⟨c0', hc1, hc2, hc3, hc4, hc5⟩ := look_same H.out.pa o.x.a
  obtain ⟨B, hB⟩ : ∃ B, w.heap.size = B := ⟨_, rfl⟩
  simp only [hB]
  rw [hB] at HR1
  have hbl : B < w1.heap.size := (Array.getElem?_eq_some_iff.1 HR1.out).1
  have hpm := H0.out.pa.g.lt.2
  have hpr := H0.out.pa.r.lt
  have HF : Hid (∀ V : World, V.heap[B]? = some (Obj.cells (opC o).toArray 50 (0, 0)) → V.cell? ⟨B, 3, none⟩ = some (.int .i64 o.x.a.1) ∧ V.cell? ⟨B, 4, none⟩ = some (.int .i64 o.x.a.2)) := Lib.hid fun V hV => ⟨(opC_at hV).1.2.2.2.1, (opC_at hV).1.2.2.2.2⟩
  have HG := Lib.hid (get_same (H.out.pa.xt (Xt.refl w1).drew) o.x.a hc1 hc3)
  obtain ⟨cd, hcd⟩ : ∃ z, codeP (pis p.l) o.x.a c0' = z := ⟨_, rfl⟩
  have HCD := Lib.hid hcd
  have HC2 := Lib.hid hc2
  have HC4 := Lib.hid hc4
  have HC5 := Lib.hid hc5
  clear hc1 hc2 hc3 hc4 hc5 hcd c0 c1 c2 c3 c4 g0 g1 g2 g3 g4 g5
  refine rg (fun V => V.heap[B]? = some (Obj.cells (opC o).toArray 50 (0, 0))) HR1.out fun hHeld => ?_
  refine tk HF.out 0 ?_
  refine tk HF.out 1 ?_
  refine tk HF.out 2 ?_
  refine tk HF.out 3 ?_
  refine tk HF.out 4 ?_
  refine tk HF.out 5 ?_
  refine tk HF.out 8 ?_
  refine tk HF.out 9 ?_
  refine tk HF.out 10 ?_
  refine tk HF.out 11 ?_
  refine tk HF.out 12 ?_
  refine tk HF.out 13 ?_
  refine rdH 6 fun K hK => ?_
  go_simp
  refine HG.out.mono ?_
  rintro e w2 ⟨m, a', rfl, hO2, hx2⟩
  have HX2 : Hid (Xt w1 w2) := Lib.hid ((Xt.refl w1).drew.trans hx2)
  have H2 := Lib.hid (H.out.xt HX2.out)
  have HPU := Lib.hid (gput_any m p.g p.m p.M o.x.a c0' a' c0'.t.args.length w2 H2.out.pa.g HC4.out (HT.out.xt (HX1.out.trans HX2.out)) HC5.out hO2.args)
  unfold PutR at HPU
  rw [H2.out.pa.code, HCD.out] at HPU
  refine ko hK (rowX HX2.out HR1.out) fun hHe => ?_
  clear hK K hx2 hO2 HG
  refine rdH 7 fun K hK => ?_
  go_simp
  refine HPU.out.mono ?_
  rintro e w3 ⟨ax, rfl, hG3, hg3⟩
  have HG3 := Lib.hid hG3
  have HB3 := Lib.hid hg3
  have HD3 := Lib.hid (H2.out.pa.r.byMap H2.out.pa.g HB3.out H2.out.pa.n1)
  have HDG := Lib.hid (get17O_any p.r p.l o.x.a w3 HD3.out H2.out.pa.ok)
  rw [HC2.out] at HDG
  have hr3 : w3.heap[B]? = some (Obj.cells (opC o).toArray 50 (0, 0)) := (HB3.out.block B (Nat.lt_of_lt_of_le hbl HX2.out.size) (fun e => by have := Option.some.inj e; omega)).trans (rowX HX2.out HR1.out)
  refine ko hK hr3 fun hHe2 => ?_
  clear hK K hG3 hg3 HPU
  refine rdH 14 fun K hK => ?_
  go_simp
  refine HDG.out.mono ?_
  rintro e w4 ⟨pa, kc, m2, rfl, hO4, hx4⟩
  have HX4 := Lib.hid hx4
  have HD4 := Lib.hid (HD3.out.xt HX4.out)
  have HDP := Lib.hid (dput_any m2 p.r p.l o.x.a c0' pa kc w4 HD4.out HC4.out HC5.out hO4.args)
  unfold DPutR at HDP
  rw [HCD.out] at HDP
  refine ko hK (rowX HX4.out hr3) fun hHe3 => ?_
  clear hK K hx4 hO4 HDG
  have hs4 := HX4.out.size
  have hs3 := HB3.out.size
  have hs2 := HX2.out.size
  refine rdH 15 fun K hK => ?_
  go_simp
  refine HDP.out.mono ?_
  rintro e w5 ⟨l', rfl, hD5, hp5, hg5⟩
  have hr5 : w5.heap[B]? = some (Obj.cells (opC o).toArray 50 (0, 0)) := (hg5.block B (by omega) (fun e => by have := Option.some.inj e; omega)).trans (rowX HX4.out hr3)
  have HB4 := Lib.hid (grownBy_far HB3.out HX4.out.grownN (fun r e => by cases e))
  have HST := Lib.hid (H2.out.put HB4.out HD4.out hg5 (H2.out.pa.put HC4.out ax rfl (HG3.out.xt HX4.out) hg5 HD4.out hD5 hp5))
  refine ko hK hr5 fun hHe4 => ?_
  clear hK K hD5 hp5 hg5 HDP
  refine tk HF.out 16 ?_
  refine tk HF.out 17 ?_
  refine wpAnyH_done (by kernel_rfl) ?_ _
  go_wp2_with fail
  go_ret
  exact ⟨rfl, _, q, HST.out⟩
end
end Go.Proofs.YtideclfpbpjebaaGreatDoor
