import Derived.Test.YtideclfpbpjebaaGreatDoorB41
namespace Go.Proofs.YtideclfpbpjebaaGreatDoor
section
open Go.RowKit Go.Sort Go.Maps Go.Shelf Go.MapKept
attribute [local go_sem] Oper.semAt_some

set_option maxRecDepth 100000 in
set_option maxHeartbeats 1000000 in
theorem step_get (w0 w : World) (wb gs rs k j : Nat) (p q : G5) (o : OpT) (n : Nat) (hT : Tabs w0) (h : St w0 w wb gs rs k j p q) (hk : pickZ o.on 2 = (k : Int)) (hkj : k < 2 ∧ j < 2 ∧ k + j = 1) (ho : I64 o.on ∧ I64 o.n) (hok : o.x.c.ok) (hsm : smallT o.x.c.t) (hin : ArgsIn w n (.slice o.x.p o.x.c.t.args.length o.x.cap) o.x.c.t.args)
    (hn : (o.kind == 1) = false ∧ (o.kind == 2) = true) : Calls Tryz.prog 7 #[.pointer (some ⟨wb, 0, none⟩), opV o] w (StepR w0 wb gs rs k j) := by
  obtain ⟨n1, n2⟩ := hn
  obtain ⟨w1, hw1⟩ : ∃ w1, w.alloc (.cells (opC o).toArray 50) = w1 := ⟨_, rfl⟩
  have HX1 : Hid (Xt w w1) := by unfold Hid; rw [← hw1]; exact (Xt.refl _).alloc _
  have HR1 : Hid (w1.heap[w.heap.size]? = some (Obj.cells (opC o).toArray 50 (0, 0))) := by unfold Hid; rw [← hw1]; exact (MapKept.heap_alloc w _).1
  have H0 := Lib.hid h
  have H := Lib.hid (h.xt HX1.out)
  have HT := Lib.hid (hT.xt h.hx)
  have HOK := Lib.hid hok
  have HSM := Lib.hid hsm
  have HIN := Lib.hid hin
  have HO := Lib.hid ho
  have HKJ := Lib.hid hkj
  have HP := Lib.hid (pickz_any o.on 2 w1 ho.1.1 ho.1.2 (by omega) (by omega))
  rw [hk] at HP
  obtain ⟨g0, g1, g2, g3, g4, g5⟩ := H.out.cells
  obtain ⟨⟨c0, c1, c2, c3, c4⟩, _⟩ := opC_at HR1.out
  have hk2 : (k : Int) < 2 := by omega
  have hj2 : (j : Int) < 2 := by omega
  have hsub : IntKind.i64.wrap (1 - (k : Int)) = (j : Int) := by rw [IntKind.wrap_i64]; omega
  clear h hk ho hT hok hsm hin
  go_enter Tryz.func7, Tryz.ntmps7
  go_upto_region 12 with (first
    | (go_at_call 17; refine HP.out.mono ?_; rintro e w' ⟨rfl, rfl⟩))
  clear HP n1 n2
  obtain ⟨c0', hc1, hc2, hc3, hc4, hc5⟩ := look_same H.out.pa o.x.a
  have HGA := Lib.hid (fun (V : World) (hV : Xt w1 V) => get_same (H.out.pa.xt hV) o.x.a hc1 hc3)
  have HDG := Lib.hid (fun (V : World) (hV : Xt w1 V) => get17O_any p.r p.l o.x.a V (H.out.pa.r.xt hV) H.out.pa.ok)
  rw [hc2] at HDG
  have HSC := Lib.hid hc5
  have hm1 : True := trivial
  have hm2 : True := trivial
  clear hc1 hc2 hc3 hc4 hc5 c0 c1 c2 g0 g1 g2 g3 g4 g5
  go_upto_region 15 with (first
    | (go_at_call 13; have hm0 := hm1; clear hm0 hm1; refine (HGA.out _ (Xt.refl _)).mono ?_; rintro e w2 ⟨m, a', rfl, hO, hx2⟩; have HX2 := Lib.hid hx2; have HO2 := Lib.hid hO; obtain ⟨wZ, w3, hwZ, hw3, HRZ, HRK3, HX3, hs3⟩ := boxP w2 ⟨o.x.a, c0', a', c0'.t.args.length⟩; have HX13 : Hid (Xt w1 w3) := Lib.hid (hx2.trans HX3.out); have HRB3 := Lib.hid (rowX HX13.out HR1.out); obtain ⟨⟨_, _, _, c3, c4⟩, _⟩ := opC_at HRB3.out; clear hO hx2)
    | (go_at_call 13; have hm0 := hm2; clear hm0 hm2; refine (HGA.out _ HX13.out).mono ?_; rintro e w4 ⟨m2, b', rfl, hO, hx4⟩; have HX4 := Lib.hid hx4; have HO4 := Lib.hid hO; obtain ⟨wY, w5, hwY, hw5, HRY, HRK5, HX5, hs5⟩ := boxP w4 ⟨o.x.a, c0', b', c0'.t.args.length⟩; have HX15 : Hid (Xt w1 w5) := Lib.hid (HX13.out.trans (hx4.trans HX5.out)); have HRB5 := Lib.hid (rowX HX15.out HR1.out); obtain ⟨⟨_, _, _, c3, c4⟩, _⟩ := opC_at HRB5.out; clear hO hx4)
    | (go_at_call 22; refine (HDG.out _ HX15.out).mono ?_; rintro e w6 ⟨pa, kc, m3, rfl, hO, hx6⟩; have HX6 := Lib.hid hx6; have HO6 := Lib.hid hO; obtain ⟨wX, w7, hwX, hw7, HRX, HRK7, HX7, hs7⟩ := boxP w6 ⟨o.x.a, c0', pa, kc⟩; clear hO hx6)
    | (refine wpList_store_row (P := Tryz.prog) rfl 46 _ _ rfl w2.heap.size (rowP ⟨o.x.a, c0', a', c0'.t.args.length⟩) rfl rfl 46 _ HRZ.out (by kernel_rfl) rfl (rowP_one _) ?_; clear HRZ; rw [hw3])
    | (refine wpList_store_row (P := Tryz.prog) rfl 46 _ _ rfl w4.heap.size (rowP ⟨o.x.a, c0', b', c0'.t.args.length⟩) rfl rfl 46 _ HRY.out (by kernel_rfl) rfl (rowP_one _) ?_; clear HRY; rw [hw5])
    | (refine wpList_store_row (P := Tryz.prog) rfl 46 _ _ rfl w6.heap.size (rowP ⟨o.x.a, c0', pa, kc⟩) rfl rfl 46 _ HRX.out (by kernel_rfl) rfl (rowP_one _) ?_; clear HRX; rw [hw7]))
  obtain ⟨K2, hK2⟩ : ∃ K, w2.heap.size = K := ⟨_, rfl⟩
  obtain ⟨K4, hK4⟩ : ∃ K, w4.heap.size = K := ⟨_, rfl⟩
  obtain ⟨K6, hK6⟩ : ∃ K, w6.heap.size = K := ⟨_, rfl⟩
  rw [hK2] at HRK3 hs3
  rw [hK4] at HRK5 hs5
  rw [hK6] at HRK7 hs7
  simp only [hK2, hK4, hK6]
  have HX37 : Hid (Xt w3 w7) := Lib.hid ((HX4.out.trans HX5.out).trans (HX6.out.trans HX7.out))
  have HX57 : Hid (Xt w5 w7) := Lib.hid (HX6.out.trans HX7.out)
  have HA7 := Lib.hid (rowX HX37.out HRK3.out)
  have HB7 := Lib.hid (rowX HX57.out HRK5.out)
  have hz2 := HX2.out.size
  have hz4 := HX4.out.size
  have hz6 := HX6.out.size
  have hOA : OwnIn (fun b => w1.heap.size ≤ b ∧ b < w2.heap.size) w7 m (.slice a' c0'.t.args.length c0'.t.args.length) c0'.t.args := HO2.out.rows.keep (fun b hb hl => ⟨hb.1, hl⟩) (fun b _ hl => (HX3.out.trans HX37.out).block b hl)
  have hOB : OwnIn (fun b => w3.heap.size ≤ b ∧ b < w4.heap.size) w7 m2 (.slice b' c0'.t.args.length c0'.t.args.length) c0'.t.args := HO4.out.rows.keep (fun b hb hl => ⟨hb.1, hl⟩) (fun b _ hl => (HX5.out.trans HX57.out).block b hl)
  have hOC : OwnIn (fun b => w5.heap.size ≤ b ∧ b < w6.heap.size) w7 m3 (.slice pa c0'.t.args.length kc) c0'.t.args := HO6.out.rows.keep (fun b hb hl => ⟨hb.1, hl⟩) (fun b _ hl => HX7.out.block b hl)
  have HOA := Lib.hid hOA
  have HOB := Lib.hid hOB
  have HOC := Lib.hid hOC
  have HJ := Lib.hid (just_any (m + m3) c0' c0' a' pa c0'.t.args.length kc w7 (ArgsIn.upQ (Nat.le_add_right _ _) hOA.args) (ArgsIn.upQ (Nat.le_add_left _ _) hOC.args))
  rw [show eqCB c0' c0' = true from (eqCB_iff _ _).2 rfl] at HJ
  clear hOA hOB hOC hwZ hw3 hwY hw5 hwX hw7 c3 c4 HGA HDG
  go_upto_region 16 with (first
    | (refine wpList_load_row (P := Tryz.prog) rfl 46 _ rfl K2 rfl 46 _ (0, 0) _ HA7.out Tryz.underlying46 rfl (by kernel_rfl) ?_)
    | (refine wpList_load_row (P := Tryz.prog) rfl 46 _ rfl K6 rfl 46 _ (0, 0) _ HRK7.out Tryz.underlying46 rfl (by kernel_rfl) ?_)
    | (go_at_call 19; refine HJ.out.mono ?_; rintro e w8 ⟨rfl, hg8⟩; have HX8 : Hid (Xt w7 w8) := Lib.hid hg8.xt; clear hg8 HJ))
  have HA8 := Lib.hid (rowX HX8.out HA7.out)
  have HB8 := Lib.hid (rowX HX8.out HB7.out)
  have HC8 := Lib.hid (rowX HX8.out HRK7.out)
  have HRN := Lib.hid (rowC_node HA8.out)
  have HOA8 := Lib.hid ((HOA.out.keep (fun b hb _ => hb) (fun b _ hl => HX8.out.block b hl) : OwnIn (fun b => w1.heap.size ≤ b ∧ b < w2.heap.size) w8 m _ _).rows)
  have HOV := Lib.hid (over_any m (fun b => (w1.heap.size ≤ b ∧ b < w2.heap.size) ∧ ∃ cur : Array Value, w8.heap[b]? = some (Obj.cells cur 44 (0, 0))) c0'.t a' c0'.t.args.length c0'.t.args.length w8 (fun b hb => let ⟨_, hc⟩ := hb.2; (Array.getElem?_eq_some_iff.1 hc).1) (OwnIn.ov (smallT_args HSC.out) HOA8.out))
  go_upto_region 17 with (first
    | (refine wpList_load_mid (P := Tryz.prog) rfl 44 _ rfl K2 6 rfl (nodeC c0'.t (.slice a' c0'.t.args.length c0'.t.args.length)) _ HRN.out Tryz.underlying44 rfl (by kernel_rfl) ?_; clear HRN)
    | (go_at_call 20; refine HOV.out.mono ?_; rintro e w9 ⟨rfl, hw9⟩; have HW9 := Lib.hid hw9; clear hw9 HOV))
  have HS9 : Hid (∀ b, ((w1.heap.size ≤ b ∧ b < w2.heap.size) ∧ ∃ cur : Array Value, w8.heap[b]? = some (Obj.cells cur 44 (0, 0))) → ∃ cur : Array Value, w8.heap[b]? = some (Obj.cells cur 44 (0, 0))) := Lib.hid fun b hb => hb.2
  have HB9 : Hid (w9.heap[K4]? = some (Obj.cells (rowP ⟨o.x.a, c0', b', c0'.t.args.length⟩) 46 (0, 0))) := Lib.hid (HW9.out.kept HB8.out (fun _ _ e => by cases e) HS9.out)
  have HC9 : Hid (w9.heap[K6]? = some (Obj.cells (rowP ⟨o.x.a, c0', pa, kc⟩) 46 (0, 0))) := Lib.hid (HW9.out.kept HC8.out (fun _ _ e => by cases e) HS9.out)
  have hk9 : ∀ b, w2.heap.size ≤ b → b < w7.heap.size → w9.heap[b]? = w7.heap[b]? := fun b hb hl => (HW9.out.block b (Nat.lt_of_lt_of_le hl HX8.out.size) (fun hq => by have := hq.1.2; omega)).trans (HX8.out.block b hl)
  have hz3 := HX3.out.size
  have hz5 := HX5.out.size
  have HJ2 := Lib.hid (just_any (m2 + m3) c0' c0' b' pa c0'.t.args.length kc w9 (ArgsIn.upQ (Nat.le_add_right _ _) ((HOB.out.keep (S' := fun _ => True) (fun _ _ _ => trivial) (fun b hb hl => hk9 b (by have := hb.1; omega) hl)).args)) (ArgsIn.upQ (Nat.le_add_left _ _) ((HOC.out.keep (S' := fun _ => True) (fun _ _ _ => trivial) (fun b hb hl => hk9 b (by have := hb.1; omega) hl)).args)))
  rw [show eqCB c0' c0' = true from (eqCB_iff _ _).2 rfl] at HJ2
  have hx17 : Xt w1 w7 := HX15.out.trans HX57.out
  have HX19 : Hid (Xt w1 w9) := Lib.hid (Below.trans (hx17.trans HX8.out) (HW9.out.below (by have := hx17.size; have := HX8.out.size; omega) (fun b hb => hb.1.1)))
  clear hk9 hx17
  go_wp2_with (first
    | (refine wpList_load_row (P := Tryz.prog) rfl 46 _ rfl K4 rfl 46 _ (0, 0) _ HB9.out Tryz.underlying46 rfl (by kernel_rfl) ?_)
    | (refine wpList_load_row (P := Tryz.prog) rfl 46 _ rfl K6 rfl 46 _ (0, 0) _ HC9.out Tryz.underlying46 rfl (by kernel_rfl) ?_)
    | (go_at_call 19; refine HJ2.out.mono ?_; rintro e w10 ⟨rfl, hg10⟩; have HX10 : Hid (Xt w9 w10) := Lib.hid hg10.xt; clear hg10 HJ2))
  go_ret
  exact ⟨rfl, p, q, H.out.xt (HX19.out.trans HX10.out)⟩
end
end Go.Proofs.YtideclfpbpjebaaGreatDoor
