import Derived.Test.YtagfgkcipomopaaW43
import Derived.Test.YtagfgkcipomopaaW42
namespace Go.Proofs.Ytagfgkcipomopaa
open Go.RowKit Go.Sort

/-! ### a step, kind by kind -/
theorem Xt.trans' {a b c : World} {B : Nat} (h : Xt a b) (k : Below B b c) (hB : a.heap.size ≤ B) : Xt a c := Below.trans h (Below.mono k hB)
set_option maxRecDepth 100000 in
set_option maxHeartbeats 4000000 in
theorem step_0 (pb bm px : Nat) (F : Nat → Prop) (M : Mp) (o : OpS) (v : OpV) (w : World) (h : Pr w pb bm px F M) (ho : OpIs w o v) (hout : OpOut F o v) (hk : ∀ w, Calls Try.prog 17 #[.int .i64 o.kind, .int .i64 11] w fun e w' => e = .returned (.int .i64 0) ∧ w = w') :
    Calls Try.prog 31 #[.pointer (some ⟨pb, 0, none⟩), .pointer (some ⟨px, 0, none⟩), opV o v] w (StpR w pb bm px F) := by
  have H := Lib.hid h
  have HO := Lib.hid ho
  have HOUT := Lib.hid hout
  obtain ⟨kind, on, a, ll, us, pk⟩ := o
  obtain ⟨lv, uv, pv⟩ := v
  simp only at hk
  have HK := Lib.hid hk
  have hl := ho.l
  have hlf := ho.lfew
  simp only at hl hlf
  obtain ⟨la, lc, rfl, l1, l2, _⟩ := hl
  obtain ⟨w1, hw1, hx1, hs1, c0, c1, c2, c3, c4, c5, c6⟩ := box7 w kind on a.1 a.2 (.slice la ll.length lc) uv pv 61
  obtain ⟨bo, hbo⟩ : ∃ n, w.heap.size = n := ⟨_, rfl⟩
  have HBO := Lib.hid hbo
  rw [hbo] at c0 c1 c2 c3 c4 c5 c6 hs1
  have HX1 := Lib.hid hx1
  have hbF : ¬ F bo := fun hf => by have := h.lt bo hf; omega
  have HBF := Lib.hid hbF
  have H1 : Hid (Pr w1 pb bm px F M) := h.xt hx1
  have hL1 := H1.out.lk
  have hLT1 := H1.out.lt
  have HL1 := Lib.hid hL1
  have HLT1 := Lib.hid hLT1
  have hb1 : bo < w1.heap.size := by omega
  clear h ho hout hk hx1 hbF hL1 hLT1
  simp only [opV]
  go_enter Try.func31, Try.ntmps31
  go_wp2_with fail
  clear hw1 hbo
  refine (HK.out _).mono ?_
  rintro e w0 ⟨rfl, rfl⟩
  go_wp2_with fail
  refine (set55_any pb bm px F M ⟨kind, on, a, ll, us, pk⟩ ⟨.slice la ll.length lc, uv, pv⟩ w1 H1.out (HO.out.xt HX1.out) HOUT.out).mono ?_
  rintro e w4 h4
  have H4 := Lib.hid h4
  obtain ⟨rfl, _⟩ := h4
  clear c0 c1 c2 c3 c4 c5 c6
  go_wp2_with fail
  go_ret
  exact H4.out.after HX1.out
set_option maxRecDepth 100000 in
set_option maxHeartbeats 4000000 in
theorem step_1 (pb bm px : Nat) (F : Nat → Prop) (M : Mp) (o : OpS) (v : OpV) (w : World) (h : Pr w pb bm px F M) (ho : OpIs w o v) (hout : OpOut F o v) (hk : ∀ w, Calls Try.prog 17 #[.int .i64 o.kind, .int .i64 11] w fun e w' => e = .returned (.int .i64 1) ∧ w = w') :
    Calls Try.prog 31 #[.pointer (some ⟨pb, 0, none⟩), .pointer (some ⟨px, 0, none⟩), opV o v] w (StpR w pb bm px F) := by
  have H := Lib.hid h
  have HO := Lib.hid ho
  have HOUT := Lib.hid hout
  obtain ⟨kind, on, a, ll, us, pk⟩ := o
  obtain ⟨lv, uv, pv⟩ := v
  simp only at hk
  have HK := Lib.hid hk
  have hl := ho.l
  have hlf := ho.lfew
  simp only at hl hlf
  obtain ⟨la, lc, rfl, l1, l2, _⟩ := hl
  obtain ⟨w1, hw1, hx1, hs1, c0, c1, c2, c3, c4, c5, c6⟩ := box7 w kind on a.1 a.2 (.slice la ll.length lc) uv pv 61
  obtain ⟨bo, hbo⟩ : ∃ n, w.heap.size = n := ⟨_, rfl⟩
  have HBO := Lib.hid hbo
  rw [hbo] at c0 c1 c2 c3 c4 c5 c6 hs1
  have HX1 := Lib.hid hx1
  have hbF : ¬ F bo := fun hf => by have := h.lt bo hf; omega
  have HBF := Lib.hid hbF
  have H1 : Hid (Pr w1 pb bm px F M) := h.xt hx1
  have hL1 := H1.out.lk
  have hLT1 := H1.out.lt
  have HL1 := Lib.hid hL1
  have HLT1 := Lib.hid hLT1
  have hb1 : bo < w1.heap.size := by omega
  clear h ho hout hk hx1 hbF hL1 hLT1
  simp only [opV]
  go_enter Try.func31, Try.ntmps31
  go_wp2_with fail
  clear hw1 hbo
  refine (HK.out _).mono ?_
  rintro e w0 ⟨rfl, rfl⟩
  obtain ⟨F1, F2, hL, hR, hF1, hF2⟩ := H1.out.two
  have HF1 := Lib.hid hF1
  have HF2 := Lib.hid hF2
  have HL := Lib.hid hL
  have HR := Lib.hid hR
  clear hL hR hF1 hF2
  go_wp2_with fail
  refine (drop_any pb bm F1 M a w1 HL.out (fun b hb => HLT1.out b (HF1.out b hb).1)).mono ?_
  rintro e w4 h4
  have H4 := Lib.hid h4
  obtain ⟨rfl, _, hg4⟩ := h4
  have hbb : bo ≠ bm := fun e => HBF.out (by rw [e]; exact (HF1.out bm HL.out.inM).1)
  have c24 := (cell_grown hg4 hb1 hbb).trans c2
  have c34 := (cell_grown hg4 hb1 hbb).trans c3
  have hR4 : Ref w4 px F2 M := ref_grown HR.out (fun b hb => HLT1.out b (HF2.out b hb)) HL.out.inM (fun b hb => (HF1.out b hb).2) hg4
  have hs4 := hg4.size
  have hdr := rdrop25_any px F2 M a w4 hR4 (fun b hb => by have := HLT1.out b (HF2.out b hb); omega)
  have HDR := Lib.hid hdr
  clear c0 c1 c2 c3 c4 c5 c6 hg4 hR4 hdr
  go_wp2_with fail
  refine (HDR.out).mono ?_
  rintro e w5 h5
  have H5 := Lib.hid h5
  obtain ⟨rfl, _, _⟩ := h5
  have hp := pair_drop HF1.out HF2.out HLT1.out HL.out H1.out.vm H4.out H5.out
  have HP := Lib.hid hp
  clear c24 c34 hp
  generalize (lkM a M).isSome = lb
  cases lb
  all_goals
    go_wp2_with fail
    go_ret
    exact StpR.after HX1.out ⟨rfl, _, _, HP.out.1, fun b hb => hb, HP.out.2⟩
set_option maxRecDepth 100000 in
set_option maxHeartbeats 4000000 in
theorem step_2 (pb bm px : Nat) (F : Nat → Prop) (M : Mp) (o : OpS) (v : OpV) (w : World) (h : Pr w pb bm px F M) (ho : OpIs w o v) (hout : OpOut F o v) (hk : ∀ w, Calls Try.prog 17 #[.int .i64 o.kind, .int .i64 11] w fun e w' => e = .returned (.int .i64 2) ∧ w = w') :
    Calls Try.prog 31 #[.pointer (some ⟨pb, 0, none⟩), .pointer (some ⟨px, 0, none⟩), opV o v] w (StpR w pb bm px F) := by
  have H := Lib.hid h
  have HO := Lib.hid ho
  have HOUT := Lib.hid hout
  obtain ⟨kind, on, a, ll, us, pk⟩ := o
  obtain ⟨lv, uv, pv⟩ := v
  simp only at hk
  have HK := Lib.hid hk
  have hl := ho.l
  have hlf := ho.lfew
  simp only at hl hlf
  obtain ⟨la, lc, rfl, l1, l2, _⟩ := hl
  obtain ⟨w1, hw1, hx1, hs1, c0, c1, c2, c3, c4, c5, c6⟩ := box7 w kind on a.1 a.2 (.slice la ll.length lc) uv pv 61
  obtain ⟨bo, hbo⟩ : ∃ n, w.heap.size = n := ⟨_, rfl⟩
  have HBO := Lib.hid hbo
  rw [hbo] at c0 c1 c2 c3 c4 c5 c6 hs1
  have HX1 := Lib.hid hx1
  have hbF : ¬ F bo := fun hf => by have := h.lt bo hf; omega
  have HBF := Lib.hid hbF
  have H1 : Hid (Pr w1 pb bm px F M) := h.xt hx1
  have hL1 := H1.out.lk
  have hLT1 := H1.out.lt
  have HL1 := Lib.hid hL1
  have HLT1 := Lib.hid hLT1
  have hb1 : bo < w1.heap.size := by omega
  clear h ho hout hk hx1 hbF hL1 hLT1
  simp only [opV]
  go_enter Try.func31, Try.ntmps31
  go_wp2_with fail
  clear hw1 hbo
  refine (HK.out _).mono ?_
  rintro e w0 ⟨rfl, rfl⟩
  obtain ⟨av, cv, hpx, hRU, hm⟩ := H1.out.ref
  have HRU := Lib.hid hRU
  have HPX := Lib.hid hpx
  have hs := H1.out.sorted
  have HS := Lib.hid hs
  have hfew := HL1.out.fewAt a
  clear hRU hpx hs
  go_wp2_with fail
  refine (uses_any pb bm F M a w1 HL1.out HLT1.out).mono ?_
  rintro e w2 ⟨v8, rfl, hown2, hx2⟩
  have HX2 := Lib.hid hx2
  have HO2 := Lib.hid hown2
  have c22 := ((hx2.cells).1 bo 2 hb1).trans c2
  have c32 := ((hx2.cells).1 bo 3 hb1).trans c3
  have hu := ruses56_any px _ M a w2 (((hx2.cells).1 px 0 (World.block_lt_of_cell? w1 _ HPX.out)).trans HPX.out) (HRU.out.xt hx2) HS.out hm
  have HU := Lib.hid hu
  clear c0 c1 c2 c3 c4 c5 c6 hx2 hown2 hu
  go_wp2_with fail
  refine (HU.out).mono ?_
  rintro e w3 ⟨u, rfl, hsl, hg3⟩
  have HX3 : Hid (Xt w2 w3) := hg3.xt
  have HSL : Hid (SlOf w3 arC 4 u ((lkM a M).getD [])) := hsl.xt hg3.xt
  have HO3 : Hid (OwnL w3 w1.heap.size 41 4 arC v8 ((lkM a M).getD [])) := HO2.out.xt hg3.xt
  generalize (lkM a M).getD [] = L at HO3 HSL hfew
  obtain ⟨a8, c8, rfl, _, _, _⟩ := HO3.out.sl arC_len
  clear hsl hg3 HO2 HU c22 c32
  go_wp2_with fail
  refine (areas34_any _ _ L L w3 (HO3.out.sl arC_len) HSL.out).mono ?_
  rintro e w4 ⟨rfl, hg4⟩
  rw [decide_eq_true (rfl : L = L)]
  have HX4 : Hid (Xt w w4) := ((HX1.out.trans HX2.out).trans HX3.out).trans hg4.xt
  have HO4 : Hid (OwnL w4 w1.heap.size 41 4 arC (.slice a8 L.length c8) L) := HO3.out.xt hg4.xt
  have hB4 : w1.heap.size ≤ w4.heap.size := ((HX2.out.trans HX3.out).trans hg4.xt).sz
  clear hg4 HSL
  obtain ⟨B, hB⟩ : ∃ B, w1.heap.size = B := ⟨_, rfl⟩
  rw [hB] at HO4 hB4
  have HB : Hid (w.heap.size ≤ B) := by have := HX1.out.sz; show _ ≤ _; omega
  clear hB hs1
  go_wp2_with fail
  go_loopw [10] (fun s10 wr => ∃ i : Nat, i ≤ L.length ∧ s10 = .int .i64 i ∧ Hid (∃ d : List Ar, d.length = L.length ∧ OwnL wr B 41 4 arC (.slice a8 L.length c8) d) ∧ Hid (Below B w4 wr)) (fun s10 _ => L.length - (intOf s10).toNat)
  case atStart => exact ⟨0, Nat.zero_le _, rfl, ⟨L, rfl, HO4.out⟩, Below.refl _ _⟩
  case round =>
    obtain ⟨i, hi', rfl, HOi, HXi⟩ := hrel
    by_cases hlt : i < L.length
    · obtain ⟨d, hdl, hown⟩ := HOi.out
      obtain ⟨g, cg, hvg, hgb, hgc, hrow⟩ := RowL.of_own hown arC_len (by intro e; subst e; simp at hdl; omega)
      rw [hdl] at hvg
      cases hvg
      obtain ⟨z, hz⟩ : ∃ z, d[i]? = some z := ⟨d[i]'(by omega), by simp⟩
      obtain ⟨z0, z1, z2, z3⟩ := ar_cells (hrow.cell hz)
      have f0 := hrow.froz (i * 4)
      have f1 := hrow.froz (i * 4 + 1)
      have f2 := hrow.froz (i * 4 + 2)
      have f3 := hrow.froz (i * 4 + 3)
      have hki : (i : Int) < (L.length : Int) := by omega
      have HROW := Lib.hid hrow
      have HDL := Lib.hid hdl
      clear hown hrow hz hdl
      go_wp2_with fail
      go_roundw
      case rel =>
        have hs := HROW.out.set arC_len (j := i) (by rw [HDL.out]; exact hlt) ((0, 0), (0, 0))
        have hs2 := hs.own arC_len hgc hgb d.length (by simp)
        rw [List.take_of_length_le (by simp), HDL.out] at hs2
        refine ⟨i + 1, by omega, by go_num, ⟨_, by rw [List.length_set]; exact HDL.out, hs2⟩, ?_⟩
        exact Below.grown HXi.out (setCells_grown g (arC ((0, 0), (0, 0))) (i * 4) wr) (by have := HXi.out.size; omega) (fun q hq => by cases hq; exact hgb)
      case measure => simp [intOf]; omega
    · go_wp2_with fail
      go_ret
      exact StpR.still H.out (HX4.out.trans' HXi.out HB.out)
set_option maxRecDepth 100000 in
set_option maxHeartbeats 4000000 in
theorem step_3 (pb bm px : Nat) (F : Nat → Prop) (M : Mp) (o : OpS) (v : OpV) (w : World) (h : Pr w pb bm px F M) (ho : OpIs w o v) (hout : OpOut F o v) (hk : ∀ w, Calls Try.prog 17 #[.int .i64 o.kind, .int .i64 11] w fun e w' => e = .returned (.int .i64 3) ∧ w = w') :
    Calls Try.prog 31 #[.pointer (some ⟨pb, 0, none⟩), .pointer (some ⟨px, 0, none⟩), opV o v] w (StpR w pb bm px F) := by
  have H := Lib.hid h
  have HO := Lib.hid ho
  have HOUT := Lib.hid hout
  obtain ⟨kind, on, a, ll, us, pk⟩ := o
  obtain ⟨lv, uv, pv⟩ := v
  simp only at hk
  have HK := Lib.hid hk
  have hl := ho.l
  have hlf := ho.lfew
  simp only at hl hlf
  obtain ⟨la, lc, rfl, l1, l2, _⟩ := hl
  obtain ⟨w1, hw1, hx1, hs1, c0, c1, c2, c3, c4, c5, c6⟩ := box7 w kind on a.1 a.2 (.slice la ll.length lc) uv pv 61
  obtain ⟨bo, hbo⟩ : ∃ n, w.heap.size = n := ⟨_, rfl⟩
  have HBO := Lib.hid hbo
  rw [hbo] at c0 c1 c2 c3 c4 c5 c6 hs1
  have HX1 := Lib.hid hx1
  have hbF : ¬ F bo := fun hf => by have := h.lt bo hf; omega
  have HBF := Lib.hid hbF
  have H1 : Hid (Pr w1 pb bm px F M) := h.xt hx1
  have hL1 := H1.out.lk
  have hLT1 := H1.out.lt
  have HL1 := Lib.hid hL1
  have HLT1 := Lib.hid hLT1
  have hb1 : bo < w1.heap.size := by omega
  clear h ho hout hk hx1 hbF hL1 hLT1
  simp only [opV]
  go_enter Try.func31, Try.ntmps31
  go_wp2_with fail
  clear hw1 hbo
  refine (HK.out _).mono ?_
  rintro e w0 ⟨rfl, rfl⟩
  obtain ⟨av, cv, hpx, hRU, hm⟩ := H1.out.ref
  have HRU := Lib.hid hRU
  have HPX := Lib.hid hpx
  have hs := H1.out.sorted
  have HS := Lib.hid hs
  clear hRU hpx hs
  go_wp2_with fail
  refine (users_any pb bm F M a w1 HL1.out HLT1.out).mono ?_
  rintro e w2 ⟨v8, rfl, hown2, hx2⟩
  have HX2 := Lib.hid hx2
  have HO2 := Lib.hid hown2
  have c22 := ((hx2.cells).1 bo 2 hb1).trans c2
  have c32 := ((hx2.cells).1 bo 3 hb1).trans c3
  have hu := rusers57_any px _ M a w2 (((hx2.cells).1 px 0 (World.block_lt_of_cell? w1 _ HPX.out)).trans HPX.out) (HRU.out.xt hx2) HS.out H1.out.vm hm
  have HU := Lib.hid hu
  have hfew : ((M.map (·.1)).filter fun b => onM M b a).length ≤ 4096 := Nat.le_trans (List.length_filter_le ..) (by simpa using hm)
  clear c0 c1 c2 c3 c4 c5 c6 hx2 hown2 hu
  go_wp2_with fail
  refine (HU.out).mono ?_
  rintro e w3 ⟨u, rfl, hown3, hx3⟩
  have HX3 : Hid (Xt w2 w3) := hx3
  have HSL := Lib.hid (hown3.sl adC_len)
  have HO3 : Hid (OwnL w3 w1.heap.size 34 2 adC v8 ((M.map (·.1)).filter fun b => onM M b a)) := HO2.out.xt hx3
  generalize ((M.map (·.1)).filter fun b => onM M b a) = L at HO3 HSL hfew
  clear hown3 hx3 HO2 HU c22 c32
  go_wp2_with fail
  refine (addrs_any _ _ L L w3 (HO3.out.sl adC_len) HSL.out).mono ?_
  rintro e w4 ⟨rfl, hg4⟩
  rw [decide_eq_true (rfl : L = L)]
  have HX4 : Hid (Xt w w4) := ((HX1.out.trans HX2.out).trans HX3.out).trans hg4.xt
  have HO4 : Hid (OwnL w4 w1.heap.size 34 2 adC v8 L) := HO3.out.xt hg4.xt
  have hB4 : w1.heap.size ≤ w4.heap.size := ((HX2.out.trans HX3.out).trans hg4.xt).sz
  clear hg4 HSL
  go_wp2_with fail
  refine (spoil58_any w1.heap.size v8 L w4 HO4.out hB4 (by omega)).mono ?_
  rintro e w5 ⟨rfl, hb5⟩
  have HX5 : Hid (Xt w w5) := HX4.out.trans' hb5 HX1.out.sz
  clear hb5
  go_wp2_with fail
  go_ret
  exact StpR.still H.out HX5.out
set_option maxRecDepth 100000 in
set_option maxHeartbeats 4000000 in
theorem step_4 (pb bm px : Nat) (F : Nat → Prop) (M : Mp) (o : OpS) (v : OpV) (w : World) (h : Pr w pb bm px F M) (ho : OpIs w o v) (hout : OpOut F o v) (hk : ∀ w, Calls Try.prog 17 #[.int .i64 o.kind, .int .i64 11] w fun e w' => e = .returned (.int .i64 4) ∧ w = w') :
    Calls Try.prog 31 #[.pointer (some ⟨pb, 0, none⟩), .pointer (some ⟨px, 0, none⟩), opV o v] w (StpR w pb bm px F) := by
  have H := Lib.hid h
  have HO := Lib.hid ho
  have HOUT := Lib.hid hout
  obtain ⟨kind, on, a, ll, us, pk⟩ := o
  obtain ⟨lv, uv, pv⟩ := v
  simp only at hk
  have HK := Lib.hid hk
  have hl := ho.l
  have hlf := ho.lfew
  simp only at hl hlf
  obtain ⟨la, lc, rfl, l1, l2, _⟩ := hl
  obtain ⟨w1, hw1, hx1, hs1, c0, c1, c2, c3, c4, c5, c6⟩ := box7 w kind on a.1 a.2 (.slice la ll.length lc) uv pv 61
  obtain ⟨bo, hbo⟩ : ∃ n, w.heap.size = n := ⟨_, rfl⟩
  have HBO := Lib.hid hbo
  rw [hbo] at c0 c1 c2 c3 c4 c5 c6 hs1
  have HX1 := Lib.hid hx1
  have hbF : ¬ F bo := fun hf => by have := h.lt bo hf; omega
  have HBF := Lib.hid hbF
  have H1 : Hid (Pr w1 pb bm px F M) := h.xt hx1
  have hL1 := H1.out.lk
  have hLT1 := H1.out.lt
  have HL1 := Lib.hid hL1
  have HLT1 := Lib.hid hLT1
  have hb1 : bo < w1.heap.size := by omega
  clear h ho hout hk hx1 hbF hL1 hLT1
  simp only [opV]
  go_enter Try.func31, Try.ntmps31
  go_wp2_with fail
  clear hw1 hbo
  refine (HK.out _).mono ?_
  rintro e w0 ⟨rfl, rfl⟩
  obtain ⟨av, cv, hpx, hRU, hm⟩ := H1.out.ref
  have HRU := Lib.hid hRU
  have HPX := Lib.hid hpx
  have hs := H1.out.sorted
  have HS := Lib.hid hs
  have HLV : Hid (SlOf w1 adC 2 (.slice la ll.length lc) ll) := HO.out.l.xt HX1.out
  clear hRU hpx hs
  go_wp2_with fail
  refine (lent59_any _ ll w1 HLV.out hlf).mono ?_
  rintro e w2 ⟨v13, rfl, hown2, hx2⟩
  have HX2 := Lib.hid hx2
  obtain ⟨a3, c3', hv13, _, _, _⟩ := hown2.sl adC_len
  rw [List.length_append, List.length_singleton] at hv13
  subst hv13
  have HS13 := Lib.hid (hown2.sl adC_len)
  obtain ⟨a4, hto, hsl⟩ := to_any (S := 23) Try.underlying23 rfl (fun w => by kernel_rfl) HS13.out ll.length (by simp)
  rw [List.take_left] at hsl
  have HTO := Lib.hid hsl
  have c42 := ((hx2.cells).1 bo 4 hb1).trans c4
  have hab := above29_any pb bm F M (.slice a4 ll.length c3') ll w2 (HL1.out.xt HLT1.out hx2) (fun b hb => by have := HLT1.out b hb; have := hx2.sz; omega) hsl
  have HAB := Lib.hid hab
  have hs2 := hx2.sz
  clear c0 c1 c2 c3 c4 c5 c6 hx2 hown2 hsl hab
  go_wp2_with fail
  refine (HAB.out).mono ?_
  rintro e w3 ⟨v14, rfl, hown3, hx3⟩
  have HX3 := Lib.hid hx3
  have HO3 := Lib.hid hown3
  have hs3 := hx3.sz
  have c43 := ((hx3.cells).1 bo 4 (by omega)).trans c42
  have hxA : Xt w1 w3 := HX2.out.trans hx3
  have hra := rabove60_any px _ (.slice la ll.length lc) M ll w3 (((hxA.cells).1 px 0 (World.block_lt_of_cell? w1 _ HPX.out)).trans HPX.out) (HRU.out.xt hxA) HS.out H1.out.vm hm (HLV.out.xt hxA) hlf
  have HRA := Lib.hid hra
  clear c42 hx3 hown3 hto hxA hra
  go_wp2_with fail
  refine (HRA.out).mono ?_
  rintro e w4 ⟨u, rfl, hown4, hx4⟩
  have HX4 := Lib.hid hx4
  have HSL := Lib.hid (hown4.sl adC_len)
  have HO4 : Hid (OwnL w4 w2.heap.size 34 2 adC v14 (aboveM M ll)) := HO3.out.xt hx4
  have hs4 := hx4.sz
  have c44 := ((hx4.cells).1 bo 4 (by omega)).trans c43
  have hfew : (aboveM M ll).length ≤ 4096 := Nat.le_trans (above_few M ll) hm
  generalize aboveM M ll = L at HO4 HSL hfew
  clear hown4 hx4 c43 HO3
  go_wp2_with fail
  refine (addrs_any _ _ L L w4 (HO4.out.sl adC_len) HSL.out).mono ?_
  rintro e w5 ⟨rfl, hg5⟩
  rw [decide_eq_true (rfl : L = L)]
  have HX5 := Lib.hid hg5.xt
  have hs5 := hg5.xt.sz
  have c45 := ((hg5.xt.cells).1 bo 4 (by omega)).trans c44
  have HX25 : Hid (Xt w2 w5) := (HX3.out.trans HX4.out).trans hg5.xt
  have HO5 : Hid (OwnL w5 w2.heap.size 34 2 adC v14 L) := HO4.out.xt hg5.xt
  clear hg5 c44 HSL
  go_wp2_with fail
  refine (back61_any _ _ ll w5 (HS13.out.xt HX25.out) (HLV.out.xt (HX2.out.trans HX25.out))).mono ?_
  rintro e w6 ⟨rfl, hg6⟩
  have HX6 : Hid (Xt w2 w6) := HX25.out.trans hg6.xt
  have HO6 : Hid (OwnL w6 w2.heap.size 34 2 adC v14 L) := HO5.out.xt hg6.xt
  have hs6 := hg6.xt.sz
  clear hg6 c45
  go_wp2_with fail
  refine (spoil58_any w2.heap.size v14 L w6 HO6.out (by omega) (by omega)).mono ?_
  rintro e w7 ⟨rfl, hb7⟩
  have HX7 : Hid (Xt w w7) := ((HX1.out.trans HX2.out).trans HX6.out).trans' hb7 (HX1.out.trans HX2.out).sz
  clear hb7
  go_wp2_with fail
  go_ret
  exact StpR.still H.out HX7.out
set_option maxRecDepth 100000 in
set_option maxHeartbeats 4000000 in
theorem step_5 (pb bm px : Nat) (F : Nat → Prop) (M : Mp) (o : OpS) (v : OpV) (w : World) (h : Pr w pb bm px F M) (ho : OpIs w o v) (hout : OpOut F o v) (hk : ∀ w, Calls Try.prog 17 #[.int .i64 o.kind, .int .i64 11] w fun e w' => e = .returned (.int .i64 5) ∧ w = w') :
    Calls Try.prog 31 #[.pointer (some ⟨pb, 0, none⟩), .pointer (some ⟨px, 0, none⟩), opV o v] w (StpR w pb bm px F) := by
  have H := Lib.hid h
  have HO := Lib.hid ho
  have HOUT := Lib.hid hout
  obtain ⟨kind, on, a, ll, us, pk⟩ := o
  obtain ⟨lv, uv, pv⟩ := v
  simp only at hk
  have HK := Lib.hid hk
  have hl := ho.l
  have hlf := ho.lfew
  simp only at hl hlf
  obtain ⟨la, lc, rfl, l1, l2, _⟩ := hl
  obtain ⟨w1, hw1, hx1, hs1, c0, c1, c2, c3, c4, c5, c6⟩ := box7 w kind on a.1 a.2 (.slice la ll.length lc) uv pv 61
  obtain ⟨bo, hbo⟩ : ∃ n, w.heap.size = n := ⟨_, rfl⟩
  have HBO := Lib.hid hbo
  rw [hbo] at c0 c1 c2 c3 c4 c5 c6 hs1
  have HX1 := Lib.hid hx1
  have hbF : ¬ F bo := fun hf => by have := h.lt bo hf; omega
  have HBF := Lib.hid hbF
  have H1 : Hid (Pr w1 pb bm px F M) := h.xt hx1
  have hL1 := H1.out.lk
  have hLT1 := H1.out.lt
  have HL1 := Lib.hid hL1
  have HLT1 := Lib.hid hLT1
  have hb1 : bo < w1.heap.size := by omega
  clear h ho hout hk hx1 hbF hL1 hLT1
  simp only [opV]
  go_enter Try.func31, Try.ntmps31
  go_wp2_with fail
  clear hw1 hbo
  refine (HK.out _).mono ?_
  rintro e w0 ⟨rfl, rfl⟩
  obtain ⟨av, cv, hpx, hRU, hm⟩ := H1.out.ref
  have HRU := Lib.hid hRU
  have HPX := Lib.hid hpx
  have hs := H1.out.sorted
  have HS := Lib.hid hs
  clear hRU hpx hs
  go_wp2_with fail
  refine (circle22_any pb bm F M w1 HL1.out HLT1.out).mono ?_
  rintro e w2 ⟨v8, rfl, hown2, hx2⟩
  have HX2 := Lib.hid hx2
  have HO2 := Lib.hid hown2
  have hu := rcircle23_any px _ M w2 (((hx2.cells).1 px 0 (World.block_lt_of_cell? w1 _ HPX.out)).trans HPX.out) (HRU.out.xt hx2) HS.out H1.out.vm hm
  have HU := Lib.hid hu
  have hfew : (circleM M).1.length ≤ 4096 := Nat.le_trans (circ_few M) hm
  clear c0 c1 c2 c3 c4 c5 c6 hx2 hown2 hu
  go_wp2_with fail
  refine (HU.out).mono ?_
  rintro e w3 ⟨u, rfl, hown3, hx3⟩
  have HX3 : Hid (Xt w2 w3) := hx3
  have HSL := Lib.hid (hown3.sl adC_len)
  have HO3 : Hid (OwnL w3 w1.heap.size 34 2 adC v8 (circleM M).1) := HO2.out.xt hx3
  clear hown3 hx3 HO2 HU
  generalize (circleM M).1 = L at HO3 HSL hfew
  generalize (circleM M).2 = bb
  go_wp2_with fail
  refine (addrs_any _ _ L L w3 (HO3.out.sl adC_len) HSL.out).mono ?_
  rintro e w4 ⟨rfl, hg4⟩
  rw [decide_eq_true (rfl : L = L)]
  have HX4 : Hid (Xt w w4) := ((HX1.out.trans HX2.out).trans HX3.out).trans hg4.xt
  have HO4 : Hid (OwnL w4 w1.heap.size 34 2 adC v8 L) := HO3.out.xt hg4.xt
  have hB4 : w1.heap.size ≤ w4.heap.size := ((HX2.out.trans HX3.out).trans hg4.xt).sz
  clear hg4 HSL
  go_wp2_with fail
  refine (spoil58_any w1.heap.size v8 L w4 HO4.out hB4 (by omega)).mono ?_
  rintro e w5 ⟨rfl, hb5⟩
  have HX5 : Hid (Xt w w5) := HX4.out.trans' hb5 HX1.out.sz
  clear hb5
  cases bb
  all_goals
    go_wp2_with fail
    go_ret
    exact StpR.still H.out HX5.out
set_option maxRecDepth 100000 in
set_option maxHeartbeats 4000000 in
theorem step_6 (pb bm px : Nat) (F : Nat → Prop) (M : Mp) (o : OpS) (v : OpV) (w : World) (h : Pr w pb bm px F M) (ho : OpIs w o v) (hout : OpOut F o v) (hk : ∀ w, Calls Try.prog 17 #[.int .i64 o.kind, .int .i64 11] w fun e w' => e = .returned (.int .i64 6) ∧ w = w') :
    Calls Try.prog 31 #[.pointer (some ⟨pb, 0, none⟩), .pointer (some ⟨px, 0, none⟩), opV o v] w (StpR w pb bm px F) := by
  have H := Lib.hid h
  have HO := Lib.hid ho
  have HOUT := Lib.hid hout
  obtain ⟨kind, on, a, ll, us, pk⟩ := o
  obtain ⟨lv, uv, pv⟩ := v
  simp only at hk
  have HK := Lib.hid hk
  have hl := ho.l
  have hlf := ho.lfew
  simp only at hl hlf
  obtain ⟨la, lc, rfl, l1, l2, _⟩ := hl
  obtain ⟨w1, hw1, hx1, hs1, c0, c1, c2, c3, c4, c5, c6⟩ := box7 w kind on a.1 a.2 (.slice la ll.length lc) uv pv 61
  obtain ⟨bo, hbo⟩ : ∃ n, w.heap.size = n := ⟨_, rfl⟩
  have HBO := Lib.hid hbo
  rw [hbo] at c0 c1 c2 c3 c4 c5 c6 hs1
  have HX1 := Lib.hid hx1
  have hbF : ¬ F bo := fun hf => by have := h.lt bo hf; omega
  have HBF := Lib.hid hbF
  have H1 : Hid (Pr w1 pb bm px F M) := h.xt hx1
  have hL1 := H1.out.lk
  have hLT1 := H1.out.lt
  have HL1 := Lib.hid hL1
  have HLT1 := Lib.hid hLT1
  have hb1 : bo < w1.heap.size := by omega
  clear h ho hout hk hx1 hbF hL1 hLT1
  simp only [opV]
  go_enter Try.func31, Try.ntmps31
  go_wp2_with fail
  clear hw1 hbo
  refine (HK.out _).mono ?_
  rintro e w0 ⟨rfl, rfl⟩
  obtain ⟨av, cv, hpx, hRU, hm⟩ := H1.out.ref
  have HRU := Lib.hid hRU
  have HPX := Lib.hid hpx
  have hs := H1.out.sorted
  have HS := Lib.hid hs
  have HLV : Hid (SlOf w1 adC 2 (.slice la ll.length lc) ll) := HO.out.l.xt HX1.out
  have HPV : Hid (SlOf w1 inC 1 pv pk) := HO.out.picks.xt HX1.out
  obtain ⟨pa, pc, rfl, _, _, _⟩ := HPV.out
  have HPV : Hid (SlOf w1 inC 1 (.slice none 0 0) []) := SlOf.nil _ _ _ _ _ (by omega)
  clear hRU hpx hs
  go_wp2_with fail
  refine (lent59_any _ ll w1 HLV.out hlf).mono ?_
  rintro e w2 ⟨v13, rfl, hown2, hx2⟩
  have HX2 := Lib.hid hx2
  obtain ⟨a3, c3', hv13, _, _, _⟩ := hown2.sl adC_len
  rw [List.length_append, List.length_singleton] at hv13
  subst hv13
  have HS13 := Lib.hid (hown2.sl adC_len)
  obtain ⟨a4, hto, hsl⟩ := to_any (S := 23) Try.underlying23 rfl (fun w => by kernel_rfl) HS13.out ll.length (by simp)
  rw [List.take_left] at hsl
  have c02 := ((hx2.cells).1 bo 0 hb1).trans c0
  have c42 := ((hx2.cells).1 bo 4 hb1).trans c4
  have c62 := ((hx2.cells).1 bo 6 hb1).trans c6
  have hs2 := hx2.sz
  have hab := order12_any pb bm F M (.slice a4 ll.length c3') ll w2 (HL1.out.xt HLT1.out hx2) (fun b hb => by have := HLT1.out b hb; omega) hsl (by omega)
  have HAB := Lib.hid hab
  clear c0 c1 c2 c3 c4 c5 c6 hx2 hown2 hsl hab
  go_wp2_with fail
  refine (HK.out _).mono ?_
  rintro e w0 ⟨rfl, rfl⟩
  go_wp2_with fail
  refine (HAB.out).mono ?_
  rintro e w3 ⟨v14, rfl, hown3, hx3⟩
  have HX3 := Lib.hid hx3
  have HO3 : Hid (OwnL w3 w2.heap.size 34 2 adC v14 (readyS M ll []).2) := hown3
  have hs3 := hx3.sz
  have c43 := ((hx3.cells).1 bo 4 (by omega)).trans c42
  have hxA : Xt w1 w3 := HX2.out.trans hx3
  have hra := rready62_any px _ (.slice la ll.length lc) (.slice none 0 0) M ll [] w3 (((hxA.cells).1 px 0 (World.block_lt_of_cell? w1 _ HPX.out)).trans HPX.out) (HRU.out.xt hxA) HS.out H1.out.vm hm (HLV.out.xt hxA) (HPV.out.xt hxA)
  have HRA := Lib.hid hra
  have hfew := readyS_few M ll []
  clear c42 c02 c62 hx3 hown3 hto hxA hra
  go_wp2_with fail
  refine (HRA.out).mono ?_
  rintro e w4 ⟨u, rfl, hown4, hx4⟩
  have HX4 := Lib.hid hx4
  have HSL := Lib.hid (hown4.sl adC_len)
  have HO4 : Hid (OwnL w4 w2.heap.size 34 2 adC v14 (readyS M ll []).2) := HO3.out.xt hx4
  have hs4 := hx4.sz
  have c44 := ((hx4.cells).1 bo 4 (by omega)).trans c43
  clear hown4 hx4 c43 HO3 HAB HRA
  generalize (readyS M ll []).2 = L at HO4 HSL hfew
  generalize (readyS M ll []).1 = er
  go_wp2_with fail
  refine (addrs_any _ _ L L w4 (HO4.out.sl adC_len) HSL.out).mono ?_
  rintro e w5 ⟨rfl, hg5⟩
  rw [decide_eq_true (rfl : L = L)]
  have HX5 := Lib.hid hg5.xt
  have hs5 := hg5.xt.sz
  have c45 := ((hg5.xt.cells).1 bo 4 (by omega)).trans c44
  have HX25 : Hid (Xt w2 w5) := (HX3.out.trans HX4.out).trans hg5.xt
  have HO5 : Hid (OwnL w5 w2.heap.size 34 2 adC v14 L) := HO4.out.xt hg5.xt
  clear hg5 c44 HSL
  go_wp2_with fail
  refine (back61_any _ _ ll w5 (HS13.out.xt HX25.out) (HLV.out.xt (HX2.out.trans HX25.out))).mono ?_
  rintro e w6 ⟨rfl, hg6⟩
  have HX6 : Hid (Xt w2 w6) := HX25.out.trans hg6.xt
  have HO6 : Hid (OwnL w6 w2.heap.size 34 2 adC v14 L) := HO5.out.xt hg6.xt
  have hs6 := hg6.xt.sz
  clear hg6 c45
  go_wp2_with fail
  refine (spoil58_any w2.heap.size v14 L w6 HO6.out (by omega) (by omega)).mono ?_
  rintro e w7 ⟨rfl, hb7⟩
  have HX7 : Hid (Xt w w7) := ((HX1.out.trans HX2.out).trans HX6.out).trans' hb7 (HX1.out.trans HX2.out).sz
  clear hb7
  go_wp2_with fail
  go_ret
  exact StpR.still H.out HX7.out
set_option maxRecDepth 100000 in
set_option maxHeartbeats 4000000 in
theorem step_7 (pb bm px : Nat) (F : Nat → Prop) (M : Mp) (o : OpS) (v : OpV) (w : World) (h : Pr w pb bm px F M) (ho : OpIs w o v) (hout : OpOut F o v) (hk : ∀ w, Calls Try.prog 17 #[.int .i64 o.kind, .int .i64 11] w fun e w' => e = .returned (.int .i64 7) ∧ w = w') :
    Calls Try.prog 31 #[.pointer (some ⟨pb, 0, none⟩), .pointer (some ⟨px, 0, none⟩), opV o v] w (StpR w pb bm px F) := by
  have H := Lib.hid h
  have HO := Lib.hid ho
  have HOUT := Lib.hid hout
  obtain ⟨kind, on, a, ll, us, pk⟩ := o
  obtain ⟨lv, uv, pv⟩ := v
  simp only at hk
  have HK := Lib.hid hk
  have hl := ho.l
  have hlf := ho.lfew
  simp only at hl hlf
  obtain ⟨la, lc, rfl, l1, l2, _⟩ := hl
  obtain ⟨w1, hw1, hx1, hs1, c0, c1, c2, c3, c4, c5, c6⟩ := box7 w kind on a.1 a.2 (.slice la ll.length lc) uv pv 61
  obtain ⟨bo, hbo⟩ : ∃ n, w.heap.size = n := ⟨_, rfl⟩
  have HBO := Lib.hid hbo
  rw [hbo] at c0 c1 c2 c3 c4 c5 c6 hs1
  have HX1 := Lib.hid hx1
  have hbF : ¬ F bo := fun hf => by have := h.lt bo hf; omega
  have HBF := Lib.hid hbF
  have H1 : Hid (Pr w1 pb bm px F M) := h.xt hx1
  have hL1 := H1.out.lk
  have hLT1 := H1.out.lt
  have HL1 := Lib.hid hL1
  have HLT1 := Lib.hid hLT1
  have hb1 : bo < w1.heap.size := by omega
  clear h ho hout hk hx1 hbF hL1 hLT1
  simp only [opV]
  go_enter Try.func31, Try.ntmps31
  go_wp2_with fail
  clear hw1 hbo
  refine (HK.out _).mono ?_
  rintro e w0 ⟨rfl, rfl⟩
  obtain ⟨av, cv, hpx, hRU, hm⟩ := H1.out.ref
  have HRU := Lib.hid hRU
  have HPX := Lib.hid hpx
  have hs := H1.out.sorted
  have HS := Lib.hid hs
  have HLV : Hid (SlOf w1 adC 2 (.slice la ll.length lc) ll) := HO.out.l.xt HX1.out
  have HPV : Hid (SlOf w1 inC 1 pv pk) := HO.out.picks.xt HX1.out
  obtain ⟨pa, pc, rfl, _, _, _⟩ := HPV.out
  clear hRU hpx hs
  go_wp2_with fail
  refine (lent59_any _ ll w1 HLV.out hlf).mono ?_
  rintro e w2 ⟨v13, rfl, hown2, hx2⟩
  have HX2 := Lib.hid hx2
  obtain ⟨a3, c3', hv13, _, _, _⟩ := hown2.sl adC_len
  rw [List.length_append, List.length_singleton] at hv13
  subst hv13
  have HS13 := Lib.hid (hown2.sl adC_len)
  obtain ⟨a4, hto, hsl⟩ := to_any (S := 23) Try.underlying23 rfl (fun w => by kernel_rfl) HS13.out ll.length (by simp)
  rw [List.take_left] at hsl
  have c02 := ((hx2.cells).1 bo 0 hb1).trans c0
  have c42 := ((hx2.cells).1 bo 4 hb1).trans c4
  have c62 := ((hx2.cells).1 bo 6 hb1).trans c6
  have hs2 := hx2.sz
  have hab := ready_any pb bm F M (.slice a4 ll.length c3') (.slice pa pk.length pc) ll pk w2.drew ((HL1.out.xt HLT1.out hx2).xt (fun b hb => by have := HLT1.out b hb; omega) (Xt.refl _).drew) (fun b hb => by have := HLT1.out b hb; show b < w2.heap.size; omega) (hsl.xt (Xt.refl _).drew) ((HPV.out.xt hx2).xt (Xt.refl _).drew) (by omega)
  have HAB := Lib.hid hab
  clear c0 c1 c2 c3 c4 c5 c6 hx2 hown2 hsl hab
  go_wp2_with fail
  refine (HK.out _).mono ?_
  rintro e w0 ⟨rfl, rfl⟩
  go_upto_region 42 with fail
  go_cut [24, 25] (fun s24 s25 wx => s25 = .int .i64 (readyS M ll pk).1 ∧ Hid (OwnL wx w2.heap.size 34 2 adC s24 (readyS M ll pk).2) ∧ Hid (Xt w2 wx))
  case first =>
    go_region_with (go_at_call 11; refine (HAB.out).mono ?_; rintro e w3 ⟨v14, rfl, hown3, hx3'⟩)
    all_goals (go_wp2_with fail; go_meet; exact ⟨rfl, hown3, xt_drew hx3'⟩)
  case rest =>
  obtain ⟨rfl, hown3, hx3⟩ := hcut
  obtain ⟨w3, hw3⟩ : ∃ w3, w3 = wc := ⟨_, rfl⟩
  obtain ⟨v14, hv14⟩ : ∃ v14, v14 = u24 := ⟨_, rfl⟩
  subst hw3 hv14
  have HX3 := Lib.hid hx3
  have HO3 : Hid (OwnL w3 w2.heap.size 34 2 adC v14 (readyS M ll pk).2) := hown3
  have hs3 := hx3.sz
  have c43 := ((hx3.cells).1 bo 4 (by omega)).trans c42
  have hxA : Xt w1 w3 := HX2.out.trans hx3
  have hra := rready62_any px _ (.slice la ll.length lc) (.slice pa pk.length pc) M ll pk w3 (((hxA.cells).1 px 0 (World.block_lt_of_cell? w1 _ HPX.out)).trans HPX.out) (HRU.out.xt hxA) HS.out H1.out.vm hm (HLV.out.xt hxA) (HPV.out.xt hxA)
  have HRA := Lib.hid hra
  have hfew := readyS_few M ll pk
  clear c42 c02 c62 hx3 hown3 hto hxA hra
  go_wp2_with fail
  refine (HRA.out).mono ?_
  rintro e w4 ⟨u, rfl, hown4, hx4⟩
  have HX4 := Lib.hid hx4
  have HSL := Lib.hid (hown4.sl adC_len)
  have HO4 : Hid (OwnL w4 w2.heap.size 34 2 adC v14 (readyS M ll pk).2) := HO3.out.xt hx4
  have hs4 := hx4.sz
  have c44 := ((hx4.cells).1 bo 4 (by omega)).trans c43
  clear hown4 hx4 c43 HO3 HAB HRA
  generalize (readyS M ll pk).2 = L at HO4 HSL hfew
  generalize (readyS M ll pk).1 = er
  go_wp2_with fail
  refine (addrs_any _ _ L L w4 (HO4.out.sl adC_len) HSL.out).mono ?_
  rintro e w5 ⟨rfl, hg5⟩
  rw [decide_eq_true (rfl : L = L)]
  have HX5 := Lib.hid hg5.xt
  have hs5 := hg5.xt.sz
  have c45 := ((hg5.xt.cells).1 bo 4 (by omega)).trans c44
  have HX25 : Hid (Xt w2 w5) := (HX3.out.trans HX4.out).trans hg5.xt
  have HO5 : Hid (OwnL w5 w2.heap.size 34 2 adC v14 L) := HO4.out.xt hg5.xt
  clear hg5 c44 HSL
  go_wp2_with fail
  refine (back61_any _ _ ll w5 (HS13.out.xt HX25.out) (HLV.out.xt (HX2.out.trans HX25.out))).mono ?_
  rintro e w6 ⟨rfl, hg6⟩
  have HX6 : Hid (Xt w2 w6) := HX25.out.trans hg6.xt
  have HO6 : Hid (OwnL w6 w2.heap.size 34 2 adC v14 L) := HO5.out.xt hg6.xt
  have hs6 := hg6.xt.sz
  clear hg6 c45
  go_wp2_with fail
  refine (spoil58_any w2.heap.size v14 L w6 HO6.out (by omega) (by omega)).mono ?_
  rintro e w7 ⟨rfl, hb7⟩
  have HX7 : Hid (Xt w w7) := ((HX1.out.trans HX2.out).trans HX6.out).trans' hb7 (HX1.out.trans HX2.out).sz
  clear hb7
  go_wp2_with fail
  go_ret
  exact StpR.still H.out HX7.out
set_option maxRecDepth 100000 in
set_option maxHeartbeats 4000000 in
theorem step_8 (pb bm px : Nat) (F : Nat → Prop) (M : Mp) (o : OpS) (v : OpV) (w : World) (h : Pr w pb bm px F M) (ho : OpIs w o v) (hout : OpOut F o v) (K : Nat) (hK8 : 8 ≤ K) (hk : ∀ w, Calls Try.prog 17 #[.int .i64 o.kind, .int .i64 11] w fun e w' => e = .returned (.int .i64 K) ∧ w = w') :
    Calls Try.prog 31 #[.pointer (some ⟨pb, 0, none⟩), .pointer (some ⟨px, 0, none⟩), opV o v] w (StpR w pb bm px F) := by
  have H := Lib.hid h
  have HO := Lib.hid ho
  have HOUT := Lib.hid hout
  obtain ⟨kind, on, a, ll, us, pk⟩ := o
  obtain ⟨lv, uv, pv⟩ := v
  simp only at hk
  have HK := Lib.hid hk
  have hl := ho.l
  have hlf := ho.lfew
  simp only at hl hlf
  obtain ⟨la, lc, rfl, l1, l2, _⟩ := hl
  obtain ⟨w1, hw1, hx1, hs1, c0, c1, c2, c3, c4, c5, c6⟩ := box7 w kind on a.1 a.2 (.slice la ll.length lc) uv pv 61
  obtain ⟨bo, hbo⟩ : ∃ n, w.heap.size = n := ⟨_, rfl⟩
  have HBO := Lib.hid hbo
  rw [hbo] at c0 c1 c2 c3 c4 c5 c6 hs1
  have HX1 := Lib.hid hx1
  have hbF : ¬ F bo := fun hf => by have := h.lt bo hf; omega
  have HBF := Lib.hid hbF
  have H1 : Hid (Pr w1 pb bm px F M) := h.xt hx1
  have hL1 := H1.out.lk
  have hLT1 := H1.out.lt
  have HL1 := Lib.hid hL1
  have HLT1 := Lib.hid hLT1
  have hb1 : bo < w1.heap.size := by omega
  clear h ho hout hk hx1 hbF hL1 hLT1
  simp only [opV]
  go_enter Try.func31, Try.ntmps31
  go_wp2_with fail
  clear hw1 hbo
  refine (HK.out _).mono ?_
  rintro e w0 ⟨rfl, rfl⟩
  obtain ⟨av, cv, hpx, hRU, hm⟩ := H1.out.ref
  have n0 : ((K : Int) == 0) = false := by rw [beq_eq_false_iff_ne]; omega
  have n1 : ((K : Int) == 1) = false := by rw [beq_eq_false_iff_ne]; omega
  have n2 : ((K : Int) == 2) = false := by rw [beq_eq_false_iff_ne]; omega
  have n3 : ((K : Int) == 3) = false := by rw [beq_eq_false_iff_ne]; omega
  have n4 : ((K : Int) == 4) = false := by rw [beq_eq_false_iff_ne]; omega
  have n5 : ((K : Int) == 5) = false := by rw [beq_eq_false_iff_ne]; omega
  have n6 : ((K : Int) == 6) = false := by rw [beq_eq_false_iff_ne]; omega
  have n7 : ((K : Int) == 7) = false := by rw [beq_eq_false_iff_ne]; omega
  have HM1 : Hid (Lk w1.drew pb bm F M) := HL1.out.xt HLT1.out (Xt.refl _).drew
  clear hRU c0 c1 c2 c3 c4 c5 c6 hK8
  go_wp2_with fail
  go_region_with (go_at_call 19; refine (len_any pb bm F M _ HM1.out).mono ?_; rintro e w' ⟨rfl, rfl⟩)
  all_goals
    go_wp2_with fail
    go_ret
    exact StpR.still H.out HX1.out.drew
end Go.Proofs.Ytagfgkcipomopaa
