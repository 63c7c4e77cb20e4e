/- quadrillelaw22's small (made by mkr5.py). -/
import Derived.Test.YtdoeejhdenifpaaGreatDoorZ1
import Derived.Test.YtdoeejhdenifpaaGreatDoorA12
import Derived.Deep.CutBlock
import Derived.Deep.DeepCutAuto
namespace Go.Proofs.YtdoeejhdenifpaaGreatDoor
open Go.RowKit Go.Sort Go.MapKept
attribute [local go_sem] Oper.semAt_some
theorem cells9 {w : World} {b : Nat} {v0 v1 v2 v3 v4 v5 v6 v7 v8 : Value} {T : TypeId} (h : w.heap[b]? = some (.cells #[v0, v1, v2, v3, v4, v5, v6, v7, v8] T (0, 0))) :
    w.cell? ⟨b, 0, none⟩ = some v0 ∧ w.cell? ⟨b, 1, none⟩ = some v1 ∧ w.cell? ⟨b, 2, none⟩ = some v2 ∧ w.cell? ⟨b, 3, none⟩ = some v3 ∧ w.cell? ⟨b, 4, none⟩ = some v4 ∧ w.cell? ⟨b, 5, none⟩ = some v5 ∧ w.cell? ⟨b, 6, none⟩ = some v6 ∧ w.cell? ⟨b, 7, none⟩ = some v7 ∧ w.cell? ⟨b, 8, none⟩ = some v8 := by
 simp [World.cell?, h]
def smallA (x : ArT) : ArT := ⟨1 + pickZ x.a 6, 1 + pickZ x.b 6, 1 + pickZ x.a 6 + pickZ x.c 3, 1 + pickZ x.b 6 + pickZ x.d 3⟩
def smallC (g : Ad) : Ad := (1 + pickZ g.1 7, 1 + pickZ g.2 7)
def I64 (z : Int) : Prop := -9223372036854775808 ≤ z ∧ z ≤ 9223372036854775807
set_option maxRecDepth 100000 in
set_option maxHeartbeats 4000000 in
theorem small_any (kk aa nn : Int) (x : ArT) (g : Ad) (w : World) (hb : I64 x.a ∧ I64 x.b ∧ I64 x.c ∧ I64 x.d ∧ I64 g.1 ∧ I64 g.2) :
    Calls Tryz.prog 10 #[.agg #[.int .i64 kk, .int .i64 aa, .int .i64 nn, .int .i64 x.a, .int .i64 x.b, .int .i64 x.c, .int .i64 x.d, .int .i64 g.1, .int .i64 g.2]] w fun e w' => e = .returned (.tuple #[arT (smallA x), .agg #[.int .i64 (smallC g).1, .int .i64 (smallC g).2]]) ∧ Xt w w' := by
 obtain ⟨B, hB⟩ : ∃ B, w.heap.size = B := ⟨_, rfl⟩
 obtain ⟨w0, hw0⟩ : ∃ w0, w.alloc (.cells #[.int .i64 kk, .int .i64 aa, .int .i64 nn, .int .i64 x.a, .int .i64 x.b, .int .i64 x.c, .int .i64 x.d, .int .i64 g.1, .int .i64 g.2] 28) = w0 := ⟨_, rfl⟩
 have hs0 : w0.heap.size = B + 1 := by rw [← hw0, ← hB]; simp
 obtain ⟨w1, hw1⟩ : ∃ w1, w0.alloc (.cells #[.int .i64 0, .int .i64 0, .int .i64 0, .int .i64 0] 26) = w1 := ⟨_, rfl⟩
 have hs1 : w1.heap.size = B + 1 + 1 := by rw [← hw1]; simp [hs0]
 obtain ⟨w2, hw2⟩ : ∃ w2, w1.alloc (.cells #[.int .i64 0, .int .i64 0] 24) = w2 := ⟨_, rfl⟩
 have hs2 : w2.heap.size = B + 1 + 1 + 1 := by rw [← hw2]; simp [hs1]
 have HX2 : Hid (Xt w w2) := by unfold Hid; rw [← hw2, ← hw1, ← hw0]; exact (((Xt.refl w).alloc _).alloc _).alloc _
 have HR0 : Hid (w2.heap[B]? = some (.cells #[.int .i64 kk, .int .i64 aa, .int .i64 nn, .int .i64 x.a, .int .i64 x.b, .int .i64 x.c, .int .i64 x.d, .int .i64 g.1, .int .i64 g.2] 28 (0, 0))) := rowX (w := w0) (by rw [← hw2, ← hw1]; exact ((Xt.refl _).alloc _).alloc _) (by rw [← hw0, ← hB]; exact (MapKept.heap_alloc w _).1)
 have HR1 : Hid (w2.heap[B + 1]? = some (.cells #[.int .i64 0, .int .i64 0, .int .i64 0, .int .i64 0] 26 (0, 0))) := rowX (w := w1) (by rw [← hw2]; exact (Xt.refl _).alloc _) (by rw [← hw1, ← hs0]; exact (MapKept.heap_alloc w0 _).1)
 have HR2 : Hid (w2.heap[B + 1 + 1]? = some (.cells #[.int .i64 0, .int .i64 0] 24 (0, 0))) := by unfold Hid; rw [← hw2, ← hs1]; exact (MapKept.heap_alloc w1 _).1
 have HP1 := Lib.hid (fun V => pickz_any x.a 6 V hb.1.1 hb.1.2 (by omega) (by omega))
 have HP2 := Lib.hid (fun V => pickz_any x.b 6 V hb.2.1.1 hb.2.1.2 (by omega) (by omega))
 have HP3 := Lib.hid (fun V => pickz_any x.c 3 V hb.2.2.1.1 hb.2.2.1.2 (by omega) (by omega))
 have HP4 := Lib.hid (fun V => pickz_any x.d 3 V hb.2.2.2.1.1 hb.2.2.2.1.2 (by omega) (by omega))
 have HP5 := Lib.hid (fun V => pickz_any g.1 7 V hb.2.2.2.2.1.1 hb.2.2.2.2.1.2 (by omega) (by omega))
 have HP6 := Lib.hid (fun V => pickz_any g.2 7 V hb.2.2.2.2.2.1 hb.2.2.2.2.2.2 (by omega) (by omega))
 unfold smallA smallC
 have b1 := pickZ_lt (c := x.a) (n := 6) (by omega)
 have b2 := pickZ_lt (c := x.b) (n := 6) (by omega)
 have b3 := pickZ_lt (c := x.c) (n := 3) (by omega)
 have b4 := pickZ_lt (c := x.d) (n := 3) (by omega)
 have b5 := pickZ_lt (c := g.1) (n := 7) (by omega)
 have b6 := pickZ_lt (c := g.2) (n := 7) (by omega)
 obtain ⟨p1, hp1⟩ : ∃ p, pickZ x.a 6 = p := ⟨_, rfl⟩
 obtain ⟨p2, hp2⟩ : ∃ p, pickZ x.b 6 = p := ⟨_, rfl⟩
 obtain ⟨p3, hp3⟩ : ∃ p, pickZ x.c 3 = p := ⟨_, rfl⟩
 obtain ⟨p4, hp4⟩ : ∃ p, pickZ x.d 3 = p := ⟨_, rfl⟩
 obtain ⟨p5, hp5⟩ : ∃ p, pickZ g.1 7 = p := ⟨_, rfl⟩
 obtain ⟨p6, hp6⟩ : ∃ p, pickZ g.2 7 = p := ⟨_, rfl⟩
 rw [hp1] at b1 HP1
 rw [hp2] at b2 HP2
 rw [hp3] at b3 HP3
 rw [hp4] at b4 HP4
 rw [hp5] at b5 HP5
 rw [hp6] at b6 HP6
 rw [hp1, hp2, hp3, hp4, hp5, hp6]
 have c1 : IntKind.i64.wrap (1 + p1) = 1 + p1 := wrap_idz (by omega) (by omega)
 have c2 : IntKind.i64.wrap (1 + p2) = 1 + p2 := wrap_idz (by omega) (by omega)
 have c3 : IntKind.i64.wrap (1 + p1 + p3) = 1 + p1 + p3 := wrap_idz (by omega) (by omega)
 have c4 : IntKind.i64.wrap (1 + p2 + p4) = 1 + p2 + p4 := wrap_idz (by omega) (by omega)
 have c5 : IntKind.i64.wrap (1 + p5) = 1 + p5 := wrap_idz (by omega) (by omega)
 have c6 : IntKind.i64.wrap (1 + p6) = 1 + p6 := wrap_idz (by omega) (by omega)
 have HAT1 := Lib.hid (fun V => at_any (1 + p1, 1 + p2) V)
 have HAT2 := Lib.hid (fun V => at_any (1 + p1 + p3, 1 + p2 + p4) V)
 have HAT3 := Lib.hid (fun V => at_any (1 + p5, 1 + p6) V)
 obtain ⟨q1, hq1⟩ : ∃ q, 1 + p1 = q := ⟨_, rfl⟩
 obtain ⟨q2, hq2⟩ : ∃ q, 1 + p2 = q := ⟨_, rfl⟩
 rw [hq1] at c1 c3 HAT1 HAT2
 rw [hq2] at c2 c4 HAT1 HAT2
 rw [hq1, hq2]
 obtain ⟨q3, hq3⟩ : ∃ q, q1 + p3 = q := ⟨_, rfl⟩
 obtain ⟨q4, hq4⟩ : ∃ q, q2 + p4 = q := ⟨_, rfl⟩
 obtain ⟨q5, hq5⟩ : ∃ q, 1 + p5 = q := ⟨_, rfl⟩
 obtain ⟨q6, hq6⟩ : ∃ q, 1 + p6 = q := ⟨_, rfl⟩
 rw [hq3] at c3 HAT2
 rw [hq4] at c4 HAT2
 rw [hq5] at c5 HAT3
 rw [hq6] at c6 HAT3
 rw [hq3, hq4, hq5, hq6]
 have c1' : IntKind.i64.wrap (1 + p1) = q1 := by rw [hq1]; exact c1
 have c2' : IntKind.i64.wrap (1 + p2) = q2 := by rw [hq2]; exact c2
 have c3' : IntKind.i64.wrap (q1 + p3) = q3 := by rw [hq3]; exact c3
 have c4' : IntKind.i64.wrap (q2 + p4) = q4 := by rw [hq4]; exact c4
 have c5' : IntKind.i64.wrap (1 + p5) = q5 := by rw [hq5]; exact c5
 have c6' : IntKind.i64.wrap (1 + p6) = q6 := by rw [hq6]; exact c6
 have hbb := Lib.hid hs2
 clear hb hp1 hp2 hp3 hp4 hp5 hp6 hq1 hq2 hq3 hq4 hq5 hq6 c1 c2 c3 c4 c5 c6 b1 b2 b3 b4 b5 b6
 have HF : Hid (∀ V : World, V.heap[B]? = some (.cells #[.int .i64 kk, .int .i64 aa, .int .i64 nn, .int .i64 x.a, .int .i64 x.b, .int .i64 x.c, .int .i64 x.d, .int .i64 g.1, .int .i64 g.2] 28 (0, 0)) → V.cell? ⟨B, 0, none⟩ = some (.int .i64 kk) ∧ V.cell? ⟨B, 1, none⟩ = some (.int .i64 aa) ∧ V.cell? ⟨B, 2, none⟩ = some (.int .i64 nn) ∧ V.cell? ⟨B, 3, none⟩ = some (.int .i64 x.a) ∧ V.cell? ⟨B, 4, none⟩ = some (.int .i64 x.b) ∧ V.cell? ⟨B, 5, none⟩ = some (.int .i64 x.c) ∧ V.cell? ⟨B, 6, none⟩ = some (.int .i64 x.d) ∧ V.cell? ⟨B, 7, none⟩ = some (.int .i64 g.1) ∧ V.cell? ⟨B, 8, none⟩ = some (.int .i64 g.2)) := Lib.hid fun V hV => cells9 hV
 go_enter Tryz.func10, Tryz.ntmps10
 go_upto_region 1 with fail
 have HG : Hid (∀ V, Xt w2 V → V.cell? ⟨B, 0, none⟩ = some (.int .i64 kk) ∧ V.cell? ⟨B, 1, none⟩ = some (.int .i64 aa) ∧ V.cell? ⟨B, 2, none⟩ = some (.int .i64 nn) ∧ V.cell? ⟨B, 3, none⟩ = some (.int .i64 x.a) ∧ V.cell? ⟨B, 4, none⟩ = some (.int .i64 x.b) ∧ V.cell? ⟨B, 5, none⟩ = some (.int .i64 x.c) ∧ V.cell? ⟨B, 6, none⟩ = some (.int .i64 x.d) ∧ V.cell? ⟨B, 7, none⟩ = some (.int .i64 g.1) ∧ V.cell? ⟨B, 8, none⟩ = some (.int .i64 g.2)) := Lib.hid fun V hV => HF.out V (rowX hV HR0.out)
 go_cut [4] (fun s4 wr => ∃ k, s4 = .pointer (some ⟨k, 0, none⟩) ∧ B + 1 + 1 < k ∧ Hid (Xt w2 wr) ∧ Hid (wr.heap[k]? = some (.cells #[.int .i64 q1, .int .i64 q2] 24 (0, 0))))
 case first =>
  have HXC := Lib.hid ((Xt.refl w2).drew)
  have HSB := Lib.hid hs2
  refine wp_region_held_drew (S := fun V => Xt w2 V) (by kernel_rfl) HXC.out (fun hHeld => ?_)
  refine tkH 0 ?_ ?_ ?_
  rotate_left
  · intro V hSw; obtain ⟨u0, u1, u2, u3, u4, u5, u6, u7, u8⟩ := HG.out V hSw; go_simp; first | done | with_reducible rfl
  try simp only [Act.put, nm]
  refine tkH 1 ?_ ?_ ?_
  rotate_left
  · intro V hSw; obtain ⟨u0, u1, u2, u3, u4, u5, u6, u7, u8⟩ := HG.out V hSw; go_simp; first | done | with_reducible rfl
  try simp only [Act.put, nm]
  refine tkH 2 ?_ ?_ ?_
  rotate_left
  · intro V hSw; obtain ⟨u0, u1, u2, u3, u4, u5, u6, u7, u8⟩ := HG.out V hSw; go_simp; first | done | with_reducible rfl
  try simp only [Act.put, nm]
  refine tkH 3 ?_ ?_ ?_
  rotate_left
  · intro V hSw; obtain ⟨u0, u1, u2, u3, u4, u5, u6, u7, u8⟩ := HG.out V hSw; go_simp; first | done | with_reducible rfl
  try simp only [Act.put, nm]
  refine tkH 6 ?_ ?_ ?_
  rotate_left
  · intro V hSw; obtain ⟨u0, u1, u2, u3, u4, u5, u6, u7, u8⟩ := HG.out V hSw; go_simp; first | done | with_reducible rfl
  try simp only [Act.put, nm]
  refine tkH 7 ?_ ?_ ?_
  rotate_left
  · intro V hSw; obtain ⟨u0, u1, u2, u3, u4, u5, u6, u7, u8⟩ := HG.out V hSw; go_simp; first | done | with_reducible rfl
  try simp only [Act.put, nm]
  refine tkH 8 ?_ ?_ ?_
  rotate_left
  · intro V hSw; obtain ⟨u0, u1, u2, u3, u4, u5, u6, u7, u8⟩ := HG.out V hSw; go_simp; first | done | with_reducible rfl
  try simp only [Act.put, nm]
  refine tkH 9 ?_ ?_ ?_
  rotate_left
  · intro V hSw; obtain ⟨u0, u1, u2, u3, u4, u5, u6, u7, u8⟩ := HG.out V hSw; go_simp; first | done | with_reducible rfl
  try simp only [Act.put, nm]
  refine wpAnyH_ready (rs := [4, 13]) (by kernel_rfl) (by simp) ?_
  refine AllReadyH.cons (o := _) rfl (fun K hK => ?_) (AllReadyH.cons (o := _) rfl (fun K hK => ?_) AllReadyH.nil)
  · go_simp
    refine (HP1.out _).mono ?_
    rintro e w' ⟨rfl, rfl⟩
    refine hK.out _ _ (HXC.out) (fun hHe => ?_)
    clear hK K
    try simp only [Act.put, nm]
    refine tkH 5 ?_ ?_ ?_
    rotate_left
    · intro V hSw; obtain ⟨u0, u1, u2, u3, u4, u5, u6, u7, u8⟩ := HG.out V hSw; go_simp; first | done | with_reducible rfl
    try simp only [Act.put, nm]
    refine wpAnyH_ready (rs := [10, 13]) (by kernel_rfl) (by simp) ?_
    refine AllReadyH.cons (o := _) rfl (fun K hK => ?_) (AllReadyH.cons (o := _) rfl (fun K hK => ?_) AllReadyH.nil)
    · go_simp
      refine (HP2.out _).mono ?_
      rintro e w' ⟨rfl, rfl⟩
      refine hK.out _ _ (HXC.out) (fun hHe => ?_)
      clear hK K
      try simp only [Act.put, nm]
      refine tkH 11 ?_ ?_ ?_
      rotate_left
      · intro V hSw; obtain ⟨u0, u1, u2, u3, u4, u5, u6, u7, u8⟩ := HG.out V hSw; go_simp; first | done | with_reducible rfl
      try simp only [Act.put, nm]
      refine wpAnyH_ready (rs := [12, 13]) (by kernel_rfl) (by simp) ?_
      refine AllReadyH.cons (o := _) rfl (fun K hK => ?_) (AllReadyH.cons (o := _) rfl (fun K hK => ?_) AllReadyH.nil)
      · go_simp
        refine (HAT1.out _).mono ?_
        rintro e wn2 ⟨rfl, hgn⟩
        replace HXC := Lib.hid (HXC.out.trans hgn.xt)
        refine hK.out _ _ (HXC.out) (fun hHe => ?_)
        clear hK K hgn
        refine rdH 13 (fun K hK => ?_)
        go_simp
        have HXG := HXC
        replace HXC := Lib.hid (HXC.out.alloc (.cells #[.int .i64 0, .int .i64 0] 24))
        refine hK.out _ _ (HXC.out) (fun hHe => ?_)
        clear hK K
        try simp only [Act.put, nm]
        have HXF := HXG
        refine rdH 14 (fun K hK => ?_)
        go_simp
        have HXE : Hid (Xt w2 (wn2.alloc (.cells #[.int .i64 q1, .int .i64 q2] 24))) := Lib.hid (HXF.out.alloc _)
        have HRE : Hid ((wn2.alloc (.cells #[.int .i64 q1, .int .i64 q2] 24)).heap[wn2.heap.size]? = some (.cells #[.int .i64 q1, .int .i64 q2] 24 (0, 0))) := Lib.hid (MapKept.heap_alloc wn2 _).1
        refine hK.out _ _ (HXE.out) (fun hHe => ?_)
        clear hK K
        have hsz := HXG.out.size
        refine wpAnyH_done (by kernel_rfl) ?_ _
        go_wp2_with fail
        go_meet
        case rel => exact ⟨wn2.heap.size, rfl, (by have := HSB.out; omega), HXE, HRE⟩
      · go_simp
        have HAR : Hid ((World.alloc w2.drew (.cells #[.int .i64 0, .int .i64 0] 24)).heap[B + 1 + 1 + 1]? = some (.cells #[.int .i64 0, .int .i64 0] 24 (0, 0))) := (by unfold Hid; have := (MapKept.heap_alloc w2.drew (.cells #[.int .i64 0, .int .i64 0] 24)).1; rw [show w2.drew.heap.size = B + 1 + 1 + 1 from HSB.out] at this; exact this)
        replace HXC := Lib.hid (HXC.out.alloc (.cells #[.int .i64 0, .int .i64 0] 24))
        refine hK.out _ _ (HXC.out) (fun hHe => ?_)
        clear hK K
        try simp only [Act.put, nm]
        refine rdH 12 (fun K hK => ?_)
        go_simp
        refine (HAT1.out _).mono ?_
        rintro e wn2 ⟨rfl, hgn⟩
        replace HXC := Lib.hid (HXC.out.trans hgn.xt)
        replace HAR := Lib.hid (rowX hgn.xt HAR.out)
        refine hK.out _ _ (HXC.out) (fun hHe => ?_)
        clear hK K hgn
        obtain ⟨z0, z1, z2, z3⟩ := cells2 HAR.out
        refine rdH 14 (fun K hK => ?_)
        go_simp
        have HXE : Hid (Xt w2 ((wn2.setCell ⟨B + 1 + 1 + 1, 0, none⟩ (.int .i64 q1)).setCell ⟨B + 1 + 1 + 1, 1, none⟩ (.int .i64 q2))) := Lib.hid ((HXC.out.grownB (setCell_grown _ _ _ _) (fun q hq => by cases hq; have := HSB.out; omega)).grownB (setCell_grown _ _ _ _) (fun q hq => by cases hq; have := HSB.out; omega))
        have HRE : Hid (((wn2.setCell ⟨B + 1 + 1 + 1, 0, none⟩ (.int .i64 q1)).setCell ⟨B + 1 + 1 + 1, 1, none⟩ (.int .i64 q2)).heap[B + 1 + 1 + 1]? = some (.cells #[.int .i64 q1, .int .i64 q2] 24 (0, 0))) := Lib.hid (setCell_row (setCell_row HAR.out 0 _) 1 _)
        refine hK.out _ _ (HXE.out) (fun hHe => ?_)
        clear hK K
        refine wpAnyH_done (by kernel_rfl) ?_ _
        go_wp2_with fail
        go_meet
        case rel => exact ⟨B + 1 + 1 + 1, rfl, (by have := HSB.out; omega), HXE, HRE⟩
    · go_simp
      have HAR : Hid ((World.alloc w2.drew (.cells #[.int .i64 0, .int .i64 0] 24)).heap[B + 1 + 1 + 1]? = some (.cells #[.int .i64 0, .int .i64 0] 24 (0, 0))) := (by unfold Hid; have := (MapKept.heap_alloc w2.drew (.cells #[.int .i64 0, .int .i64 0] 24)).1; rw [show w2.drew.heap.size = B + 1 + 1 + 1 from HSB.out] at this; exact this)
      replace HXC := Lib.hid (HXC.out.alloc (.cells #[.int .i64 0, .int .i64 0] 24))
      refine hK.out _ _ (HXC.out) (fun hHe => ?_)
      clear hK K
      try simp only [Act.put, nm]
      refine rdH 10 (fun K hK => ?_)
      go_simp
      refine (HP2.out _).mono ?_
      rintro e w' ⟨rfl, rfl⟩
      refine hK.out _ _ (HXC.out) (fun hHe => ?_)
      clear hK K
      try simp only [Act.put, nm]
      refine tkH 11 ?_ ?_ ?_
      rotate_left
      · intro V hSw; obtain ⟨u0, u1, u2, u3, u4, u5, u6, u7, u8⟩ := HG.out V hSw; go_simp; first | done | with_reducible rfl
      try simp only [Act.put, nm]
      refine rdH 12 (fun K hK => ?_)
      go_simp
      refine (HAT1.out _).mono ?_
      rintro e wn2 ⟨rfl, hgn⟩
      replace HXC := Lib.hid (HXC.out.trans hgn.xt)
      replace HAR := Lib.hid (rowX hgn.xt HAR.out)
      refine hK.out _ _ (HXC.out) (fun hHe => ?_)
      clear hK K hgn
      obtain ⟨z0, z1, z2, z3⟩ := cells2 HAR.out
      refine rdH 14 (fun K hK => ?_)
      go_simp
      have HXE : Hid (Xt w2 ((wn2.setCell ⟨B + 1 + 1 + 1, 0, none⟩ (.int .i64 q1)).setCell ⟨B + 1 + 1 + 1, 1, none⟩ (.int .i64 q2))) := Lib.hid ((HXC.out.grownB (setCell_grown _ _ _ _) (fun q hq => by cases hq; have := HSB.out; omega)).grownB (setCell_grown _ _ _ _) (fun q hq => by cases hq; have := HSB.out; omega))
      have HRE : Hid (((wn2.setCell ⟨B + 1 + 1 + 1, 0, none⟩ (.int .i64 q1)).setCell ⟨B + 1 + 1 + 1, 1, none⟩ (.int .i64 q2)).heap[B + 1 + 1 + 1]? = some (.cells #[.int .i64 q1, .int .i64 q2] 24 (0, 0))) := Lib.hid (setCell_row (setCell_row HAR.out 0 _) 1 _)
      refine hK.out _ _ (HXE.out) (fun hHe => ?_)
      clear hK K
      refine wpAnyH_done (by kernel_rfl) ?_ _
      go_wp2_with fail
      go_meet
      case rel => exact ⟨B + 1 + 1 + 1, rfl, (by have := HSB.out; omega), HXE, HRE⟩
  · go_simp
    have HAR : Hid ((World.alloc w2.drew (.cells #[.int .i64 0, .int .i64 0] 24)).heap[B + 1 + 1 + 1]? = some (.cells #[.int .i64 0, .int .i64 0] 24 (0, 0))) := (by unfold Hid; have := (MapKept.heap_alloc w2.drew (.cells #[.int .i64 0, .int .i64 0] 24)).1; rw [show w2.drew.heap.size = B + 1 + 1 + 1 from HSB.out] at this; exact this)
    replace HXC := Lib.hid (HXC.out.alloc (.cells #[.int .i64 0, .int .i64 0] 24))
    refine hK.out _ _ (HXC.out) (fun hHe => ?_)
    clear hK K
    try simp only [Act.put, nm]
    refine rdH 4 (fun K hK => ?_)
    go_simp
    refine (HP1.out _).mono ?_
    rintro e w' ⟨rfl, rfl⟩
    refine hK.out _ _ (HXC.out) (fun hHe => ?_)
    clear hK K
    try simp only [Act.put, nm]
    refine tkH 5 ?_ ?_ ?_
    rotate_left
    · intro V hSw; obtain ⟨u0, u1, u2, u3, u4, u5, u6, u7, u8⟩ := HG.out V hSw; go_simp; first | done | with_reducible rfl
    try simp only [Act.put, nm]
    refine rdH 10 (fun K hK => ?_)
    go_simp
    refine (HP2.out _).mono ?_
    rintro e w' ⟨rfl, rfl⟩
    refine hK.out _ _ (HXC.out) (fun hHe => ?_)
    clear hK K
    try simp only [Act.put, nm]
    refine tkH 11 ?_ ?_ ?_
    rotate_left
    · intro V hSw; obtain ⟨u0, u1, u2, u3, u4, u5, u6, u7, u8⟩ := HG.out V hSw; go_simp; first | done | with_reducible rfl
    try simp only [Act.put, nm]
    refine rdH 12 (fun K hK => ?_)
    go_simp
    refine (HAT1.out _).mono ?_
    rintro e wn2 ⟨rfl, hgn⟩
    replace HXC := Lib.hid (HXC.out.trans hgn.xt)
    replace HAR := Lib.hid (rowX hgn.xt HAR.out)
    refine hK.out _ _ (HXC.out) (fun hHe => ?_)
    clear hK K hgn
    obtain ⟨z0, z1, z2, z3⟩ := cells2 HAR.out
    refine rdH 14 (fun K hK => ?_)
    go_simp
    have HXE : Hid (Xt w2 ((wn2.setCell ⟨B + 1 + 1 + 1, 0, none⟩ (.int .i64 q1)).setCell ⟨B + 1 + 1 + 1, 1, none⟩ (.int .i64 q2))) := Lib.hid ((HXC.out.grownB (setCell_grown _ _ _ _) (fun q hq => by cases hq; have := HSB.out; omega)).grownB (setCell_grown _ _ _ _) (fun q hq => by cases hq; have := HSB.out; omega))
    have HRE : Hid (((wn2.setCell ⟨B + 1 + 1 + 1, 0, none⟩ (.int .i64 q1)).setCell ⟨B + 1 + 1 + 1, 1, none⟩ (.int .i64 q2)).heap[B + 1 + 1 + 1]? = some (.cells #[.int .i64 q1, .int .i64 q2] 24 (0, 0))) := Lib.hid (setCell_row (setCell_row HAR.out 0 _) 1 _)
    refine hK.out _ _ (HXE.out) (fun hHe => ?_)
    clear hK K
    refine wpAnyH_done (by kernel_rfl) ?_ _
    go_wp2_with fail
    go_meet
    case rel => exact ⟨B + 1 + 1 + 1, rfl, (by have := HSB.out; omega), HXE, HRE⟩
 case rest =>
  obtain ⟨k4, rfl, hk4, HX4, HK4⟩ := hcut
  obtain ⟨w4, hw4⟩ : ∃ w4, w4 = wc := ⟨_, rfl⟩
  subst hw4
  have HG2 : Hid (∀ V, Xt w4 V → V.cell? ⟨k4, 0, none⟩ = some (.int .i64 q1) ∧ V.cell? ⟨k4, 1, none⟩ = some (.int .i64 q2) ∧ V.cell? ⟨B, 0, none⟩ = some (.int .i64 kk) ∧ V.cell? ⟨B, 1, none⟩ = some (.int .i64 aa) ∧ V.cell? ⟨B, 2, none⟩ = some (.int .i64 nn) ∧ V.cell? ⟨B, 3, none⟩ = some (.int .i64 x.a) ∧ V.cell? ⟨B, 4, none⟩ = some (.int .i64 x.b) ∧ V.cell? ⟨B, 5, none⟩ = some (.int .i64 x.c) ∧ V.cell? ⟨B, 6, none⟩ = some (.int .i64 x.d) ∧ V.cell? ⟨B, 7, none⟩ = some (.int .i64 g.1) ∧ V.cell? ⟨B, 8, none⟩ = some (.int .i64 g.2)) := Lib.hid fun V hV => by
   obtain ⟨e0, e1, _, _⟩ := cells2 (rowX hV HK4.out)
   exact ⟨e0, e1, HF.out V (rowX (HX4.out.trans hV) HR0.out)⟩
  go_upto_region 2 with fail
  go_cut [5] (fun s5 wr => ∃ k, s5 = .pointer (some ⟨k, 0, none⟩) ∧ w4.heap.size ≤ k ∧ Hid (Xt w4 wr) ∧ Hid (wr.heap[k]? = some (.cells #[.int .i64 q3, .int .i64 q4] 24 (0, 0))))
  case first =>
   have HXC := Lib.hid ((Xt.refl w4).drew)
   have HSB : Hid (w4.heap.size = w4.heap.size) := Lib.hid rfl
   refine wp_region_held_drew (S := fun V => Xt w4 V) (by kernel_rfl) HXC.out (fun hHeld => ?_)
   refine tkH 0 ?_ ?_ ?_
   rotate_left
   · intro V hSw; obtain ⟨u0, u1, u2, u3, u4, u5, u6, u7, u8, u9, u10⟩ := HG2.out V hSw; go_simp; first | done | with_reducible rfl
   try simp only [Act.put, nm]
   refine tkH 1 ?_ ?_ ?_
   rotate_left
   · intro V hSw; obtain ⟨u0, u1, u2, u3, u4, u5, u6, u7, u8, u9, u10⟩ := HG2.out V hSw; go_simp; first | done | with_reducible rfl
   try simp only [Act.put, nm]
   refine tkH 2 ?_ ?_ ?_
   rotate_left
   · intro V hSw; obtain ⟨u0, u1, u2, u3, u4, u5, u6, u7, u8, u9, u10⟩ := HG2.out V hSw; go_simp; first | done | with_reducible rfl
   try simp only [Act.put, nm]
   refine tkH 3 ?_ ?_ ?_
   rotate_left
   · intro V hSw; obtain ⟨u0, u1, u2, u3, u4, u5, u6, u7, u8, u9, u10⟩ := HG2.out V hSw; go_simp; first | done | with_reducible rfl
   try simp only [Act.put, nm]
   refine tkH 4 ?_ ?_ ?_
   rotate_left
   · intro V hSw; obtain ⟨u0, u1, u2, u3, u4, u5, u6, u7, u8, u9, u10⟩ := HG2.out V hSw; go_simp; first | done | with_reducible rfl
   try simp only [Act.put, nm]
   refine tkH 5 ?_ ?_ ?_
   rotate_left
   · intro V hSw; obtain ⟨u0, u1, u2, u3, u4, u5, u6, u7, u8, u9, u10⟩ := HG2.out V hSw; go_simp; first | done | with_reducible rfl
   try simp only [Act.put, nm]
   refine tkH 8 ?_ ?_ ?_
   rotate_left
   · intro V hSw; obtain ⟨u0, u1, u2, u3, u4, u5, u6, u7, u8, u9, u10⟩ := HG2.out V hSw; go_simp; first | done | with_reducible rfl
   try simp only [Act.put, nm]
   refine tkH 9 ?_ ?_ ?_
   rotate_left
   · intro V hSw; obtain ⟨u0, u1, u2, u3, u4, u5, u6, u7, u8, u9, u10⟩ := HG2.out V hSw; go_simp; first | done | with_reducible rfl
   try simp only [Act.put, nm]
   refine tkH 10 ?_ ?_ ?_
   rotate_left
   · intro V hSw; obtain ⟨u0, u1, u2, u3, u4, u5, u6, u7, u8, u9, u10⟩ := HG2.out V hSw; go_simp; first | done | with_reducible rfl
   try simp only [Act.put, nm]
   refine tkH 11 ?_ ?_ ?_
   rotate_left
   · intro V hSw; obtain ⟨u0, u1, u2, u3, u4, u5, u6, u7, u8, u9, u10⟩ := HG2.out V hSw; go_simp; first | done | with_reducible rfl
   try simp only [Act.put, nm]
   refine tkH 12 ?_ ?_ ?_
   rotate_left
   · intro V hSw; obtain ⟨u0, u1, u2, u3, u4, u5, u6, u7, u8, u9, u10⟩ := HG2.out V hSw; go_simp; first | done | with_reducible rfl
   try simp only [Act.put, nm]
   refine tkH 13 ?_ ?_ ?_
   rotate_left
   · intro V hSw; obtain ⟨u0, u1, u2, u3, u4, u5, u6, u7, u8, u9, u10⟩ := HG2.out V hSw; go_simp; first | done | with_reducible rfl
   try simp only [Act.put, nm]
   refine wpAnyH_ready (rs := [6, 17]) (by kernel_rfl) (by simp) ?_
   refine AllReadyH.cons (o := _) rfl (fun K hK => ?_) (AllReadyH.cons (o := _) rfl (fun K hK => ?_) AllReadyH.nil)
   · go_simp
     refine (HP3.out _).mono ?_
     rintro e w' ⟨rfl, rfl⟩
     refine hK.out _ _ (HXC.out) (fun hHe => ?_)
     clear hK K
     try simp only [Act.put, nm]
     refine tkH 7 ?_ ?_ ?_
     rotate_left
     · intro V hSw; obtain ⟨u0, u1, u2, u3, u4, u5, u6, u7, u8, u9, u10⟩ := HG2.out V hSw; go_simp; first | done | with_reducible rfl
     try simp only [Act.put, nm]
     refine wpAnyH_ready (rs := [14, 17]) (by kernel_rfl) (by simp) ?_
     refine AllReadyH.cons (o := _) rfl (fun K hK => ?_) (AllReadyH.cons (o := _) rfl (fun K hK => ?_) AllReadyH.nil)
     · go_simp
       refine (HP4.out _).mono ?_
       rintro e w' ⟨rfl, rfl⟩
       refine hK.out _ _ (HXC.out) (fun hHe => ?_)
       clear hK K
       try simp only [Act.put, nm]
       refine tkH 15 ?_ ?_ ?_
       rotate_left
       · intro V hSw; obtain ⟨u0, u1, u2, u3, u4, u5, u6, u7, u8, u9, u10⟩ := HG2.out V hSw; go_simp; first | done | with_reducible rfl
       try simp only [Act.put, nm]
       refine wpAnyH_ready (rs := [16, 17]) (by kernel_rfl) (by simp) ?_
       refine AllReadyH.cons (o := _) rfl (fun K hK => ?_) (AllReadyH.cons (o := _) rfl (fun K hK => ?_) AllReadyH.nil)
       · go_simp
         refine (HAT2.out _).mono ?_
         rintro e wn2 ⟨rfl, hgn⟩
         replace HXC := Lib.hid (HXC.out.trans hgn.xt)
         refine hK.out _ _ (HXC.out) (fun hHe => ?_)
         clear hK K hgn
         refine rdH 17 (fun K hK => ?_)
         go_simp
         have HXG := HXC
         replace HXC := Lib.hid (HXC.out.alloc (.cells #[.int .i64 0, .int .i64 0] 24))
         refine hK.out _ _ (HXC.out) (fun hHe => ?_)
         clear hK K
         try simp only [Act.put, nm]
         have HXF := HXG
         refine rdH 18 (fun K hK => ?_)
         go_simp
         have HXE : Hid (Xt w4 (wn2.alloc (.cells #[.int .i64 q3, .int .i64 q4] 24))) := Lib.hid (HXF.out.alloc _)
         have HRE : Hid ((wn2.alloc (.cells #[.int .i64 q3, .int .i64 q4] 24)).heap[wn2.heap.size]? = some (.cells #[.int .i64 q3, .int .i64 q4] 24 (0, 0))) := Lib.hid (MapKept.heap_alloc wn2 _).1
         refine hK.out _ _ (HXE.out) (fun hHe => ?_)
         clear hK K
         have hsz := HXG.out.size
         refine wpAnyH_done (by kernel_rfl) ?_ _
         go_wp2_with fail
         go_meet
         case rel => exact ⟨wn2.heap.size, rfl, (by have := HSB.out; omega), HXE, HRE⟩
       · go_simp
         have HAR : Hid ((World.alloc w4.drew (.cells #[.int .i64 0, .int .i64 0] 24)).heap[w4.heap.size]? = some (.cells #[.int .i64 0, .int .i64 0] 24 (0, 0))) := (by unfold Hid; have := (MapKept.heap_alloc w4.drew (.cells #[.int .i64 0, .int .i64 0] 24)).1; rw [show w4.drew.heap.size = w4.heap.size from HSB.out] at this; exact this)
         replace HXC := Lib.hid (HXC.out.alloc (.cells #[.int .i64 0, .int .i64 0] 24))
         refine hK.out _ _ (HXC.out) (fun hHe => ?_)
         clear hK K
         try simp only [Act.put, nm]
         refine rdH 16 (fun K hK => ?_)
         go_simp
         refine (HAT2.out _).mono ?_
         rintro e wn2 ⟨rfl, hgn⟩
         replace HXC := Lib.hid (HXC.out.trans hgn.xt)
         replace HAR := Lib.hid (rowX hgn.xt HAR.out)
         refine hK.out _ _ (HXC.out) (fun hHe => ?_)
         clear hK K hgn
         obtain ⟨z0, z1, z2, z3⟩ := cells2 HAR.out
         refine rdH 18 (fun K hK => ?_)
         go_simp
         have HXE : Hid (Xt w4 ((wn2.setCell ⟨w4.heap.size, 0, none⟩ (.int .i64 q3)).setCell ⟨w4.heap.size, 1, none⟩ (.int .i64 q4))) := Lib.hid ((HXC.out.grownB (setCell_grown _ _ _ _) (fun q hq => by cases hq; have := HSB.out; omega)).grownB (setCell_grown _ _ _ _) (fun q hq => by cases hq; have := HSB.out; omega))
         have HRE : Hid (((wn2.setCell ⟨w4.heap.size, 0, none⟩ (.int .i64 q3)).setCell ⟨w4.heap.size, 1, none⟩ (.int .i64 q4)).heap[w4.heap.size]? = some (.cells #[.int .i64 q3, .int .i64 q4] 24 (0, 0))) := Lib.hid (setCell_row (setCell_row HAR.out 0 _) 1 _)
         refine hK.out _ _ (HXE.out) (fun hHe => ?_)
         clear hK K
         refine wpAnyH_done (by kernel_rfl) ?_ _
         go_wp2_with fail
         go_meet
         case rel => exact ⟨w4.heap.size, rfl, (by have := HSB.out; omega), HXE, HRE⟩
     · go_simp
       have HAR : Hid ((World.alloc w4.drew (.cells #[.int .i64 0, .int .i64 0] 24)).heap[w4.heap.size]? = some (.cells #[.int .i64 0, .int .i64 0] 24 (0, 0))) := (by unfold Hid; have := (MapKept.heap_alloc w4.drew (.cells #[.int .i64 0, .int .i64 0] 24)).1; rw [show w4.drew.heap.size = w4.heap.size from HSB.out] at this; exact this)
       replace HXC := Lib.hid (HXC.out.alloc (.cells #[.int .i64 0, .int .i64 0] 24))
       refine hK.out _ _ (HXC.out) (fun hHe => ?_)
       clear hK K
       try simp only [Act.put, nm]
       refine rdH 14 (fun K hK => ?_)
       go_simp
       refine (HP4.out _).mono ?_
       rintro e w' ⟨rfl, rfl⟩
       refine hK.out _ _ (HXC.out) (fun hHe => ?_)
       clear hK K
       try simp only [Act.put, nm]
       refine tkH 15 ?_ ?_ ?_
       rotate_left
       · intro V hSw; obtain ⟨u0, u1, u2, u3, u4, u5, u6, u7, u8, u9, u10⟩ := HG2.out V hSw; go_simp; first | done | with_reducible rfl
       try simp only [Act.put, nm]
       refine rdH 16 (fun K hK => ?_)
       go_simp
       refine (HAT2.out _).mono ?_
       rintro e wn2 ⟨rfl, hgn⟩
       replace HXC := Lib.hid (HXC.out.trans hgn.xt)
       replace HAR := Lib.hid (rowX hgn.xt HAR.out)
       refine hK.out _ _ (HXC.out) (fun hHe => ?_)
       clear hK K hgn
       obtain ⟨z0, z1, z2, z3⟩ := cells2 HAR.out
       refine rdH 18 (fun K hK => ?_)
       go_simp
       have HXE : Hid (Xt w4 ((wn2.setCell ⟨w4.heap.size, 0, none⟩ (.int .i64 q3)).setCell ⟨w4.heap.size, 1, none⟩ (.int .i64 q4))) := Lib.hid ((HXC.out.grownB (setCell_grown _ _ _ _) (fun q hq => by cases hq; have := HSB.out; omega)).grownB (setCell_grown _ _ _ _) (fun q hq => by cases hq; have := HSB.out; omega))
       have HRE : Hid (((wn2.setCell ⟨w4.heap.size, 0, none⟩ (.int .i64 q3)).setCell ⟨w4.heap.size, 1, none⟩ (.int .i64 q4)).heap[w4.heap.size]? = some (.cells #[.int .i64 q3, .int .i64 q4] 24 (0, 0))) := Lib.hid (setCell_row (setCell_row HAR.out 0 _) 1 _)
       refine hK.out _ _ (HXE.out) (fun hHe => ?_)
       clear hK K
       refine wpAnyH_done (by kernel_rfl) ?_ _
       go_wp2_with fail
       go_meet
       case rel => exact ⟨w4.heap.size, rfl, (by have := HSB.out; omega), HXE, HRE⟩
   · go_simp
     have HAR : Hid ((World.alloc w4.drew (.cells #[.int .i64 0, .int .i64 0] 24)).heap[w4.heap.size]? = some (.cells #[.int .i64 0, .int .i64 0] 24 (0, 0))) := (by unfold Hid; have := (MapKept.heap_alloc w4.drew (.cells #[.int .i64 0, .int .i64 0] 24)).1; rw [show w4.drew.heap.size = w4.heap.size from HSB.out] at this; exact this)
     replace HXC := Lib.hid (HXC.out.alloc (.cells #[.int .i64 0, .int .i64 0] 24))
     refine hK.out _ _ (HXC.out) (fun hHe => ?_)
     clear hK K
     try simp only [Act.put, nm]
     refine rdH 6 (fun K hK => ?_)
     go_simp
     refine (HP3.out _).mono ?_
     rintro e w' ⟨rfl, rfl⟩
     refine hK.out _ _ (HXC.out) (fun hHe => ?_)
     clear hK K
     try simp only [Act.put, nm]
     refine tkH 7 ?_ ?_ ?_
     rotate_left
     · intro V hSw; obtain ⟨u0, u1, u2, u3, u4, u5, u6, u7, u8, u9, u10⟩ := HG2.out V hSw; go_simp; first | done | with_reducible rfl
     try simp only [Act.put, nm]
     refine rdH 14 (fun K hK => ?_)
     go_simp
     refine (HP4.out _).mono ?_
     rintro e w' ⟨rfl, rfl⟩
     refine hK.out _ _ (HXC.out) (fun hHe => ?_)
     clear hK K
     try simp only [Act.put, nm]
     refine tkH 15 ?_ ?_ ?_
     rotate_left
     · intro V hSw; obtain ⟨u0, u1, u2, u3, u4, u5, u6, u7, u8, u9, u10⟩ := HG2.out V hSw; go_simp; first | done | with_reducible rfl
     try simp only [Act.put, nm]
     refine rdH 16 (fun K hK => ?_)
     go_simp
     refine (HAT2.out _).mono ?_
     rintro e wn2 ⟨rfl, hgn⟩
     replace HXC := Lib.hid (HXC.out.trans hgn.xt)
     replace HAR := Lib.hid (rowX hgn.xt HAR.out)
     refine hK.out _ _ (HXC.out) (fun hHe => ?_)
     clear hK K hgn
     obtain ⟨z0, z1, z2, z3⟩ := cells2 HAR.out
     refine rdH 18 (fun K hK => ?_)
     go_simp
     have HXE : Hid (Xt w4 ((wn2.setCell ⟨w4.heap.size, 0, none⟩ (.int .i64 q3)).setCell ⟨w4.heap.size, 1, none⟩ (.int .i64 q4))) := Lib.hid ((HXC.out.grownB (setCell_grown _ _ _ _) (fun q hq => by cases hq; have := HSB.out; omega)).grownB (setCell_grown _ _ _ _) (fun q hq => by cases hq; have := HSB.out; omega))
     have HRE : Hid (((wn2.setCell ⟨w4.heap.size, 0, none⟩ (.int .i64 q3)).setCell ⟨w4.heap.size, 1, none⟩ (.int .i64 q4)).heap[w4.heap.size]? = some (.cells #[.int .i64 q3, .int .i64 q4] 24 (0, 0))) := Lib.hid (setCell_row (setCell_row HAR.out 0 _) 1 _)
     refine hK.out _ _ (HXE.out) (fun hHe => ?_)
     clear hK K
     refine wpAnyH_done (by kernel_rfl) ?_ _
     go_wp2_with fail
     go_meet
     case rel => exact ⟨w4.heap.size, rfl, (by have := HSB.out; omega), HXE, HRE⟩
  case rest =>
   obtain ⟨k5, rfl, hk5, HX5, HK5⟩ := hcut
   obtain ⟨w5, hw5⟩ : ∃ w5, w5 = wc := ⟨_, rfl⟩
   subst hw5
   go_upto_region 3 with fail
   have HG3 : Hid (∀ V : World, (V.heap[B]? = some (.cells #[.int .i64 kk, .int .i64 aa, .int .i64 nn, .int .i64 x.a, .int .i64 x.b, .int .i64 x.c, .int .i64 x.d, .int .i64 g.1, .int .i64 g.2] 28 (0, 0)) ∧ V.heap[k4]? = some (.cells #[.int .i64 q1, .int .i64 q2] 24 (0, 0)) ∧ V.heap[k5]? = some (.cells #[.int .i64 q3, .int .i64 q4] 24 (0, 0))) → V.cell? ⟨k5, 0, none⟩ = some (.int .i64 q3) ∧ V.cell? ⟨k5, 1, none⟩ = some (.int .i64 q4) ∧ V.cell? ⟨k4, 0, none⟩ = some (.int .i64 q1) ∧ V.cell? ⟨k4, 1, none⟩ = some (.int .i64 q2) ∧ V.cell? ⟨B, 0, none⟩ = some (.int .i64 kk) ∧ V.cell? ⟨B, 1, none⟩ = some (.int .i64 aa) ∧ V.cell? ⟨B, 2, none⟩ = some (.int .i64 nn) ∧ V.cell? ⟨B, 3, none⟩ = some (.int .i64 x.a) ∧ V.cell? ⟨B, 4, none⟩ = some (.int .i64 x.b) ∧ V.cell? ⟨B, 5, none⟩ = some (.int .i64 x.c) ∧ V.cell? ⟨B, 6, none⟩ = some (.int .i64 x.d) ∧ V.cell? ⟨B, 7, none⟩ = some (.int .i64 g.1) ∧ V.cell? ⟨B, 8, none⟩ = some (.int .i64 g.2)) := Lib.hid fun V hV => by
    obtain ⟨e0, e1, _, _⟩ := cells2 hV.2.1
    obtain ⟨g0, g1, _, _⟩ := cells2 hV.2.2
    exact ⟨g0, g1, e0, e1, HF.out V hV.1⟩
   have hs5 := HX5.out.size
   have HS5 : Hid (∀ V, Xt w5 V → V.heap[B]? = some (.cells #[.int .i64 kk, .int .i64 aa, .int .i64 nn, .int .i64 x.a, .int .i64 x.b, .int .i64 x.c, .int .i64 x.d, .int .i64 g.1, .int .i64 g.2] 28 (0, 0)) ∧ V.heap[k4]? = some (.cells #[.int .i64 q1, .int .i64 q2] 24 (0, 0)) ∧ V.heap[k5]? = some (.cells #[.int .i64 q3, .int .i64 q4] 24 (0, 0))) := Lib.hid fun V hV => ⟨rowX ((HX4.out.trans HX5.out).trans hV) HR0.out, rowX (HX5.out.trans hV) HK4.out, rowX hV HK5.out⟩
   have HXC := Lib.hid ((Xt.refl w5).drew)
   refine wp_region_held_drew (S := fun V => V.heap[B]? = some (.cells #[.int .i64 kk, .int .i64 aa, .int .i64 nn, .int .i64 x.a, .int .i64 x.b, .int .i64 x.c, .int .i64 x.d, .int .i64 g.1, .int .i64 g.2] 28 (0, 0)) ∧ V.heap[k4]? = some (.cells #[.int .i64 q1, .int .i64 q2] 24 (0, 0)) ∧ V.heap[k5]? = some (.cells #[.int .i64 q3, .int .i64 q4] 24 (0, 0))) (by kernel_rfl) (HS5.out _ HXC.out) (fun hHeld => ?_)
   refine tkH 0 ?_ ?_ ?_
   rotate_left
   · intro V hSw; obtain ⟨u0, u1, u2, u3, u4, u5, u6, u7, u8, u9, u10, u11, u12⟩ := HG3.out V hSw; go_simp; first | done | with_reducible rfl
   try simp only [Act.put, nm]
   refine tkH 1 ?_ ?_ ?_
   rotate_left
   · intro V hSw; obtain ⟨u0, u1, u2, u3, u4, u5, u6, u7, u8, u9, u10, u11, u12⟩ := HG3.out V hSw; go_simp; first | done | with_reducible rfl
   try simp only [Act.put, nm]
   refine tkH 2 ?_ ?_ ?_
   rotate_left
   · intro V hSw; obtain ⟨u0, u1, u2, u3, u4, u5, u6, u7, u8, u9, u10, u11, u12⟩ := HG3.out V hSw; go_simp; first | done | with_reducible rfl
   try simp only [Act.put, nm]
   refine tkH 3 ?_ ?_ ?_
   rotate_left
   · intro V hSw; obtain ⟨u0, u1, u2, u3, u4, u5, u6, u7, u8, u9, u10, u11, u12⟩ := HG3.out V hSw; go_simp; first | done | with_reducible rfl
   try simp only [Act.put, nm]
   refine tkH 4 ?_ ?_ ?_
   rotate_left
   · intro V hSw; obtain ⟨u0, u1, u2, u3, u4, u5, u6, u7, u8, u9, u10, u11, u12⟩ := HG3.out V hSw; go_simp; first | done | with_reducible rfl
   try simp only [Act.put, nm]
   refine tkH 5 ?_ ?_ ?_
   rotate_left
   · intro V hSw; obtain ⟨u0, u1, u2, u3, u4, u5, u6, u7, u8, u9, u10, u11, u12⟩ := HG3.out V hSw; go_simp; first | done | with_reducible rfl
   try simp only [Act.put, nm]
   refine tkH 8 ?_ ?_ ?_
   rotate_left
   · intro V hSw; obtain ⟨u0, u1, u2, u3, u4, u5, u6, u7, u8, u9, u10, u11, u12⟩ := HG3.out V hSw; go_simp; first | done | with_reducible rfl
   try simp only [Act.put, nm]
   refine tkH 9 ?_ ?_ ?_
   rotate_left
   · intro V hSw; obtain ⟨u0, u1, u2, u3, u4, u5, u6, u7, u8, u9, u10, u11, u12⟩ := HG3.out V hSw; go_simp; first | done | with_reducible rfl
   try simp only [Act.put, nm]
   refine tkH 10 ?_ ?_ ?_
   rotate_left
   · intro V hSw; obtain ⟨u0, u1, u2, u3, u4, u5, u6, u7, u8, u9, u10, u11, u12⟩ := HG3.out V hSw; go_simp; first | done | with_reducible rfl
   try simp only [Act.put, nm]
   refine rdH 6 (fun K hK => ?_)
   go_simp
   refine (HP5.out _).mono ?_
   rintro e w' ⟨rfl, rfl⟩
   refine hK.out _ _ (HS5.out _ HXC.out) (fun hHe => ?_)
   clear hK K
   try simp only [Act.put, nm]
   refine tkH 7 ?_ ?_ ?_
   rotate_left
   · intro V hSw; obtain ⟨u0, u1, u2, u3, u4, u5, u6, u7, u8, u9, u10, u11, u12⟩ := HG3.out V hSw; go_simp; first | done | with_reducible rfl
   try simp only [Act.put, nm]
   refine rdH 11 (fun K hK => ?_)
   go_simp
   refine (HP6.out _).mono ?_
   rintro e w' ⟨rfl, rfl⟩
   refine hK.out _ _ (HS5.out _ HXC.out) (fun hHe => ?_)
   clear hK K
   try simp only [Act.put, nm]
   refine tkH 12 ?_ ?_ ?_
   rotate_left
   · intro V hSw; obtain ⟨u0, u1, u2, u3, u4, u5, u6, u7, u8, u9, u10, u11, u12⟩ := HG3.out V hSw; go_simp; first | done | with_reducible rfl
   try simp only [Act.put, nm]
   refine rdH 13 (fun K hK => ?_)
   go_simp
   refine (HAT3.out _).mono ?_
   rintro e w6 ⟨rfl, hg6⟩
   have HX6 : Hid (Xt w5 w6) := HXC.out.trans hg6.xt
   replace HXC := HX6
   have hr1 := rowX ((HX4.out.trans HX5.out).trans HX6.out) HR1.out
   have hr2 := rowX ((HX4.out.trans HX5.out).trans HX6.out) HR2.out
   obtain ⟨⟨y0, y1, y2, y3⟩, ⟨f0, f1, f2, f3⟩⟩ := cells4 hr1
   refine hK.out _ _ (HS5.out _ HXC.out) (fun hHe => ?_)
   clear hK K hg6
   refine rdH 14 (fun K hK => ?_)
   go_simp
   obtain ⟨v1, hv1⟩ : ∃ v1, ((((w6.setCell ⟨B + 1, 0, none⟩ (.int .i64 q1)).setCell ⟨B + 1, 1, none⟩ (.int .i64 q2)).setCell ⟨B + 1, 2, none⟩ (.int .i64 q3)).setCell ⟨B + 1, 3, none⟩ (.int .i64 q4)) = v1 := ⟨_, rfl⟩
   have hb1 : ∀ k, k ≠ B + 1 → v1.heap[k]? = w6.heap[k]? := fun k hk => by rw [← hv1]; exact (Below.heap_setCell _ _ _ _ (by simp [hk])).trans ((Below.heap_setCell _ _ _ _ (by simp [hk])).trans ((Below.heap_setCell _ _ _ _ (by simp [hk])).trans (Below.heap_setCell _ _ _ _ (by simp [hk]))))
   have hra : v1.heap[B + 1]? = some (.cells #[.int .i64 q1, .int .i64 q2, .int .i64 q3, .int .i64 q4] 26 (0, 0)) := by rw [← hv1]; exact setCell_row (setCell_row (setCell_row (setCell_row hr1 0 _) 1 _) 2 _) 3 _
   have hrb : v1.heap[B + 1 + 1]? = some (.cells #[.int .i64 0, .int .i64 0] 24 (0, 0)) := (hb1 _ (by omega)).trans hr2
   have hs6 := HXC.out.size
   have hs4 := HX4.out.size
   have HSV1 : Hid (v1.heap[B]? = some (.cells #[.int .i64 kk, .int .i64 aa, .int .i64 nn, .int .i64 x.a, .int .i64 x.b, .int .i64 x.c, .int .i64 x.d, .int .i64 g.1, .int .i64 g.2] 28 (0, 0)) ∧ v1.heap[k4]? = some (.cells #[.int .i64 q1, .int .i64 q2] 24 (0, 0)) ∧ v1.heap[k5]? = some (.cells #[.int .i64 q3, .int .i64 q4] 24 (0, 0))) := Lib.hid ⟨(hb1 _ (by omega)).trans (HS5.out _ HXC.out).1, (hb1 _ (by omega)).trans (HS5.out _ HXC.out).2.1, (hb1 _ (by omega)).trans (HS5.out _ HXC.out).2.2⟩
   have HXV : Hid (Xt w v1) := by
    unfold Hid; rw [← hv1]
    have hone : ∀ (A : World) (o : Nat) (u : Value), Xt w A → Xt w (A.setCell ⟨B + 1, o, none⟩ u) := fun A o u h => h.grownB (setCell_grown _ _ _ _) (fun q hq => by cases hq; rw [hB]; omega)
    exact hone _ _ _ (hone _ _ _ (hone _ _ _ (hone _ _ _ (((HX2.out.trans HX4.out).trans HX5.out).trans HXC.out))))
   rw [hv1]
   refine hK.out _ _ HSV1.out (fun hHeA => ?_)
   clear hK K
   try simp only [Act.put, nm]
   obtain ⟨r0, r1, r2, r3⟩ := cells2 hrb
   refine rdH 15 (fun K hK => ?_)
   go_simp
   obtain ⟨v2, hv2⟩ : ∃ v2, ((v1.setCell ⟨B + 1 + 1, 0, none⟩ (.int .i64 q5)).setCell ⟨B + 1 + 1, 1, none⟩ (.int .i64 q6)) = v2 := ⟨_, rfl⟩
   have hb2 : ∀ k, k ≠ B + 1 + 1 → v2.heap[k]? = v1.heap[k]? := fun k hk => by rw [← hv2]; exact (Below.heap_setCell _ _ _ _ (by simp [hk])).trans (Below.heap_setCell _ _ _ _ (by simp [hk]))
   have HSV2 : Hid (v2.heap[B]? = some (.cells #[.int .i64 kk, .int .i64 aa, .int .i64 nn, .int .i64 x.a, .int .i64 x.b, .int .i64 x.c, .int .i64 x.d, .int .i64 g.1, .int .i64 g.2] 28 (0, 0)) ∧ v2.heap[k4]? = some (.cells #[.int .i64 q1, .int .i64 q2] 24 (0, 0)) ∧ v2.heap[k5]? = some (.cells #[.int .i64 q3, .int .i64 q4] 24 (0, 0))) := Lib.hid ⟨(hb2 _ (by omega)).trans HSV1.out.1, (hb2 _ (by omega)).trans HSV1.out.2.1, (hb2 _ (by omega)).trans HSV1.out.2.2⟩
   have hrb2 : v2.heap[B + 1 + 1]? = some (.cells #[.int .i64 q5, .int .i64 q6] 24 (0, 0)) := by rw [← hv2]; exact setCell_row (setCell_row hrb 0 _) 1 _
   have hra2 := (hb2 (B + 1) (by omega)).trans hra
   have HXE : Hid (Xt w v2) := by
    unfold Hid; rw [← hv2]
    have hone : ∀ (A : World) (o : Nat) (u : Value), Xt w A → Xt w (A.setCell ⟨B + 1 + 1, o, none⟩ u) := fun A o u h => h.grownB (setCell_grown _ _ _ _) (fun q hq => by cases hq; rw [hB]; omega)
    exact hone _ _ _ (hone _ _ _ HXV.out)
   rw [hv2]
   refine hK.out _ _ HSV2.out (fun hHeB => ?_)
   clear hK K
   refine wpAnyH_done (by kernel_rfl) ?_ _
   go_wp2_with fail
   (try simp only [Exit.inBlock, Exit.then])
   refine bodyPost_ret (results_two rfl _ _ (B + 1) (B + 1 + 1) (.agg #[.int .i64 q1, .int .i64 q2, .int .i64 q3, .int .i64 q4]) (.agg #[.int .i64 q5, .int .i64 q6]) rfl rfl (run_loadVar_row _ _ _ 26 _ _ _ hra2 Tryz.underlying26 rfl (by kernel_rfl)) (run_loadVar_row _ _ _ 24 _ _ _ hrb2 Tryz.underlying24 rfl (by kernel_rfl))) rfl ⟨rfl, HXE.out⟩
end Go.Proofs.YtdoeejhdenifpaaGreatDoor
