/- MoveRefuses' walk (made by mkt11.py). -/
import Derived.Test.YtdoeejhdenifpaaGreatDoorZ1
import Derived.Test.YtdoeejhdenifpaaGreatDoorA16
import Derived.Test.YtdoeejhdenifpaaGreatDoorA11
import Derived.Deep.CutBlock
import Derived.Deep.DeepCutAuto
namespace Go.Proofs.YtdoeejhdenifpaaGreatDoor
open Go.RowKit Go.Sort Go.Maps Go.Shelf Go.MapKept
attribute [local go_sem] Oper.semAt_some
theorem at2_any (i j : Int) (w : World) : Calls Tryz.prog 14 #[.int .i64 i, .int .i64 j] w fun e w' => e = .returned (.agg #[.int .i64 i, .int .i64 j]) ∧ Gr w w' := at_any (i, j) w
def truthC : ContT := ⟨1, ⟨3, 0, ⟨#[]⟩, false, 0⟩, .mk 0 0 0 ⟨#[]⟩ false 0 ⟨(0, 0), false, false⟩ ⟨(0, 0), false, false⟩ []⟩
theorem truth_ok : truthC.ok := by simp [ContT.ok, truthC, NodeT.ok, okL, ByteArray.size]
theorem truth_small : smallT truthC.t := by simp [truthC, smallT, smallL]
theorem truth_good : gvalidB truthC = true ∧ (truthC.kind == 0) = false ∧ truthC.ok := ⟨by kernel_rfl, by kernel_rfl, truth_ok⟩
theorem brR_bad {cols : Bool} {a n : Int} {M : GM} {w : World} {e : Ending} {w' : World} (h : BrR cols a n M w e w') (hb : (madeL (manyL cols) a n).2 = false) : e = .returned (.tuple #[.pointer none, .int .i64 1]) ∧ Xt w w' := by
 obtain ⟨hx, ⟨_, h1⟩ | ⟨h1, _⟩⟩ := h
 · exact ⟨h1, hx⟩
 · rw [hb] at h1; cases h1
theorem cols11_any (at_ n : Int) (gb mb : Nat) (M : GM) (w : World) (hG : GridIs w gb mb M) (hT : Tabs w) (hO : GOk (er M)) :
    Calls Tryz.prog 34 #[.pointer (some ⟨gb, 0, none⟩), .int .i64 at_, .int .i64 n] w (BrR true at_ n M w) := by
 have HB := Lib.hid (brought_any true at_ n gb mb M w hG hT hO)
 go_enter Tryz.func34, Tryz.ntmps34
 go_wp2_with (first | (go_at_call 73; refine (HB.out).mono ?_; rintro e w1 ⟨hx, (⟨h1, rfl⟩ | ⟨h1, (⟨h2, rfl⟩ | ⟨h2, go, mo, Mo, rfl, h3⟩)⟩)⟩))
 · go_ret2
   exact ⟨hx, Or.inl ⟨h1, rfl⟩⟩
 · go_ret2
   exact ⟨hx, Or.inr ⟨h1, Or.inl ⟨h2, rfl⟩⟩⟩
 · go_ret2
   exact ⟨hx, Or.inr ⟨h1, Or.inr ⟨h2, go, mo, Mo, rfl, h3⟩⟩⟩
set_option maxRecDepth 100000 in
set_option maxHeartbeats 16000000 in
theorem moveRefuses_any (l : List PI) (lv : Value) (kk aa nn : Int) (x : ArT) (y : Ad) (w : World) (hT : Tabs w) (hl : PutsIn w lv l) (hs : ∀ x ∈ l, smallT x.c.t) (hb : I64 x.a ∧ I64 x.b ∧ I64 x.c ∧ I64 x.d ∧ I64 y.1 ∧ I64 y.2) (ha : I64 aa) (hn : I64 nn) :
    Calls Tryz.prog 7 #[lv, .agg #[.int .i64 kk, .int .i64 aa, .int .i64 nn, .int .i64 x.a, .int .i64 x.b, .int .i64 x.c, .int .i64 x.d, .int .i64 y.1, .int .i64 y.2]] w fun e w' => e = .returned (.bool true) ∧ Xt w w' := by
 obtain ⟨la, lc, rfl, hlc, hlc2⟩ := hl.shape
 have HOK0 := Lib.hid (fun M (hE : er M = allP [] (pis l)) => (show GOk (er M) by rw [hE]; exact allP_ok GOk.nil (pis_ok hl)))
 have HT := Lib.hid hT
 have HL := Lib.hid hl
 have HS := Lib.hid hs
 have HSM := Lib.hid (fun V => small_any kk aa nn x y V hb)
 have hmv := small_mv9 x y
 obtain ⟨f, hf⟩ : ∃ f, smallA x = f := ⟨_, rfl⟩
 obtain ⟨g, hg⟩ : ∃ g, smallC y = g := ⟨_, rfl⟩
 rw [hf, hg] at HSM hmv
 have HFB : Hid (1 ≤ f.a ∧ f.a ≤ f.c ∧ f.c ≤ 12 ∧ 1 ≤ f.b ∧ f.b ≤ f.d ∧ f.d ≤ 12) := ⟨hmv.x0, hmv.x1, hmv.x2, hmv.y0, hmv.y1, hmv.y2⟩
 have HVF : Hid (validA f.a f.b f.c f.d = true) := hmv.vf
 obtain ⟨B, hB⟩ : ∃ B, w.heap.size = B := ⟨_, rfl⟩
 obtain ⟨w0, hw0⟩ : ∃ w0, w.alloc (.cells #[.int .i64 kk, .int .i64 aa, .int .i64 nn, .int .i64 x.a, .int .i64 x.b, .int .i64 x.c, .int .i64 x.d, .int .i64 y.1, .int .i64 y.2] 28) = w0 := ⟨_, rfl⟩
 have HX0 : Hid (Xt w w0) := by unfold Hid; rw [← hw0]; exact (Xt.refl _).alloc _
 have HR0 : Hid (w0.heap[B]? = some (.cells #[.int .i64 kk, .int .i64 aa, .int .i64 nn, .int .i64 x.a, .int .i64 x.b, .int .i64 x.c, .int .i64 x.d, .int .i64 y.1, .int .i64 y.2] 28 (0, 0))) := by unfold Hid; rw [← hw0, ← hB]; exact (MapKept.heap_alloc w _).1
 have HB8 : Hid (I64 y.1 ∧ I64 y.2) := ⟨hb.2.2.2.2.1, hb.2.2.2.2.2⟩
 clear hT hl hs hb hf hg hmv
 go_enter Tryz.func7, Tryz.ntmps7
 go_upto_region 7 with (first
  | (go_at_call 8; refine (made22_any l (.slice la l.length lc) w0 (HT.out.xt HX0.out) (HL.out.xt HX0.out) HS.out).mono ?_; rintro e w2 ⟨gb, mb, M, rfl, hG, hE, hx2⟩; have HX02 : Hid (Xt w0 w2) := hx2; have HG2 := Lib.hid hG; have HE := Lib.hid hE; have HOG := Lib.hid (HOK0.out M hE); clear hG hE hx2)
  | (go_at_call 9; refine (known_any _ (HT.out.xt (HX0.out.trans HX02.out))).mono ?_; rintro e w4 ⟨rfl, hx4⟩; have HX04 : Hid (Xt w0 w4) := HX02.out.trans hx4; have HX24 : Hid (Xt w2 w4) := hx4; clear hx4)
  | (go_at_call 31; refine (gclone_any gb mb M w4 (HG2.out.xt HX24.out)).mono ?_; rintro e w5 ⟨rfl, hGw, hx5⟩; obtain ⟨gw, hgw⟩ : ∃ gw, w4.heap.size + 1 = gw := ⟨_, rfl⟩; obtain ⟨mw, hmw⟩ : ∃ mw, w4.heap.size = mw := ⟨_, rfl⟩; rw [hgw, hmw] at hGw; try rw [hgw]; have HX05 : Hid (Xt w0 w5) := HX04.out.trans hx5; have HX25 : Hid (Xt w2 w5) := HX24.out.trans hx5; have HGW := Lib.hid hGw; obtain ⟨z0, z1, z2, z3, z4, z5, z6, z7, z8⟩ := cells9 (rowX HX05.out HR0.out); clear hx5 hGw hgw hmw)
  | (go_at_call 10; refine (HSM.out _).mono ?_; rintro e w6 ⟨rfl, hx6⟩; have HX56 : Hid (Xt w5 w6) := hx6; obtain ⟨K6, hK6⟩ : ∃ K, w6.heap.size = K := ⟨_, rfl⟩; obtain ⟨w7, hw7⟩ : ∃ w7, (w6.alloc (.cells #[.int .i64 f.a, .int .i64 f.b, .int .i64 f.c, .int .i64 f.d] 26)).alloc (.cells #[.int .i64 g.1, .int .i64 g.2] 24) = w7 := ⟨_, rfl⟩; have HX57 : Hid (Xt w5 w7) := (by unfold Hid; rw [← hw7]; exact (HX56.out.alloc _).alloc _); have HRF : Hid (w7.heap[K6]? = some (.cells #[.int .i64 f.a, .int .i64 f.b, .int .i64 f.c, .int .i64 f.d] 26 (0, 0))) := rowX (w := w6.alloc (.cells #[.int .i64 f.a, .int .i64 f.b, .int .i64 f.c, .int .i64 f.d] 26)) (by rw [← hw7]; exact (Xt.refl _).alloc _) (by rw [← hK6]; exact (MapKept.heap_alloc w6 _).1); have HRG : Hid (w7.heap[K6 + 1]? = some (.cells #[.int .i64 g.1, .int .i64 g.2] 24 (0, 0))) := (by unfold Hid; rw [← hw7]; have := (MapKept.heap_alloc (w6.alloc (.cells #[.int .i64 f.a, .int .i64 f.b, .int .i64 f.c, .int .i64 f.d] 26)) (.cells #[.int .i64 g.1, .int .i64 g.2] 24)).1; simpa [hK6] using this); have HXC : Hid (Xt w7 w7) := Xt.refl _; clear hx6)
  | (go_at_call 14; refine (at2_any _ _ _).mono ?_; rintro e wv ⟨rfl, hv⟩; replace HXC := Lib.hid (HXC.out.trans hv.xt); clear hv))
 obtain ⟨k9, hk9⟩ : ∃ k, wv.heap.size = k := ⟨_, rfl⟩
 obtain ⟨v7, hv7⟩ : ∃ v, wv.alloc (.cells #[.int .i64 0, .int .i64 0, .int .i64 0, .int .i64 0, .int .i64 2, .int .i64 2, .int .i64 1, .int .i64 2, .int .i64 2, .int .i64 2, .int .i64 2, .int .i64 1, .int .i64 0, .int .i64 1, .int .i64 3, .int .i64 3, .int .i64 1, .int .i64 1, .int .i64 257, .int .i64 1, .int .i64 1, .int .i64 1, .int .i64 1, .int .i64 4097] 26) = v := ⟨_, rfl⟩
 have HX77 : Hid (Xt w7 v7) := by unfold Hid; rw [← hv7]; exact HXC.out.alloc _
 have HRA : Hid (v7.heap[k9]? = some (.cells #[.int .i64 0, .int .i64 0, .int .i64 0, .int .i64 0, .int .i64 2, .int .i64 2, .int .i64 1, .int .i64 2, .int .i64 2, .int .i64 2, .int .i64 2, .int .i64 1, .int .i64 0, .int .i64 1, .int .i64 3, .int .i64 3, .int .i64 1, .int .i64 1, .int .i64 257, .int .i64 1, .int .i64 1, .int .i64 1, .int .i64 1, .int .i64 4097] 26 (0, 0))) := by unfold Hid; rw [← hv7, ← hk9]; exact (MapKept.heap_alloc wv _).1
 try simp only [hk9]
 try simp only [hv7]
 clear hk9 hv7
 have HX07 : Hid (Xt w0 v7) := (HX05.out.trans HX57.out).trans HX77.out
 obtain ⟨z0, z1, z2, z3, z4, z5, z6, z7, z8⟩ := cells9 (rowX HX07.out HR0.out)
 obtain ⟨ix, hix⟩ : ∃ ix, pickZ nn 6 = ix := ⟨_, rfl⟩
 have hr6 := pickZ_lt (c := nn) (n := 6) (by omega)
 have HPK := Lib.hid (fun V => pickz_any nn 6 V hn.1 hn.2 (by omega) (by omega))
 rw [hix] at hr6 HPK
 have h6 : ix = 0 ∨ ix = 1 ∨ ix = 2 ∨ ix = 3 ∨ ix = 4 ∨ ix = 5 := by omega
 clear hix hr6
 go_cut [10] from 74 to 81 (fun s10 wr => ∃ (k : Nat) (ar : ArT), s10 = .pointer (some ⟨k, 0, none⟩) ∧ Hid (Xt v7 wr) ∧ Hid (wr.heap[k]? = some (.cells #[.int .i64 ar.a, .int .i64 ar.b, .int .i64 ar.c, .int .i64 ar.d] 26 (0, 0))) ∧ Hid (validA ar.a ar.b ar.c ar.d = false))
 case first =>
  rcases h6 with rfl | rfl | rfl | rfl | rfl | rfl
  · obtain ⟨c0, c1, c2, c3⟩ : v7.cell? ⟨k9, 0, none⟩ = some (.int .i64 0) ∧ v7.cell? ⟨k9, 1, none⟩ = some (.int .i64 0) ∧ v7.cell? ⟨k9, 2, none⟩ = some (.int .i64 0) ∧ v7.cell? ⟨k9, 3, none⟩ = some (.int .i64 0) := by simp [World.cell?, HRA.out]
    go_wp2_with (first | (go_at_call 32; refine (HPK.out _).mono ?_; rintro e w' ⟨rfl, rfl⟩))
    go_meet
    case rel => exact ⟨v7.heap.size, ⟨(0), (0), (0), (0)⟩, rfl, (Xt.refl v7).alloc _, (MapKept.heap_alloc v7 _).1, by unfold Hid; decide⟩
  · obtain ⟨c0, c1, c2, c3⟩ : v7.cell? ⟨k9, 4, none⟩ = some (.int .i64 2) ∧ v7.cell? ⟨k9, 5, none⟩ = some (.int .i64 2) ∧ v7.cell? ⟨k9, 6, none⟩ = some (.int .i64 1) ∧ v7.cell? ⟨k9, 7, none⟩ = some (.int .i64 2) := by simp [World.cell?, HRA.out]
    go_wp2_with (first | (go_at_call 32; refine (HPK.out _).mono ?_; rintro e w' ⟨rfl, rfl⟩))
    go_meet
    case rel => exact ⟨v7.heap.size, ⟨(2), (2), (1), (2)⟩, rfl, (Xt.refl v7).alloc _, (MapKept.heap_alloc v7 _).1, by unfold Hid; decide⟩
  · obtain ⟨c0, c1, c2, c3⟩ : v7.cell? ⟨k9, 8, none⟩ = some (.int .i64 2) ∧ v7.cell? ⟨k9, 9, none⟩ = some (.int .i64 2) ∧ v7.cell? ⟨k9, 10, none⟩ = some (.int .i64 2) ∧ v7.cell? ⟨k9, 11, none⟩ = some (.int .i64 1) := by simp [World.cell?, HRA.out]
    go_wp2_with (first | (go_at_call 32; refine (HPK.out _).mono ?_; rintro e w' ⟨rfl, rfl⟩))
    go_meet
    case rel => exact ⟨v7.heap.size, ⟨(2), (2), (2), (1)⟩, rfl, (Xt.refl v7).alloc _, (MapKept.heap_alloc v7 _).1, by unfold Hid; decide⟩
  · obtain ⟨c0, c1, c2, c3⟩ : v7.cell? ⟨k9, 12, none⟩ = some (.int .i64 0) ∧ v7.cell? ⟨k9, 13, none⟩ = some (.int .i64 1) ∧ v7.cell? ⟨k9, 14, none⟩ = some (.int .i64 3) ∧ v7.cell? ⟨k9, 15, none⟩ = some (.int .i64 3) := by simp [World.cell?, HRA.out]
    go_wp2_with (first | (go_at_call 32; refine (HPK.out _).mono ?_; rintro e w' ⟨rfl, rfl⟩))
    go_meet
    case rel => exact ⟨v7.heap.size, ⟨(0), (1), (3), (3)⟩, rfl, (Xt.refl v7).alloc _, (MapKept.heap_alloc v7 _).1, by unfold Hid; decide⟩
  · obtain ⟨c0, c1, c2, c3⟩ : v7.cell? ⟨k9, 16, none⟩ = some (.int .i64 1) ∧ v7.cell? ⟨k9, 17, none⟩ = some (.int .i64 1) ∧ v7.cell? ⟨k9, 18, none⟩ = some (.int .i64 257) ∧ v7.cell? ⟨k9, 19, none⟩ = some (.int .i64 1) := by simp [World.cell?, HRA.out]
    go_wp2_with (first | (go_at_call 32; refine (HPK.out _).mono ?_; rintro e w' ⟨rfl, rfl⟩))
    go_meet
    case rel => exact ⟨v7.heap.size, ⟨(1), (1), (257), (1)⟩, rfl, (Xt.refl v7).alloc _, (MapKept.heap_alloc v7 _).1, by unfold Hid; decide⟩
  · obtain ⟨c0, c1, c2, c3⟩ : v7.cell? ⟨k9, 20, none⟩ = some (.int .i64 1) ∧ v7.cell? ⟨k9, 21, none⟩ = some (.int .i64 1) ∧ v7.cell? ⟨k9, 22, none⟩ = some (.int .i64 1) ∧ v7.cell? ⟨k9, 23, none⟩ = some (.int .i64 4097) := by simp [World.cell?, HRA.out]
    go_wp2_with (first | (go_at_call 32; refine (HPK.out _).mono ?_; rintro e w' ⟨rfl, rfl⟩))
    go_meet
    case rel => exact ⟨v7.heap.size, ⟨(1), (1), (1), (4097)⟩, rfl, (Xt.refl v7).alloc _, (MapKept.heap_alloc v7 _).1, by unfold Hid; decide⟩
 case rest =>
  obtain ⟨K10, no, rfl, HX78, HRN, HVN⟩ := hcut
  obtain ⟨v8, hv8⟩ : ∃ v8, v8 = wc := ⟨_, rfl⟩
  subst hv8
  clear HPK h6 z0 z1 z2 z3 z4 z5 z6 z7 z8
  have HXC2 : Hid (Xt v8 v8) := Xt.refl _
  go_upto_region 9 with (first
   | (go_at_call 14; refine (at2_any _ _ _).mono ?_; rintro e wv ⟨rfl, hv⟩; replace HXC2 := Lib.hid (HXC2.out.trans hv.xt); clear hv))
  obtain ⟨k11, hk11⟩ : ∃ k, wv.heap.size = k := ⟨_, rfl⟩
  obtain ⟨v9, hv9⟩ : ∃ v, wv.alloc (.cells #[.int .i64 0, .int .i64 0, .int .i64 257, .int .i64 1, .int .i64 1, .int .i64 4097, .int .i64 0, .int .i64 1, .int .i64 (-1), .int .i64 1, .int .i64 4611686018427387904, .int .i64 4611686018427387904] 24) = v := ⟨_, rfl⟩
  have HX89 : Hid (Xt v8 v9) := by unfold Hid; rw [← hv9]; exact HXC2.out.alloc _
  have HRB : Hid (v9.heap[k11]? = some (.cells #[.int .i64 0, .int .i64 0, .int .i64 257, .int .i64 1, .int .i64 1, .int .i64 4097, .int .i64 0, .int .i64 1, .int .i64 (-1), .int .i64 1, .int .i64 4611686018427387904, .int .i64 4611686018427387904] 24 (0, 0))) := by unfold Hid; rw [← hv9, ← hk11]; exact (MapKept.heap_alloc wv _).1
  try simp only [hk11]
  try simp only [hv9]
  clear hk11 hv9
  have HX09 : Hid (Xt w0 v9) := (HX07.out.trans HX78.out).trans HX89.out
  obtain ⟨z0, z1, z2, z3, z4, z5, z6, z7, z8⟩ := cells9 (rowX HX09.out HR0.out)
  obtain ⟨ix, hix⟩ : ∃ ix, pickZ aa 6 = ix := ⟨_, rfl⟩
  have hr6 := pickZ_lt (c := aa) (n := 6) (by omega)
  have HPK := Lib.hid (fun V => pickz_any aa 6 V ha.1 ha.2 (by omega) (by omega))
  rw [hix] at hr6 HPK
  have h6 : ix = 0 ∨ ix = 1 ∨ ix = 2 ∨ ix = 3 ∨ ix = 4 ∨ ix = 5 := by omega
  clear hix hr6
  go_cut [12] from 89 to 96 (fun s12 wr => ∃ (k : Nat) (bd : Ad), s12 = .pointer (some ⟨k, 0, none⟩) ∧ Hid (Xt v9 wr) ∧ Hid (wr.heap[k]? = some (.cells #[.int .i64 bd.1, .int .i64 bd.2] 24 (0, 0))) ∧ Hid (validB bd.1 bd.2 = false))
  case first =>
   rcases h6 with rfl | rfl | rfl | rfl | rfl | rfl
   · obtain ⟨c0, c1⟩ : v9.cell? ⟨k11, 0, none⟩ = some (.int .i64 0) ∧ v9.cell? ⟨k11, 1, none⟩ = some (.int .i64 0) := by simp [World.cell?, HRB.out]
     go_wp2_with (first | (go_at_call 32; refine (HPK.out _).mono ?_; rintro e w' ⟨rfl, rfl⟩))
     go_meet
     case rel => exact ⟨v9.heap.size, ((0), (0)), rfl, (Xt.refl v9).alloc _, (MapKept.heap_alloc v9 _).1, by unfold Hid; decide⟩
   · obtain ⟨c0, c1⟩ : v9.cell? ⟨k11, 2, none⟩ = some (.int .i64 257) ∧ v9.cell? ⟨k11, 3, none⟩ = some (.int .i64 1) := by simp [World.cell?, HRB.out]
     go_wp2_with (first | (go_at_call 32; refine (HPK.out _).mono ?_; rintro e w' ⟨rfl, rfl⟩))
     go_meet
     case rel => exact ⟨v9.heap.size, ((257), (1)), rfl, (Xt.refl v9).alloc _, (MapKept.heap_alloc v9 _).1, by unfold Hid; decide⟩
   · obtain ⟨c0, c1⟩ : v9.cell? ⟨k11, 4, none⟩ = some (.int .i64 1) ∧ v9.cell? ⟨k11, 5, none⟩ = some (.int .i64 4097) := by simp [World.cell?, HRB.out]
     go_wp2_with (first | (go_at_call 32; refine (HPK.out _).mono ?_; rintro e w' ⟨rfl, rfl⟩))
     go_meet
     case rel => exact ⟨v9.heap.size, ((1), (4097)), rfl, (Xt.refl v9).alloc _, (MapKept.heap_alloc v9 _).1, by unfold Hid; decide⟩
   · obtain ⟨c0, c1⟩ : v9.cell? ⟨k11, 6, none⟩ = some (.int .i64 0) ∧ v9.cell? ⟨k11, 7, none⟩ = some (.int .i64 1) := by simp [World.cell?, HRB.out]
     go_wp2_with (first | (go_at_call 32; refine (HPK.out _).mono ?_; rintro e w' ⟨rfl, rfl⟩))
     go_meet
     case rel => exact ⟨v9.heap.size, ((0), (1)), rfl, (Xt.refl v9).alloc _, (MapKept.heap_alloc v9 _).1, by unfold Hid; decide⟩
   · obtain ⟨c0, c1⟩ : v9.cell? ⟨k11, 8, none⟩ = some (.int .i64 (-1)) ∧ v9.cell? ⟨k11, 9, none⟩ = some (.int .i64 1) := by simp [World.cell?, HRB.out]
     go_wp2_with (first | (go_at_call 32; refine (HPK.out _).mono ?_; rintro e w' ⟨rfl, rfl⟩))
     go_meet
     case rel => exact ⟨v9.heap.size, ((-1), (1)), rfl, (Xt.refl v9).alloc _, (MapKept.heap_alloc v9 _).1, by unfold Hid; decide⟩
   · obtain ⟨c0, c1⟩ : v9.cell? ⟨k11, 10, none⟩ = some (.int .i64 4611686018427387904) ∧ v9.cell? ⟨k11, 11, none⟩ = some (.int .i64 4611686018427387904) := by simp [World.cell?, HRB.out]
     go_wp2_with (first | (go_at_call 32; refine (HPK.out _).mono ?_; rintro e w' ⟨rfl, rfl⟩))
     go_meet
     case rel => exact ⟨v9.heap.size, ((4611686018427387904), (4611686018427387904)), rfl, (Xt.refl v9).alloc _, (MapKept.heap_alloc v9 _).1, by unfold Hid; decide⟩
  case rest =>
   obtain ⟨K12, bd, rfl, HX910, HRD, HVB⟩ := hcut
   obtain ⟨va, hva⟩ : ∃ v, v = wc := ⟨_, rfl⟩
   subst hva
   clear HPK h6 z0 z1 z2 z3 z4 z5 z6 z7 z8
   have HX0a : Hid (Xt w0 va) := HX09.out.trans HX910.out
   have HX7a : Hid (Xt w7 va) := ((HX77.out.trans HX78.out).trans HX89.out).trans HX910.out
   have HGA : Hid (GridIs va gb mb M) := HG2.out.xt (HX25.out.trans (HX57.out.trans HX7a.out))
   have HGWA : Hid (GridIs va gw mw M) := HGW.out.xt (HX57.out.trans HX7a.out)
   have HTA : Hid (Tabs va) := HT.out.xt (HX0.out.trans HX0a.out)
   have HFD : Hid (∀ V, Xt va V → V.cell? ⟨K6, 0, none⟩ = some (.int .i64 f.a) ∧ V.cell? ⟨K6, 1, none⟩ = some (.int .i64 f.b) ∧ V.cell? ⟨K6, 2, none⟩ = some (.int .i64 f.c) ∧ V.cell? ⟨K6, 3, none⟩ = some (.int .i64 f.d) ∧ V.cell? ⟨K6 + 1, 0, none⟩ = some (.int .i64 g.1) ∧ V.cell? ⟨K6 + 1, 1, none⟩ = some (.int .i64 g.2) ∧ V.cell? ⟨K10, 0, none⟩ = some (.int .i64 no.a) ∧ V.cell? ⟨K10, 1, none⟩ = some (.int .i64 no.b) ∧ V.cell? ⟨K10, 2, none⟩ = some (.int .i64 no.c) ∧ V.cell? ⟨K10, 3, none⟩ = some (.int .i64 no.d) ∧ V.cell? ⟨K12, 0, none⟩ = some (.int .i64 bd.1) ∧ V.cell? ⟨K12, 1, none⟩ = some (.int .i64 bd.2) ∧ V.cell? ⟨B, 1, none⟩ = some (.int .i64 aa) ∧ V.cell? ⟨B, 2, none⟩ = some (.int .i64 nn) ∧ V.cell? ⟨B, 7, none⟩ = some (.int .i64 y.1) ∧ V.cell? ⟨B, 8, none⟩ = some (.int .i64 y.2)) := Lib.hid fun V hV => by
    obtain ⟨⟨a0, a1, a2, a3⟩, _⟩ := cells4 (rowX (HX7a.out.trans hV) HRF.out)
    obtain ⟨g0, g1, _, _⟩ := cells2 (rowX (HX7a.out.trans hV) HRG.out)
    obtain ⟨⟨n0, n1, n2, n3⟩, _⟩ := cells4 (rowX ((HX89.out.trans HX910.out).trans hV) HRN.out)
    obtain ⟨d0, d1, _, _⟩ := cells2 (rowX hV HRD.out)
    obtain ⟨z0, z1, z2, z3, z4, z5, z6, z7, z8⟩ := cells9 (rowX (HX0a.out.trans hV) HR0.out)
    exact ⟨a0, a1, a2, a3, g0, g1, n0, n1, n2, n3, d0, d1, z1, z2, z7, z8⟩
   have HXC3 : Hid (Xt va va) := Xt.refl _
   obtain ⟨a0, a1, a2, a3, g0, g1, n0, n1, n2, n3, d0, d1, z1, z2, z7, z8⟩ := HFD.out _ HXC3.out
   clear HX77 HX78 HX89 HX910 HRA HRB HX07 HX09 HXC HXC2
   have hm1 : True := trivial
   have hm2 : True := trivial
   have hm3 : True := trivial
   have hq1 : (validB bd.1 bd.2 && validB (lastOf f bd).1 (lastOf f bd).2) = false := by rw [HVB.out]; rfl
   have HQ1 := Lib.hid hq1
   clear hq1
   go_upto_region 17 with (first
    | (go_at_call 27; have hm0 := hm1; clear hm1 hm0; refine (mcopy_bad no g gb _ HVN.out).mono ?_; rintro e vn ⟨rfl, hvn⟩; replace HXC3 := Lib.hid (HXC3.out.trans hvn); obtain ⟨a0, a1, a2, a3, g0, g1, n0, n1, n2, n3, d0, d1, z1, z2, z7, z8⟩ := HFD.out _ HXC3.out; clear hvn)
    | (go_at_call 12; have hm0 := hm2; clear hm2 hm0; refine (mmove_bad no bd gb _ HVN.out).mono ?_; rintro e vn ⟨rfl, hvn⟩; replace HXC3 := Lib.hid (HXC3.out.trans hvn); obtain ⟨a0, a1, a2, a3, g0, g1, n0, n1, n2, n3, d0, d1, z1, z2, z7, z8⟩ := HFD.out _ HXC3.out; clear hvn)
    | (go_at_call 29; refine (mclear_bad no gb _ HVN.out).mono ?_; rintro e vn ⟨rfl, hvn⟩; replace HXC3 := Lib.hid (HXC3.out.trans hvn); obtain ⟨a0, a1, a2, a3, g0, g1, n0, n1, n2, n3, d0, d1, z1, z2, z7, z8⟩ := HFD.out _ HXC3.out; clear hvn)
    | (go_at_call 28; have hm0 := hm3; clear hm3 hm0; refine (mfill_bad no bd gb _ HVN.out).mono ?_; rintro e vn ⟨rfl, hvn⟩; replace HXC3 := Lib.hid (HXC3.out.trans hvn); obtain ⟨a0, a1, a2, a3, g0, g1, n0, n1, n2, n3, d0, d1, z1, z2, z7, z8⟩ := HFD.out _ HXC3.out; clear hvn)
    | (go_at_call 27; refine (mcopy_far f bd gb _ HVF.out HQ1.out).mono ?_; rintro e vn ⟨rfl, hvn⟩; replace HXC3 := Lib.hid (HXC3.out.trans hvn); obtain ⟨a0, a1, a2, a3, g0, g1, n0, n1, n2, n3, d0, d1, z1, z2, z7, z8⟩ := HFD.out _ HXC3.out; clear hvn)
    | (go_at_call 12; refine (mmove_far f bd gb _ HVF.out HQ1.out).mono ?_; rintro e vn ⟨rfl, hvn⟩; replace HXC3 := Lib.hid (HXC3.out.trans hvn); obtain ⟨a0, a1, a2, a3, g0, g1, n0, n1, n2, n3, d0, d1, z1, z2, z7, z8⟩ := HFD.out _ HXC3.out; clear hvn)
    | (go_at_call 28; refine (mfill_far f bd gb _ HVF.out HVB.out).mono ?_; rintro e vn ⟨rfl, hvn⟩; replace HXC3 := Lib.hid (HXC3.out.trans hvn); obtain ⟨a0, a1, a2, a3, g0, g1, n0, n1, n2, n3, d0, d1, z1, z2, z7, z8⟩ := HFD.out _ HXC3.out; clear hvn))
   go_upto_region 19 with fail
   obtain ⟨vb, hvb⟩ : ∃ v, v = vn := ⟨_, rfl⟩
   subst hvb
   clear a0 a1 a2 a3 g0 g1 n0 n1 n2 n3 d0 d1 z1 z2 z7 z8
   have HFE : Hid (∀ V, Xt vb V → V.cell? ⟨B, 7, none⟩ = some (.int .i64 y.1) ∧ V.cell? ⟨B, 8, none⟩ = some (.int .i64 y.2)) := Lib.hid fun V hV => by
    obtain ⟨a0, a1, a2, a3, g0, g1, n0, n1, n2, n3, d0, d1, z1, z2, z7, z8⟩ := HFD.out V (HXC3.out.trans hV)
    exact ⟨z7, z8⟩
   obtain ⟨p1, hp1⟩ : ∃ p, pickZ y.1 3 = p := ⟨_, rfl⟩
   obtain ⟨p2, hp2⟩ : ∃ p, pickZ y.2 3 = p := ⟨_, rfl⟩
   have hr1 := pickZ_lt (c := y.1) (n := 3) (by omega)
   have hr2 := pickZ_lt (c := y.2) (n := 3) (by omega)
   have HPA := Lib.hid (fun V => pickz_any y.1 3 V HB8.out.1.1 HB8.out.1.2 (by omega) (by omega))
   have HPB := Lib.hid (fun V => pickz_any y.2 3 V HB8.out.2.1 HB8.out.2.2 (by omega) (by omega))
   rw [hp1] at hr1 HPA
   rw [hp2] at hr2 HPB
   obtain ⟨e1, he1⟩ : ∃ e, 256 - p1 = e := ⟨_, rfl⟩
   obtain ⟨e2, he2⟩ : ∃ e, 4096 - p2 = e := ⟨_, rfl⟩
   have hw1 : IntKind.i64.wrap (256 - p1) = e1 := by rw [IntKind.wrap_i64]; omega
   have hw2 : IntKind.i64.wrap (4096 - p2) = e2 := by rw [IntKind.wrap_i64]; omega
   have HEB : Hid ((254 ≤ e1 ∧ e1 ≤ 256) ∧ (4094 ≤ e2 ∧ e2 ≤ 4096)) := by unfold Hid; omega
   clear hp1 hp2 hr1 hr2 he1 he2
   have HXD : Hid (Xt vb vb.drew) := (Xt.refl vb).drew
   go_cut [27] from 176 to 186 (fun s27 wr => ∃ k : Nat, s27 = .pointer (some ⟨k, 0, none⟩) ∧ Hid (Xt vb wr) ∧ Hid (wr.heap[k]? = some (.cells #[.int .i64 e1, .int .i64 e2] 24 (0, 0))))
   case first =>
    refine wp_region_held_drew (S := fun V => Xt vb V) (by kernel_rfl) HXD.out (fun hHeld => ?_)
    refine tkH 0 ?_ ?_ ?_
    rotate_left
    · intro V hSw; obtain ⟨u0, u1⟩ := HFE.out V hSw; go_simp; first | done | with_reducible rfl
    try simp only [Act.put, nm]
    refine tkH 1 ?_ ?_ ?_
    rotate_left
    · intro V hSw; obtain ⟨u0, u1⟩ := HFE.out V hSw; go_simp; first | done | with_reducible rfl
    try simp only [Act.put, nm]
    refine tkH 2 ?_ ?_ ?_
    rotate_left
    · intro V hSw; obtain ⟨u0, u1⟩ := HFE.out V hSw; go_simp; first | done | with_reducible rfl
    try simp only [Act.put, nm]
    refine tkH 5 ?_ ?_ ?_
    rotate_left
    · intro V hSw; obtain ⟨u0, u1⟩ := HFE.out V hSw; go_simp; first | done | with_reducible rfl
    try simp only [Act.put, nm]
    refine tkH 6 ?_ ?_ ?_
    rotate_left
    · intro V hSw; obtain ⟨u0, u1⟩ := HFE.out V hSw; go_simp; first | done | with_reducible rfl
    try simp only [Act.put, nm]
    refine tkH 7 ?_ ?_ ?_
    rotate_left
    · intro V hSw; obtain ⟨u0, u1⟩ := HFE.out V hSw; go_simp; first | done | with_reducible rfl
    try simp only [Act.put, nm]
    refine wpAnyH_ready (rs := [3, 11]) (by kernel_rfl) (by simp) ?_
    refine AllReadyH.cons (o := _) rfl (fun K hK => ?_) (AllReadyH.cons (o := _) rfl (fun K hK => ?_) AllReadyH.nil)
    · go_simp
      refine (HPA.out _).mono ?_
      rintro e w' ⟨rfl, rfl⟩
      refine hK.out _ _ HXD.out (fun hHe => ?_)
      clear hK K
      try simp only [Act.put, nm]
      refine tkH 4 ?_ ?_ ?_
      rotate_left
      · intro V hSw; obtain ⟨u0, u1⟩ := HFE.out V hSw; go_simp; first | done | with_reducible rfl
      try simp only [Act.put, nm]
      refine wpAnyH_ready (rs := [8, 11]) (by kernel_rfl) (by simp) ?_
      refine AllReadyH.cons (o := _) rfl (fun K hK => ?_) (AllReadyH.cons (o := _) rfl (fun K hK => ?_) AllReadyH.nil)
      · go_simp
        refine (HPB.out _).mono ?_
        rintro e w' ⟨rfl, rfl⟩
        refine hK.out _ _ HXD.out (fun hHe => ?_)
        clear hK K
        try simp only [Act.put, nm]
        refine tkH 9 ?_ ?_ ?_
        rotate_left
        · intro V hSw; obtain ⟨u0, u1⟩ := HFE.out V hSw; go_simp; first | done | with_reducible rfl
        try simp only [Act.put, nm]
        refine wpAnyH_ready (rs := [10, 11]) (by kernel_rfl) (by simp) ?_
        refine AllReadyH.cons (o := _) rfl (fun K hK => ?_) (AllReadyH.cons (o := _) rfl (fun K hK => ?_) AllReadyH.nil)
        · go_simp
          refine (at2_any _ _ _).mono ?_
          rintro e vt3 ⟨rfl, hgn⟩
          replace HXD := Lib.hid (HXD.out.trans hgn.xt)
          clear hgn
          refine hK.out _ _ HXD.out (fun hHe => ?_)
          clear hK K
          try simp only [Act.put, nm]
          refine rdH 11 (fun K hK => ?_)
          go_simp
          obtain ⟨vt4, hv⟩ : ∃ v, World.alloc vt3 (.cells #[.int .i64 0, .int .i64 0] 24) = v := ⟨_, rfl⟩
          obtain ⟨kA, hk⟩ : ∃ k, (World.heap vt3).size = k := ⟨_, rfl⟩
          have HAR : Hid (vt4.heap[kA]? = some (.cells #[.int .i64 0, .int .i64 0] 24 (0, 0))) := by unfold Hid; rw [← hv, ← hk]; exact (MapKept.heap_alloc _ _).1
          have HKA : Hid (vb.heap.size ≤ kA) := by unfold Hid; rw [← hk]; exact HXD.out.size
          have hxs : Xt vt3 vt4 := by rw [← hv]; exact (Xt.refl _).alloc _
          replace HXD := Lib.hid (HXD.out.trans hxs)
          rw [hv]
          try simp only [hk]
          clear hv hk hxs
          refine hK.out _ _ HXD.out (fun hHe => ?_)
          clear hK K
          try simp only [Act.put, nm]
          refine rdH 12 (fun K hK => ?_)
          rw [if_pos (by rfl)]
          refine wp_store_row (P := Tryz.prog) 24 _ _ rfl kA #[.int .i64 e1, .int .i64 e2] rfl rfl 24 _ HAR.out (by kernel_rfl) rfl (by simp [Value.oneCell']) ?_
          obtain ⟨vE, hvE⟩ : ∃ v, World.setRow vt4 kA #[.int .i64 e1, .int .i64 e2] = v := ⟨_, rfl⟩
          have HXE : Hid (Xt vb vE) := by unfold Hid; rw [← hvE]; exact HXD.out.grownB (setRow_grown _ _ _) (fun m hm => by cases hm; exact HKA.out)
          have HRE : Hid (vE.heap[kA]? = some (.cells #[.int .i64 e1, .int .i64 e2] 24 (0, 0))) := by unfold Hid; rw [← hvE]; exact setRow_heap _ _ _ _ _ _ HAR.out
          rw [hvE]
          refine hK.out _ _ HXE.out (fun hHe => ?_)
          clear hK K hvE
          refine wpAnyH_done (by kernel_rfl) ?_ _
          go_wp2_with fail
          go_meet
          case rel => exact ⟨kA, rfl, HXE, HRE⟩
        · go_simp
          obtain ⟨vt5, hv⟩ : ∃ v, World.alloc vb.drew (.cells #[.int .i64 0, .int .i64 0] 24) = v := ⟨_, rfl⟩
          obtain ⟨kA, hk⟩ : ∃ k, (World.heap vb.drew).size = k := ⟨_, rfl⟩
          have HAR : Hid (vt5.heap[kA]? = some (.cells #[.int .i64 0, .int .i64 0] 24 (0, 0))) := by unfold Hid; rw [← hv, ← hk]; exact (MapKept.heap_alloc _ _).1
          have HKA : Hid (vb.heap.size ≤ kA) := by unfold Hid; rw [← hk]; exact HXD.out.size
          have hxs : Xt vb.drew vt5 := by rw [← hv]; exact (Xt.refl _).alloc _
          replace HXD := Lib.hid (HXD.out.trans hxs)
          rw [show (World.alloc vb (.cells #[.int .i64 0, .int .i64 0] 24)).drew = vt5 from hv]
          try simp only [show vb.heap.size = kA from hk]
          clear hv hk hxs
          refine hK.out _ _ HXD.out (fun hHe => ?_)
          clear hK K
          try simp only [Act.put, nm]
          refine rdH 10 (fun K hK => ?_)
          go_simp
          refine (at2_any _ _ _).mono ?_
          rintro e vt6 ⟨rfl, hgn⟩
          replace HXD := Lib.hid (HXD.out.trans hgn.xt)
          replace HAR := Lib.hid (rowX hgn.xt HAR.out)
          clear hgn
          refine hK.out _ _ HXD.out (fun hHe => ?_)
          clear hK K
          try simp only [Act.put, nm]
          refine rdH 12 (fun K hK => ?_)
          rw [if_pos (by rfl)]
          refine wp_store_row (P := Tryz.prog) 24 _ _ rfl kA #[.int .i64 e1, .int .i64 e2] rfl rfl 24 _ HAR.out (by kernel_rfl) rfl (by simp [Value.oneCell']) ?_
          obtain ⟨vE, hvE⟩ : ∃ v, World.setRow vt6 kA #[.int .i64 e1, .int .i64 e2] = v := ⟨_, rfl⟩
          have HXE : Hid (Xt vb vE) := by unfold Hid; rw [← hvE]; exact HXD.out.grownB (setRow_grown _ _ _) (fun m hm => by cases hm; exact HKA.out)
          have HRE : Hid (vE.heap[kA]? = some (.cells #[.int .i64 e1, .int .i64 e2] 24 (0, 0))) := by unfold Hid; rw [← hvE]; exact setRow_heap _ _ _ _ _ _ HAR.out
          rw [hvE]
          refine hK.out _ _ HXE.out (fun hHe => ?_)
          clear hK K hvE
          refine wpAnyH_done (by kernel_rfl) ?_ _
          go_wp2_with fail
          go_meet
          case rel => exact ⟨kA, rfl, HXE, HRE⟩
      · go_simp
        obtain ⟨vt7, hv⟩ : ∃ v, World.alloc vb.drew (.cells #[.int .i64 0, .int .i64 0] 24) = v := ⟨_, rfl⟩
        obtain ⟨kA, hk⟩ : ∃ k, (World.heap vb.drew).size = k := ⟨_, rfl⟩
        have HAR : Hid (vt7.heap[kA]? = some (.cells #[.int .i64 0, .int .i64 0] 24 (0, 0))) := by unfold Hid; rw [← hv, ← hk]; exact (MapKept.heap_alloc _ _).1
        have HKA : Hid (vb.heap.size ≤ kA) := by unfold Hid; rw [← hk]; exact HXD.out.size
        have hxs : Xt vb.drew vt7 := by rw [← hv]; exact (Xt.refl _).alloc _
        replace HXD := Lib.hid (HXD.out.trans hxs)
        rw [show (World.alloc vb (.cells #[.int .i64 0, .int .i64 0] 24)).drew = vt7 from hv]
        try simp only [show vb.heap.size = kA from hk]
        clear hv hk hxs
        refine hK.out _ _ HXD.out (fun hHe => ?_)
        clear hK K
        try simp only [Act.put, nm]
        refine rdH 8 (fun K hK => ?_)
        go_simp
        refine (HPB.out _).mono ?_
        rintro e w' ⟨rfl, rfl⟩
        refine hK.out _ _ HXD.out (fun hHe => ?_)
        clear hK K
        try simp only [Act.put, nm]
        refine tkH 9 ?_ ?_ ?_
        rotate_left
        · intro V hSw; obtain ⟨u0, u1⟩ := HFE.out V hSw; go_simp; first | done | with_reducible rfl
        try simp only [Act.put, nm]
        refine rdH 10 (fun K hK => ?_)
        go_simp
        refine (at2_any _ _ _).mono ?_
        rintro e vt9 ⟨rfl, hgn⟩
        replace HXD := Lib.hid (HXD.out.trans hgn.xt)
        replace HAR := Lib.hid (rowX hgn.xt HAR.out)
        clear hgn
        refine hK.out _ _ HXD.out (fun hHe => ?_)
        clear hK K
        try simp only [Act.put, nm]
        refine rdH 12 (fun K hK => ?_)
        rw [if_pos (by rfl)]
        refine wp_store_row (P := Tryz.prog) 24 _ _ rfl kA #[.int .i64 e1, .int .i64 e2] rfl rfl 24 _ HAR.out (by kernel_rfl) rfl (by simp [Value.oneCell']) ?_
        obtain ⟨vE, hvE⟩ : ∃ v, World.setRow vt9 kA #[.int .i64 e1, .int .i64 e2] = v := ⟨_, rfl⟩
        have HXE : Hid (Xt vb vE) := by unfold Hid; rw [← hvE]; exact HXD.out.grownB (setRow_grown _ _ _) (fun m hm => by cases hm; exact HKA.out)
        have HRE : Hid (vE.heap[kA]? = some (.cells #[.int .i64 e1, .int .i64 e2] 24 (0, 0))) := by unfold Hid; rw [← hvE]; exact setRow_heap _ _ _ _ _ _ HAR.out
        rw [hvE]
        refine hK.out _ _ HXE.out (fun hHe => ?_)
        clear hK K hvE
        refine wpAnyH_done (by kernel_rfl) ?_ _
        go_wp2_with fail
        go_meet
        case rel => exact ⟨kA, rfl, HXE, HRE⟩
    · go_simp
      obtain ⟨vt10, hv⟩ : ∃ v, World.alloc vb.drew (.cells #[.int .i64 0, .int .i64 0] 24) = v := ⟨_, rfl⟩
      obtain ⟨kA, hk⟩ : ∃ k, (World.heap vb.drew).size = k := ⟨_, rfl⟩
      have HAR : Hid (vt10.heap[kA]? = some (.cells #[.int .i64 0, .int .i64 0] 24 (0, 0))) := by unfold Hid; rw [← hv, ← hk]; exact (MapKept.heap_alloc _ _).1
      have HKA : Hid (vb.heap.size ≤ kA) := by unfold Hid; rw [← hk]; exact HXD.out.size
      have hxs : Xt vb.drew vt10 := by rw [← hv]; exact (Xt.refl _).alloc _
      replace HXD := Lib.hid (HXD.out.trans hxs)
      rw [show (World.alloc vb (.cells #[.int .i64 0, .int .i64 0] 24)).drew = vt10 from hv]
      try simp only [show vb.heap.size = kA from hk]
      clear hv hk hxs
      refine hK.out _ _ HXD.out (fun hHe => ?_)
      clear hK K
      try simp only [Act.put, nm]
      refine rdH 3 (fun K hK => ?_)
      go_simp
      refine (HPA.out _).mono ?_
      rintro e w' ⟨rfl, rfl⟩
      refine hK.out _ _ HXD.out (fun hHe => ?_)
      clear hK K
      try simp only [Act.put, nm]
      refine tkH 4 ?_ ?_ ?_
      rotate_left
      · intro V hSw; obtain ⟨u0, u1⟩ := HFE.out V hSw; go_simp; first | done | with_reducible rfl
      try simp only [Act.put, nm]
      refine rdH 8 (fun K hK => ?_)
      go_simp
      refine (HPB.out _).mono ?_
      rintro e w' ⟨rfl, rfl⟩
      refine hK.out _ _ HXD.out (fun hHe => ?_)
      clear hK K
      try simp only [Act.put, nm]
      refine tkH 9 ?_ ?_ ?_
      rotate_left
      · intro V hSw; obtain ⟨u0, u1⟩ := HFE.out V hSw; go_simp; first | done | with_reducible rfl
      try simp only [Act.put, nm]
      refine rdH 10 (fun K hK => ?_)
      go_simp
      refine (at2_any _ _ _).mono ?_
      rintro e vt13 ⟨rfl, hgn⟩
      replace HXD := Lib.hid (HXD.out.trans hgn.xt)
      replace HAR := Lib.hid (rowX hgn.xt HAR.out)
      clear hgn
      refine hK.out _ _ HXD.out (fun hHe => ?_)
      clear hK K
      try simp only [Act.put, nm]
      refine rdH 12 (fun K hK => ?_)
      rw [if_pos (by rfl)]
      refine wp_store_row (P := Tryz.prog) 24 _ _ rfl kA #[.int .i64 e1, .int .i64 e2] rfl rfl 24 _ HAR.out (by kernel_rfl) rfl (by simp [Value.oneCell']) ?_
      obtain ⟨vE, hvE⟩ : ∃ v, World.setRow vt13 kA #[.int .i64 e1, .int .i64 e2] = v := ⟨_, rfl⟩
      have HXE : Hid (Xt vb vE) := by unfold Hid; rw [← hvE]; exact HXD.out.grownB (setRow_grown _ _ _) (fun m hm => by cases hm; exact HKA.out)
      have HRE : Hid (vE.heap[kA]? = some (.cells #[.int .i64 e1, .int .i64 e2] 24 (0, 0))) := by unfold Hid; rw [← hvE]; exact setRow_heap _ _ _ _ _ _ HAR.out
      rw [hvE]
      refine hK.out _ _ HXE.out (fun hHe => ?_)
      clear hK K hvE
      refine wpAnyH_done (by kernel_rfl) ?_ _
      go_wp2_with fail
      go_meet
      case rel => exact ⟨kA, rfl, HXE, HRE⟩
   case rest =>
    obtain ⟨K27, rfl, HXbc, HRE⟩ := hcut
    obtain ⟨vc, hvc⟩ : ∃ v, v = wc := ⟨_, rfl⟩
    subst hvc
    clear hw1 hw2 HPA HPB HXD
    have HXac : Hid (Xt va vc) := HXC3.out.trans HXbc.out
    obtain ⟨a0, a1, a2, a3, g0, g1, n0, n1, n2, n3, d0, d1, z1, z2, z7, z8⟩ := HFD.out _ HXac.out
    obtain ⟨s0, s1, _, _⟩ := cells2 HRE.out
    clear g0 g1 n0 n1 n2 n3 d0 d1 z1 z2 z7 z8
    obtain ⟨c1, hc1⟩ : ∃ c, e1 + f.c = c := ⟨_, rfl⟩
    obtain ⟨c2, hc2⟩ : ∃ c, e2 + f.d = c := ⟨_, rfl⟩
    obtain ⟨l1, hl1⟩ : ∃ c, c1 - f.a = c := ⟨_, rfl⟩
    obtain ⟨l2, hl2⟩ : ∃ c, c2 - f.b = c := ⟨_, rfl⟩
    have hfb := HFB.out
    have heb := HEB.out
    have hw1 : IntKind.i64.wrap (e1 + f.c) = c1 := by rw [IntKind.wrap_i64]; omega
    have hw2 : IntKind.i64.wrap (e2 + f.d) = c2 := by rw [IntKind.wrap_i64]; omega
    have hw3 : IntKind.i64.wrap (c1 - f.a) = l1 := by rw [IntKind.wrap_i64]; omega
    have hw4 : IntKind.i64.wrap (c2 - f.b) = l2 := by rw [IntKind.wrap_i64]; omega
    have hla : lastOf f (e1, e2) = (l1, l2) := by
     unfold lastOf
     refine Prod.ext ?_ ?_
     · simp only; rw [w64 (x := e1 + f.c) (by omega) (by omega), w64 (by omega) (by omega)]; omega
     · simp only; rw [w64 (x := e2 + f.d) (by omega) (by omega), w64 (by omega) (by omega)]; omega
    have hve : validB e1 e2 = true := validB_of (by omega)
    obtain ⟨ft, hft⟩ : ∃ b : Bool, (decide (l1 ≤ 256) && decide (l2 ≤ 4096)) = b := ⟨_, rfl⟩
    have hvl : validB l1 l2 = ft := by
     rw [← hft]
     by_cases h1 : l1 ≤ 256 <;> by_cases h2 : l2 ≤ 4096
     · rw [validB_of (by omega)]; simp [h1, h2]
     · cases hx : validB l1 l2 with
       | false => simp [h2]
       | true => (have := validB_le hx; omega)
     · cases hx : validB l1 l2 with
       | false => simp [h1]
       | true => (have := validB_le hx; omega)
     · cases hx : validB l1 l2 with
       | false => simp [h1]
       | true => (have := validB_le hx; omega)
    have HMV : Hid (∀ V, Xt va V → Calls Tryz.prog 12 #[.pointer (some ⟨gb, 0, none⟩), arT f, .agg #[.int .i64 e1, .int .i64 e2]] V fun e w' => ∃ pv ec, e = .returned (.tuple #[pv, .int .i64 ec]) ∧ Xt V w' ∧ ((ft = true ∧ ec = 0) ∨ (ft = false ∧ ec = 20))) := Lib.hid fun V hV => by
     cases ft with
     | true => exact (move_any f (e1, e2) gb mb M V (HGA.out.xt hV) (HTA.out.xt hV) HOG.out HVF.out hve (by rw [hla]; exact hvl)).mono fun e w' h => (by obtain ⟨hx, go, mo, Mo, he, _⟩ := h; exact ⟨_, _, he, hx, Or.inl ⟨rfl, rfl⟩⟩)
     | false => exact (mmove_far f (e1, e2) gb V HVF.out (by rw [hla, hvl]; simp)).mono fun e w' h => ⟨_, _, h.1, h.2, Or.inr ⟨rfl, rfl⟩⟩
    have HFT := Lib.hid hft
    clear hc1 hc2 hl1 hl2 hfb heb hla hve hvl hft HEB
    go_upto_region 20 with fail
    go_cut [28] from 187 to 210 (fun s28 wr => s28 = .bool ft ∧ Hid (Xt vc wr))
    case first =>
     by_cases h1 : l1 ≤ 256
     · have e1 : ft = decide (l2 ≤ 4096) := by rw [← HFT.out]; simp [h1]
       go_wp2_with fail
       go_meet
       case rel => exact ⟨by first | rfl | (rw [e1]), Xt.refl _⟩
     · have e1 : ft = false := by rw [← HFT.out]; simp [h1]
       go_wp2_with fail
       go_meet
       case rel => exact ⟨by first | rfl | (rw [e1]), Xt.refl _⟩
    case rest =>
     obtain ⟨rfl, HXcd⟩ := hcut
     obtain ⟨vd, hvd⟩ : ∃ v, v = wc := ⟨_, rfl⟩
     subst hvd
     clear hw1 hw2 hw3 hw4 a0 a1 a2 a3 s0 s1
     have HXad : Hid (Xt va vd) := HXac.out.trans HXcd.out
     obtain ⟨a0, a1, a2, a3, g0, g1, n0, n1, n2, n3, d0, d1, z1, z2, z7, z8⟩ := HFD.out _ HXad.out
     obtain ⟨s0, s1, _, _⟩ := cells2 (rowX HXcd.out HRE.out)
     go_upto_region 22 with (first | (go_at_call 12; refine (HMV.out _ HXad.out).mono ?_; rintro e ve ⟨pv, ec, rfl, hxe, hec⟩; have HXae : Hid (Xt va ve) := HXad.out.trans hxe; have HEC := Lib.hid hec; clear hxe hec))
     clear a0 a1 a2 a3 g0 g1 n0 n1 n2 n3 d0 d1 z1 z2 z7 z8 s0 s1
     go_cut [229] from 218 to 229 (fun s229 wr => s229 = .bool false ∧ Hid (Xt ve wr))
     case first =>
      rcases HEC.out with ⟨rfl, rfl⟩ | ⟨rfl, rfl⟩
      · go_wp2_with fail
        go_meet
        case rel => exact ⟨rfl, Xt.refl _⟩
      · go_wp2_with fail
        go_meet
        case rel => exact ⟨rfl, Xt.refl _⟩
     case rest =>
      obtain ⟨rfl, HXef⟩ := hcut
      obtain ⟨vf, hvf⟩ : ∃ v, v = wc := ⟨_, rfl⟩
      subst hvf
      have HXaf : Hid (Xt va vf) := HXae.out.trans HXef.out
      go_upto_region 27 with (first | (go_at_call 31; refine (gclone_any gb mb M vf (HGA.out.xt HXaf.out)).mono ?_; rintro e vg ⟨rfl, hGh, hxg⟩; have HXfg : Hid (Xt vf vg) := hxg; obtain ⟨mh, hmh⟩ : ∃ m, vf.heap.size = m := ⟨_, rfl⟩; rw [hmh] at hGh; try rw [hmh]; have HGH := Lib.hid hGh; have HMH : Hid (vf.heap.size ≤ mh) := Nat.le_of_eq hmh; have HXC5 : Hid (Xt vg vg) := Xt.refl _; clear hxg hGh hmh))
      have HTC : Hid (GridIs vg (mh + 1) mh M) := HGH.out
      obtain ⟨pc, hpc⟩ : ∃ p, putCode M (1, 1) truthC = p := ⟨_, rfl⟩
      go_upto_if 243 with (first
       | (go_at_call 14; refine (at2_any _ _ _).mono ?_; rintro e wv ⟨rfl, hv⟩; replace HXC5 := Lib.hid (HXC5.out.trans hv.xt); clear hv)
       | (go_at_call 25; refine (gput_any 1 (mh + 1) mh M (1, 1) truthC none 0 _ (HGH.out.xt HXC5.out) truth_ok (HTA.out.xt (HXaf.out.trans (HXfg.out.trans HXC5.out))) truth_small (argsIn_nil9 _ none [] rfl)).mono ?_; rintro e vp ⟨xp, rfl, hGp, hgp⟩; rw [hpc]; have HXfp : Hid (Xt vf vp) := (HXfg.out.trans HXC5.out).grownB hgp (fun q hq => by cases hq; exact HMH.out); have HGP := Lib.hid hGp; clear hGp hgp))
      have HXap : Hid (Xt va vp) := HXaf.out.trans HXfp.out
      have HPC := Lib.hid hpc
      clear hpc
      obtain ⟨tb, htb⟩ : ∃ b, (pc == (0 : Int)) = b := ⟨_, rfl⟩
      simp only [htb]
      have HTB := Lib.hid htb
      clear htb
      go_cut [] from 244 to 258 (fun wr => Hid (Xt vp wr))
      case first =>
       cases tb with
       | true =>
        have hz : pc = 0 := by simpa using HTB.out
        have hc0 : codeP (er M) (1, 1) truthC = 0 := by rw [← er_code, HPC.out]; exact hz
        have hfl : fillP (1, 1) ⟨3, 1, 4, 4096⟩ (er (putTo M (1, 1) truthC xp)) = none := by rw [er_put]; exact fill_full HOG.out truth_good hc0
        have hgo : GOk (er (putTo M (1, 1) truthC xp)) := by rw [er_put]; exact HOG.out.put _ truth_ok
        have HFI := Lib.hid (fun V (hV : Xt vp V) => (mfill_any (1, 1) ⟨3, 1, 4, 4096⟩ (mh + 1) mh (putTo M (1, 1) truthC xp) V (HGP.out.xt hV) (HTA.out.xt (HXap.out.trans hV)) hgo (by decide) (by decide)).mono fun e w' h => by rw [hfl] at h; exact h.no)
        have HY : Hid (Xt vp vp) := Xt.refl _
        clear hz hc0 hfl hgo
        go_wp2_with (first
         | (go_at_call 14; refine (at2_any _ _ _).mono ?_; rintro e wv ⟨rfl, hv⟩; replace HY := Lib.hid (HY.out.trans hv.xt); clear hv)
         | (go_at_call 28; refine (HFI.out _ HY.out).mono ?_; rintro e wv ⟨hv, rfl⟩; replace HY := Lib.hid (HY.out.trans hv); clear hv))
        go_meet
        case rel => exact HY
       | false =>
        go_wp2_with fail
        go_meet
        case rel => exact Xt.refl _
      case rest =>
       obtain ⟨vq, hvq⟩ : ∃ v, v = wc := ⟨_, rfl⟩
       subst hvq
       have HXaq : Hid (Xt va vq) := HXap.out.trans hcut.out
       clear hcut HXC5
       obtain ⟨pA9, hpA9⟩ : ∃ p, pickZ aa 9 = p := ⟨_, rfl⟩
       have hrA9 := pickZ_lt (c := aa) (n := 9) (by omega)
       have HPA9 := Lib.hid (fun V => pickz_any aa 9 V ha.1 ha.2 (by omega) (by omega))
       rw [hpA9] at hrA9 HPA9
       clear hpA9
       obtain ⟨pA4, hpA4⟩ : ∃ p, pickZ aa 4096 = p := ⟨_, rfl⟩
       have hrA4 := pickZ_lt (c := aa) (n := 4096) (by omega)
       have HPA4 := Lib.hid (fun V => pickz_any aa 4096 V ha.1 ha.2 (by omega) (by omega))
       rw [hpA4] at hrA4 HPA4
       clear hpA4
       obtain ⟨pA99, hpA99⟩ : ∃ p, pickZ aa 99 = p := ⟨_, rfl⟩
       have hrA99 := pickZ_lt (c := aa) (n := 99) (by omega)
       have HPA99 := Lib.hid (fun V => pickz_any aa 99 V ha.1 ha.2 (by omega) (by omega))
       rw [hpA99] at hrA99 HPA99
       clear hpA99
       obtain ⟨pN99, hpN99⟩ : ∃ p, pickZ nn 99 = p := ⟨_, rfl⟩
       have hrN99 := pickZ_lt (c := nn) (n := 99) (by omega)
       have HPN99 := Lib.hid (fun V => pickz_any nn 99 V hn.1 hn.2 (by omega) (by omega))
       rw [hpN99] at hrN99 HPN99
       clear hpN99
       obtain ⟨i1, hi1⟩ : ∃ i, -pA9 = i := ⟨_, rfl⟩
       have hw1 : IntKind.i64.wrap (-pA9) = i1 := by rw [IntKind.wrap_i64]; omega
       obtain ⟨i2, hi2⟩ : ∃ i, 1 + pA4 = i := ⟨_, rfl⟩
       have hw2 : IntKind.i64.wrap (1 + pA4) = i2 := by rw [IntKind.wrap_i64]; omega
       obtain ⟨i3, hi3⟩ : ∃ i, 4097 + pN99 = i := ⟨_, rfl⟩
       have hw3 : IntKind.i64.wrap (4097 + pN99) = i3 := by rw [IntKind.wrap_i64]; omega
       obtain ⟨i4, hi4⟩ : ∃ i, 257 + pA99 = i := ⟨_, rfl⟩
       have hw4 : IntKind.i64.wrap (257 + pA99) = i4 := by rw [IntKind.wrap_i64]; omega
       obtain ⟨i5, hi5⟩ : ∃ i, -257 - pN99 = i := ⟨_, rfl⟩
       have hw5 : IntKind.i64.wrap (-257 - pN99) = i5 := by rw [IntKind.wrap_i64]; omega
       have HL1 := Lib.hid (fun V (hV : Xt va V) => (rows_any i1 1 gb mb M V (HGA.out.xt hV) (HTA.out.xt hV) HOG.out).mono fun e w' h => brR_bad h (by simp [madeL, manyL]; omega))
       have HL2 := Lib.hid (fun V (hV : Xt va V) => (rows_any i2 i3 gb mb M V (HGA.out.xt hV) (HTA.out.xt hV) HOG.out).mono fun e w' h => brR_bad h (by simp [madeL, manyL]; omega))
       have HL3 := Lib.hid (fun V (hV : Xt va V) => (cols11_any i4 1 gb mb M V (HGA.out.xt hV) (HTA.out.xt hV) HOG.out).mono fun e w' h => brR_bad h (by simp [madeL, manyL]; omega))
       have HL4 := Lib.hid (fun V (hV : Xt va V) => (cols11_any 1 i5 gb mb M V (HGA.out.xt hV) (HTA.out.xt hV) HOG.out).mono fun e w' h => brR_bad h (by simp [madeL, manyL]; omega))
       clear hrA9 hrA4 hrA99 hrN99 hi1 hi2 hi3 hi4 hi5
       obtain ⟨a0, a1, a2, a3, g0, g1, n0, n1, n2, n3, d0, d1, z1, z2, z7, z8⟩ := HFD.out _ HXaq.out
       go_upto_region 32 with (first
        | (go_at_call 32; refine (HPA9.out _).mono ?_; rintro e w' ⟨rfl, rfl⟩)
        | (go_at_call 33; refine (HL1.out _ HXaq.out).mono ?_; rintro e vr ⟨rfl, hx⟩; replace HXaq := Lib.hid (HXaq.out.trans hx); clear hx))
       obtain ⟨vr1, hvr1⟩ : ∃ v, v = vr := ⟨_, rfl⟩
       subst hvr1
       clear a0 a1 a2 a3 g0 g1 n0 n1 n2 n3 d0 d1 z1 z2 z7 z8
       have HFZ : Hid (∀ V, Xt vr1 V → V.cell? ⟨B, 1, none⟩ = some (.int .i64 aa) ∧ V.cell? ⟨B, 2, none⟩ = some (.int .i64 nn)) := Lib.hid fun V hV => by
        obtain ⟨a0, a1, a2, a3, g0, g1, n0, n1, n2, n3, d0, d1, z1, z2, z7, z8⟩ := HFD.out V (HXaq.out.trans hV)
        exact ⟨z1, z2⟩
       have HXD : Hid (Xt vr1 vr1.drew) := (Xt.refl vr1).drew
       go_cut [37] from 268 to 280 (fun s37 wr => s37 = .int .i64 1 ∧ Hid (Xt vr1 wr))
       case first =>
        refine wp_region_held_drew (S := fun V => Xt vr1 V) (by kernel_rfl) HXD.out (fun hHeld => ?_)
        refine tkH 0 ?_ ?_ ?_
        rotate_left
        · intro V hSw; obtain ⟨u0, u1⟩ := HFZ.out V hSw; go_simp; first | done | with_reducible rfl
        try simp only [Act.put, nm]
        refine tkH 1 ?_ ?_ ?_
        rotate_left
        · intro V hSw; obtain ⟨u0, u1⟩ := HFZ.out V hSw; go_simp; first | done | with_reducible rfl
        try simp only [Act.put, nm]
        refine tkH 2 ?_ ?_ ?_
        rotate_left
        · intro V hSw; obtain ⟨u0, u1⟩ := HFZ.out V hSw; go_simp; first | done | with_reducible rfl
        try simp only [Act.put, nm]
        refine tkH 5 ?_ ?_ ?_
        rotate_left
        · intro V hSw; obtain ⟨u0, u1⟩ := HFZ.out V hSw; go_simp; first | done | with_reducible rfl
        try simp only [Act.put, nm]
        refine tkH 6 ?_ ?_ ?_
        rotate_left
        · intro V hSw; obtain ⟨u0, u1⟩ := HFZ.out V hSw; go_simp; first | done | with_reducible rfl
        try simp only [Act.put, nm]
        refine rdH 3 (fun K hK => ?_)
        go_simp
        refine (HPA4.out _).mono ?_
        rintro e w' ⟨rfl, rfl⟩
        refine hK.out _ _ HXD.out (fun hHe3 => ?_)
        clear hK K
        try simp only [Act.put, nm]
        refine tkH 4 ?_ ?_ ?_
        rotate_left
        · intro V hSw; obtain ⟨u0, u1⟩ := HFZ.out V hSw; go_simp; first | done | with_reducible rfl
        try simp only [Act.put, nm]
        refine rdH 7 (fun K hK => ?_)
        go_simp
        refine (HPN99.out _).mono ?_
        rintro e w' ⟨rfl, rfl⟩
        refine hK.out _ _ HXD.out (fun hHe7 => ?_)
        clear hK K
        try simp only [Act.put, nm]
        refine tkH 8 ?_ ?_ ?_
        rotate_left
        · intro V hSw; obtain ⟨u0, u1⟩ := HFZ.out V hSw; go_simp; first | done | with_reducible rfl
        try simp only [Act.put, nm]
        refine rdH 9 (fun K hK => ?_)
        go_simp
        refine (HL2.out _ (HXaq.out.trans HXD.out)).mono ?_
        rintro e vs ⟨rfl, hx⟩
        replace HXD := Lib.hid (HXD.out.trans hx)
        clear hx
        refine hK.out _ _ HXD.out (fun hHe9 => ?_)
        clear hK K
        try simp only [Act.put, nm]
        refine tkH 10 ?_ ?_ ?_
        rotate_left
        · intro V hSw; obtain ⟨u0, u1⟩ := HFZ.out V hSw; go_simp; first | done | with_reducible rfl
        try simp only [Act.put, nm]
        refine tkH 11 ?_ ?_ ?_
        rotate_left
        · intro V hSw; obtain ⟨u0, u1⟩ := HFZ.out V hSw; go_simp; first | done | with_reducible rfl
        try simp only [Act.put, nm]
        refine tkH 13 ?_ ?_ ?_
        rotate_left
        · intro V hSw; obtain ⟨u0, u1⟩ := HFZ.out V hSw; go_simp; first | done | with_reducible rfl
        try simp only [Act.put, nm]
        refine tkH 12 ?_ ?_ ?_
        rotate_left
        · intro V hSw; obtain ⟨u0, u1⟩ := HFZ.out V hSw; go_simp; first | done | with_reducible rfl
        try simp only [Act.put, nm]
        refine tkH 14 ?_ ?_ ?_
        rotate_left
        · intro V hSw; obtain ⟨u0, u1⟩ := HFZ.out V hSw; go_simp; first | done | with_reducible rfl
        try simp only [Act.put, nm]
        refine wpAnyH_done (by kernel_rfl) ?_ _
        go_wp2_with fail
        go_meet
        case rel => exact ⟨rfl, HXD⟩
       case rest =>
        obtain ⟨rfl, HXrs⟩ := hcut
        obtain ⟨vs, hvs⟩ : ∃ v, v = wc := ⟨_, rfl⟩
        subst hvs
        replace HXaq := Lib.hid (HXaq.out.trans HXrs.out)
        obtain ⟨a0, a1, a2, a3, g0, g1, n0, n1, n2, n3, d0, d1, z1, z2, z7, z8⟩ := HFD.out _ HXaq.out
        go_upto_region 34 with (first
         | (go_at_call 32; refine (HPA99.out _).mono ?_; rintro e w' ⟨rfl, rfl⟩)
         | (go_at_call 34; refine (HL3.out _ HXaq.out).mono ?_; rintro e vt ⟨rfl, hx⟩; replace HXaq := Lib.hid (HXaq.out.trans hx); obtain ⟨a0, a1, a2, a3, g0, g1, n0, n1, n2, n3, d0, d1, z1, z2, z7, z8⟩ := HFD.out _ HXaq.out; clear hx))
        go_wp2_with (first
         | (go_at_call 32; refine (HPN99.out _).mono ?_; rintro e w' ⟨rfl, rfl⟩)
         | (go_at_call 34; refine (HL4.out _ HXaq.out).mono ?_; rintro e vu ⟨rfl, hx⟩; replace HXaq := Lib.hid (HXaq.out.trans hx); obtain ⟨a0, a1, a2, a3, g0, g1, n0, n1, n2, n3, d0, d1, z1, z2, z7, z8⟩ := HFD.out _ HXaq.out; clear hx)
         | (go_at_call 21; refine (equal_er gb gw mb mw M M _ (HGA.out.xt HXaq.out) (HGWA.out.xt HXaq.out) rfl).mono ?_; rintro e vz ⟨rfl, hx⟩; replace HXaq := Lib.hid (HXaq.out.trans hx); clear hx))
        go_ret
        exact ⟨rfl, (HX0.out.trans HX0a.out).trans HXaq.out⟩
end Go.Proofs.YtdoeejhdenifpaaGreatDoor
