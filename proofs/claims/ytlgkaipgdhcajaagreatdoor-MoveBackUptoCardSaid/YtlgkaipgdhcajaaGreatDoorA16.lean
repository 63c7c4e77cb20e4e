import Derived.Test.YtlgkaipgdhcajaaGreatDoorW46
import Derived.StillTailTactics
import Derived.Test.YtlgkaipgdhcajaaGreatDoorA15
import Derived.Deep.CutBlock
import Derived.Deep.DeepCutAuto
import Derived.Test.YtlgkaipgdhcajaaGreatDoorA8
import Derived.Test.YtlgkaipgdhcajaaGreatDoorA13
/- Equal of two grids. -/
namespace Go.Proofs.YtlgkaipgdhcajaaGreatDoor
open Go.RowKit Go.Sort Go.Maps

set_option maxRecDepth 100000 in
set_option maxHeartbeats 4000000 in
theorem gequal_any (g1 g2 b1 b2 : Nat) (M1 M2 : GM) (w : World) (h1 : GridIs w g1 b1 M1) (h2 : GridIs w g2 b2 M2) :
    Calls Tryz.prog 24 #[.pointer (some ⟨g1, 0, none⟩), .pointer (some ⟨g2, 0, none⟩)] w fun e w' => e = .returned (.bool (eqMB M1 M2)) ∧ Xt w w' := by
  have c1 := h1.cell
  have c2 := h2.cell
  have HM := Lib.hid (meq_any b1 b2 M1 M2 w.drew (h1.mapG.xt (Xt.refl w).drew) (h2.mapG.xt (Xt.refl w).drew))
  clear h1 h2
  go_enter Tryz.func24, Tryz.ntmps24
  go_wp2_with fail
  refine wp_region_still_tail 15 (by kernel_rfl) (by kernel_rfl) ?_
  change wpStill _ _ (World.drew _) _ _ _
  simp only [List.take_succ_cons, List.take_zero, List.drop_succ_cons, List.drop_zero]
  still_step
  still_step
  still_step
  still_step
  still_step
  still_step
  still_step
  still_step
  still_step
  still_step
  still_step
  still_step
  still_step
  still_step
  still_step
  refine wpStill_nil ?_
  change wpList _ _ _ _ _ (World.drew _)
  refine wpList_step (fun K hK => ?_)
  go_simp
  refine HM.out.mono ?_
  rintro e w5 ⟨rfl, hx⟩
  refine hK _ _ ?_
  clear hK K
  have HX := Lib.hid hx
  clear hx
  go_wp2_with fail
  go_ret
  exact ⟨rfl, (Xt.refl w).drew.trans HX.out⟩
end Go.Proofs.YtlgkaipgdhcajaaGreatDoor
/- MoveBack's walk (made by mkq9.py). -/
namespace Go.Proofs.YtlgkaipgdhcajaaGreatDoor
open Go.RowKit Go.Sort Go.Maps Go.Shelf Go.MapKept
attribute [local go_sem] Oper.semAt_some

theorem bulk_put {P : PG} {a : Ad} {c : ContT} (h : BulkP P) (hc : (flatT c.t).length ≤ 1048576) : BulkP (putP P a c) := by
  unfold putP
  split
  · exact h
  split
  · exact h
  split
  · exact fun x hx => h x (List.mem_filter.1 hx).1
  split
  · exact h
  · intro x hx
    rcases mem_setM hx with rfl | hx
    · show (flatT (copyT c.t)).length ≤ 1048576
      rw [flat_copy, List.length_map]; exact hc
    · exact h x hx
theorem bulk_allP : ∀ {l : PG} {P : PG}, BulkP P → BulkP l → BulkP (allP P l)
  | [], _, h, _ => h
  | x :: l, P, h, hl => by
    show BulkP (allP (putP P x.1 x.2) l)
    exact bulk_allP (bulk_put h (hl x List.mem_cons_self)) (fun y hy => hl y (List.mem_cons_of_mem _ hy))
theorem bulk_all {l : PG} (h : BulkP l) : BulkP (allP [] l) := bulk_allP (fun x hx => by cases hx) h
theorem lines_neg (cols : Bool) (k n : Int) (h : LB (manyL cols) k n) (hn : n ≤ 0) (gb mb : Nat) (M : GM) (w : World) (hG : GridIs w gb mb M) (hT : Tabs w) (hO : GOk (er M)) :
    Calls Tryz.prog 15 #[.pointer (some ⟨gb, 0, none⟩), .bool cols, .int .i64 k, .int .i64 n] w fun e w' => Xt w w' ∧ ∃ go mo Mo, e = .returned (.tuple #[.pointer (some ⟨go, 0, none⟩), .int .i64 0]) ∧ GridIs w' go mo Mo ∧ er Mo = goP (cL cols k n) (aL cols k n) (er M) := by
  refine (lines_lb cols k n h gb mb M w hG hT hO).mono ?_
  rintro e w1 ⟨hx, (⟨hst, rfl⟩ | ⟨_, go, mo, Mo, rfl, hGo, hEo⟩)⟩
  · have := goStop_pos hst; omega
  · exact ⟨hx, go, mo, Mo, rfl, hGo, hEo⟩
theorem lines_stop (cols : Bool) (k n : Int) (h : LB (manyL cols) k n) (gb mb : Nat) (M : GM) (w : World) (hG : GridIs w gb mb M) (hT : Tabs w) (hO : GOk (er M)) (hs : goStop (cL cols k n) n (er M) = true) :
    Calls Tryz.prog 15 #[.pointer (some ⟨gb, 0, none⟩), .bool cols, .int .i64 k, .int .i64 n] w fun e w' => e = .returned (.tuple #[.pointer none, .int .i64 20]) ∧ Xt w w' := by
  refine (lines_lb cols k n h gb mb M w hG hT hO).mono ?_
  rintro e w1 ⟨hx, (⟨_, rfl⟩ | ⟨hst, _⟩)⟩
  · exact ⟨rfl, hx⟩
  · rw [show goStop (cellF cols ⟨k, n, manyL cols⟩) n (er M) = true from hs] at hst; cases hst
theorem lines_go (cols : Bool) (k n : Int) (h : LB (manyL cols) k n) (gb mb : Nat) (M : GM) (w : World) (hG : GridIs w gb mb M) (hT : Tabs w) (hO : GOk (er M)) (hs : goStop (cL cols k n) n (er M) = false) :
    Calls Tryz.prog 15 #[.pointer (some ⟨gb, 0, none⟩), .bool cols, .int .i64 k, .int .i64 n] w fun e w' => Xt w w' ∧ ∃ go mo Mo, e = .returned (.tuple #[.pointer (some ⟨go, 0, none⟩), .int .i64 0]) ∧ GridIs w' go mo Mo ∧ er Mo = goP (cL cols k n) (aL cols k n) (er M) := by
  refine (lines_lb cols k n h gb mb M w hG hT hO).mono ?_
  rintro e w1 ⟨hx, (⟨hst, rfl⟩ | ⟨_, go, mo, Mo, rfl, hGo, hEo⟩)⟩
  · rw [show goStop (cellF cols ⟨k, n, manyL cols⟩) n (er M) = false from hs] at hst; cases hst
  · exact ⟨hx, go, mo, Mo, rfl, hGo, hEo⟩
theorem eqM_er {M1 M2 : GM} (h : er M1 = er M2) : eqMB M1 M2 = true := by
  refine eqMB_yes (by rw [← er_len M1, ← er_len M2, h]) (fun a ha => ?_)
  obtain ⟨x, hx⟩ := Option.isSome_iff_exists.1 (lkM_mem_iff.2 ha)
  have h1 := er_lk a M1
  rw [h, er_lk, hx] at h1
  cases hy : lkM a M2 with
  | none => rw [hy] at h1; cases h1
  | some y =>
    rw [hy] at h1
    have e : y.1 = x.1 := Option.some.inj h1
    unfold okAt
    rw [hx, hy]
    simp only
    rw [e]; exact sameCB_refl _
theorem equal_er (g1 g2 b1 b2 : Nat) (M1 M2 : GM) (w : World) (h1 : GridIs w g1 b1 M1) (h2 : GridIs w g2 b2 M2) (he : er M1 = er M2) :
    Calls Tryz.prog 24 #[.pointer (some ⟨g1, 0, none⟩), .pointer (some ⟨g2, 0, none⟩)] w fun e w' => e = .returned (.bool true) ∧ Xt w w' := by
  have h := gequal_any g1 g2 b1 b2 M1 M2 w h1 h2
  rw [eqM_er he] at h
  exact h
theorem len_n (gb mb : Nat) (M : GM) (n : Int) (w : World) (h : GridIs w gb mb M) (hn : (M.length : Int) = n) : Calls Tryz.prog 21 #[.pointer (some ⟨gb, 0, none⟩)] w fun e w' => e = .returned (.int .i64 n) ∧ w = w' := by
  rw [← hn]; exact glen_any gb mb M w h
set_option maxRecDepth 100000 in
set_option maxHeartbeats 16000000 in
theorem moveBack_any (l : List PI) (lv : Value) (cols : Bool) (line n m : Int) (w : World) (hT : Tabs w) (hl : PutsIn w lv l) (hs : ∀ x ∈ l, smallT x.c.t) (hbk : BulkP (pis l)) (hb1 : -9223372036854775808 ≤ line ∧ line ≤ 9223372036854775807) (hb2 : -9223372036854775808 ≤ n ∧ n ≤ 9223372036854775807) (hb3 : -9223372036854775808 ≤ m ∧ m ≤ 9223372036854775807) :
    Calls Tryz.prog 5 #[lv, .bool cols, .int .i64 line, .int .i64 n, .int .i64 m] w fun e w' => e = .returned (.bool true) ∧ Xt w w' := by
  obtain ⟨la, lc, rfl, hlc, hlc2⟩ := hl.shape
  have HOK0 := Lib.hid (fun M (hE : er M = allP [] (pis l)) => (show GOk (er M) ∧ BulkP (er M) by rw [hE]; exact ⟨allP_ok GOk.nil (pis_ok hl), bulk_all hbk⟩))
  have HT := Lib.hid hT
  have HL := Lib.hid hl
  have HS := Lib.hid hs
  obtain ⟨k, hk⟩ : ∃ k, placeZ cols line = k := ⟨_, rfl⟩
  have HPL := Lib.hid (fun w => placeL_any cols line w hb1.1 hb1.2)
  have hkb := placeZ_bd cols line
  rw [hk] at HPL hkb
  obtain ⟨q1, hq1⟩ : ∃ q1, pickZ n 40 = q1 := ⟨_, rfl⟩
  have HPK1 := Lib.hid (fun w => pickz_any n 40 w hb2.1 hb2.2 (by omega) (by omega))
  have hqb1 := pickZ_lt (c := n) (n := 40) (by omega)
  rw [hq1] at HPK1 hqb1
  obtain ⟨q2, hq2⟩ : ∃ q2, pickZ m 40 = q2 := ⟨_, rfl⟩
  have HPK2 := Lib.hid (fun w => pickz_any m 40 w hb3.1 hb3.2 (by omega) (by omega))
  have hqb2 := pickZ_lt (c := m) (n := 40) (by omega)
  rw [hq2] at HPK2 hqb2
  obtain ⟨p, hp⟩ : ∃ p, 1 + q1 = p := ⟨_, rfl⟩
  obtain ⟨q, hq⟩ : ∃ q, 1 + q2 = q := ⟨_, rfl⟩
  have hpb : 0 < p ∧ p ≤ 40 := by omega
  have hqb : 0 < q ∧ q ≤ 40 := by omega
  have hwp : IntKind.i64.wrap (1 + q1) = p := by rw [wrap_idz (by omega) (by omega)]; exact hp
  have hwq : IntKind.i64.wrap (1 + q2) = q := by rw [wrap_idz (by omega) (by omega)]; exact hq
  have hnp : IntKind.i64.wrap (-p) = -p := wrap_idz (by omega) (by omega)
  have hnq : IntKind.i64.wrap (-q) = -q := wrap_idz (by omega) (by omega)
  have hpq : IntKind.i64.wrap (p + q) = p + q := wrap_idz (by omega) (by omega)
  have hnpq : IntKind.i64.wrap (-p - q) = -p - q := wrap_idz (by omega) (by omega)
  have hmm := many_bd cols
  have hm2 : 256 ≤ manyL cols := by cases cols <;> decide
  have L1 : Hid (LB (manyL cols) k p) := ⟨hmm.1, hmm.2, hkb.1, hkb.2, by omega, by omega⟩
  have L2 : Hid (LB (manyL cols) k q) := ⟨hmm.1, hmm.2, hkb.1, hkb.2, by omega, by omega⟩
  have L3 : Hid (LB (manyL cols) k (p + q)) := ⟨hmm.1, hmm.2, hkb.1, hkb.2, by omega, by omega⟩
  have L4 : Hid (LB (manyL cols) k (-p)) := ⟨hmm.1, hmm.2, hkb.1, hkb.2, by omega, by omega⟩
  have L5 : Hid (LB (manyL cols) k (-q)) := ⟨hmm.1, hmm.2, hkb.1, hkb.2, by omega, by omega⟩
  have L6 : Hid (LB (manyL cols) k (-p - q)) := ⟨hmm.1, hmm.2, hkb.1, hkb.2, by omega, by omega⟩
  obtain ⟨B, hB⟩ : ∃ B, w.heap.size = B := ⟨_, rfl⟩
  obtain ⟨w0, hw0⟩ : ∃ w0, w.alloc (.cells #[.bool false] 4) = w0 := ⟨_, rfl⟩
  have hs0 : w0.heap.size = B + 1 := by rw [← hw0, ← hB]; simp
  have HX0 : Hid (Xt w w0) := by unfold Hid; rw [← hw0]; exact (Xt.refl _).alloc _
  have HR8 : Hid (w0.heap[B]? = some (.cells #[.bool false] 4 (0, 0))) := by unfold Hid; rw [← hw0, ← hB]; exact (MapKept.heap_alloc w _).1
  clear hT hl hs hk hq1 hq2 hp hq hb1 hb2 hb3 hmm hbk
  refine (callsIn_wide (n := 25)).1 ?_
  refine callsIn_of_wp_marks Tryz.func5 rfl trivial ?_ rfl
  simp only [Tryz.ntmps5, List.size_toArray, List.length_cons, List.length_nil, Nat.reduceAdd, Nat.reduceSub, Array.replicate_succ, Array.replicate_zero, List.push_toArray, List.append_toArray, List.nil_append, List.cons_append]
  refine wpIn_wide.2 ?_
  refine wp_mono (Q := noPanic (bodyPostM Fence.wide 25 Tryz.prog Tryz.f5 (fun e w' => e = .returned (.bool true) ∧ Xt w w'))) ?_ noPanic_le
  have hm1 : True := trivial
  have hm2' : True := trivial
  go_upto_region 12 with (first
    | (go_at_call 12; refine (made22_any l (.slice la l.length lc) w0 (HT.out.xt HX0.out) (HL.out.xt HX0.out) HS.out).mono ?_; rintro e w1 ⟨gb, mb, M, rfl, hG, hE, hx1⟩; have HX01 := Lib.hid hx1; have HG1 := Lib.hid hG; have HE := Lib.hid hE; clear hG hE hx1)
    | (go_at_call 11; refine (known_any _ (HT.out.xt (HX0.out.trans HX01.out))).mono ?_; rintro e w2 ⟨rfl, hx2⟩; have HX02 := Lib.hid (HX01.out.trans hx2); have HG2 := Lib.hid (HG1.out.xt hx2); clear hx2)
    | (go_at_call 13; refine (HPL.out _).mono ?_; rintro e w' ⟨rfl, rfl⟩)
    | (go_at_call 14; have hm0 := hm1; clear hm1 hm0; refine (HPK1.out _).mono ?_; rintro e w' ⟨rfl, rfl⟩)
    | (go_at_call 14; have hm0 := hm2'; clear hm2' hm0; refine (HPK2.out _).mono ?_; rintro e w' ⟨rfl, rfl⟩)
    | (go_at_call 15; refine (lines_lb cols k p L1.out gb mb M w2 HG2.out (HT.out.xt (HX0.out.trans HX02.out)) (HOK0.out M HE.out).1).mono ?_; rintro e w3 ⟨hx3, hr⟩; have HX23 := Lib.hid hx3; obtain ⟨e8, g8⟩ := one_row (rowX (HX02.out.trans hx3) HR8.out); clear hx3; rcases hr with ⟨hst, rfl⟩ | ⟨hst, ga, ma, Ma, rfl, hGa, hEa⟩; (have HST := Lib.hid hst; clear hst); rotate_left; (have HST := Lib.hid hst; have HGa := Lib.hid hGa; have HEa := Lib.hid hEa; clear hst hGa hEa); rotate_left))
  · have hc : (w3.setCell ⟨B, 0, none⟩ (.bool true)).cell? ⟨B, 0, none⟩ = some (.bool true) := World.cell?_setCell_same _ _ _ e8
    exact ⟨_, results_one rfl _ _ B (.bool true) rfl (load_bool1 _ _ _ hc), rfl, ((HX0.out.trans HX02.out).trans HX23.out).grownB (setCell_grown _ _ _ _) (fun q hq => by cases hq; omega)⟩
  · obtain ⟨hg, hbg⟩ := HOK0.out M HE.out
    have HOG := Lib.hid hg
    have HBG := Lib.hid hbg
    have hall := goStop_all HST.out hpb.1
    have HALL := Lib.hid hall
    have HOA : Hid (GOk (er Ma)) := by unfold Hid; rw [HEa.out]; exact goP_ok (lines_roadV L1.out) (lines_monoC L1.out) hg
    have HBA : Hid (BulkP (er Ma)) := by unfold Hid; rw [HEa.out]; exact bulk_go hg hbg
    have HG3 : Hid (GridIs w3 gb mb M) := HG2.out.xt HX23.out
    have HXw3 : Hid (Xt w w3) := (HX0.out.trans HX02.out).trans HX23.out
    have HR8a : Hid (w3.heap[B]? = some (.cells #[.bool false] 4 (0, 0))) := rowX (HX02.out.trans HX23.out) HR8.out
    obtain ⟨nG, hnG⟩ : ∃ nG : Int, (M.length : Int) = nG := ⟨_, rfl⟩
    have HNG := Lib.hid hnG
    have hlA : (Ma.length : Int) = nG := by rw [← hnG, ← er_len Ma, HEa.out, len_law hall, er_len]
    have HLA := Lib.hid hlA
    clear hg hbg hall hnG hlA e8 g8
    have hm1 : True := trivial
    have hm2' : True := trivial
    have hm3 : True := trivial
    have hm4 : True := trivial
    go_upto_region 15 with (first
      | (go_at_call 15; refine (lines_neg cols k (-p) L4.out (by omega) ga ma Ma w3 HGa.out (HT.out.xt HXw3.out) HOA.out).mono ?_; rintro e w4 ⟨hx4, gc, mc, Mc, rfl, hGc, hEc⟩; obtain ⟨R, hR⟩ : ∃ R, w4.heap.size = R := ⟨_, rfl⟩; obtain ⟨w5, hw5⟩ : ∃ w5, w4.alloc (.cells #[.pointer (some ⟨gc, 0, none⟩)] 38) = w5 := ⟨_, rfl⟩; have hs34 := hx4.size; have hx45 : Xt w4 w5 := (by rw [← hw5]; exact (Xt.refl _).alloc _); have HX35 : Hid (Xt w3 w5) := hx4.trans hx45; have HR17 : Hid (w5.heap[R]? = some (.cells #[.pointer (some ⟨gc, 0, none⟩)] 38 (0, 0))) := (by unfold Hid; rw [← hw5, ← hR]; exact (MapKept.heap_alloc w4 _).1); have HGc : Hid (GridIs w5 gc mc Mc) := hGc.xt hx45; have HEc := Lib.hid hEc; have HLC : Hid ((Mc.length : Int) = nG) := (by unfold Hid; rw [← er_len Mc, hEc, HEa.out, len_law (back_all L1.out L4.out hpb.1 HOG.out HALL.out), ← er_len Ma, HEa.out] at *; rw [← HNG.out, len_law HALL.out, er_len]); obtain ⟨e17, g17⟩ := one_row HR17.out; clear hx4 hGc hEc hx45)
      | (go_at_call 21; have hm0 := hm1; clear hm1 hm0; refine (len_n gc mc Mc nG w5 HGc.out HLC.out).mono ?_; rintro e w' ⟨rfl, rfl⟩)
      | (go_at_call 21; have hm0 := hm2'; clear hm2' hm0; refine (len_n gb mb M nG w5 (HG3.out.xt HX35.out) HNG.out).mono ?_; rintro e w' ⟨rfl, rfl⟩)
      | (go_at_call 21; have hm0 := hm3; clear hm3 hm0; refine (len_n ga ma Ma nG w5 (HGa.out.xt HX35.out) HLA.out).mono ?_; rintro e w' ⟨rfl, rfl⟩)
      | (go_at_call 21; have hm0 := hm4; clear hm4 hm0; refine (len_n gb mb M nG w5 (HG3.out.xt HX35.out) HNG.out).mono ?_; rintro e w' ⟨rfl, rfl⟩))
    obtain ⟨lA, hlA⟩ : ∃ lA, lostP (er Ma) = lA := ⟨_, rfl⟩
    obtain ⟨lG, hlG⟩ : ∃ lG, lostP (er M) = lG := ⟨_, rfl⟩
    obtain ⟨lw, hlw⟩ : ∃ lw, lowP cols p (er M) = lw := ⟨_, rfl⟩
    have HLOA := Lib.hid (fun V (hV : Xt w5 V) => lost_any ga ma Ma V (HGa.out.xt (HX35.out.trans hV)) HBA.out)
    have HLOG := Lib.hid (fun V (hV : Xt w5 V) => lost_any gb mb M V (HG3.out.xt (HX35.out.trans hV)) HBG.out)
    have HLW := Lib.hid (fun V (hV : Xt w5 V) => low_any gb mb M cols p V (HG3.out.xt (HX35.out.trans hV)) (by omega))
    rw [hlA] at HLOA
    rw [hlG] at HLOG
    rw [hlw] at HLW
    have HlA := Lib.hid hlA
    have HlG := Lib.hid hlG
    have Hlw := Lib.hid hlw
    obtain ⟨wh, hwh⟩ : ∃ wh, (decide (lA = lG) && !lw) = wh := ⟨_, rfl⟩
    have HWH := Lib.hid hwh
    have HXw5 : Hid (Xt w w5) := HXw3.out.trans HX35.out
    clear hlA hlG hlw hwh e17 g17
    have hm1 : True := trivial
    have hm2' : True := trivial
    go_cut [19] from 95 to 106 (fun s19 wc => s19 = .bool wh ∧ Hid (Xt w5 wc))
    case first =>
      by_cases e : lA = lG
      · have hb : ((lA : Int) == (lG : Int)) = true := by simp [e]
        have he : (!lw) = wh := by rw [← HWH.out, decide_eq_true e]; rfl
        have HEE := Lib.hid he
        clear e he
        go_wp2_with (first
          | (go_at_call 22; have hm0 := hm1; clear hm1 hm0; refine (HLOA.out _ (Xt.refl _)).mono ?_; rintro e v1 ⟨rfl, hv1⟩; have HV1 : Hid (Xt w5 v1) := hv1; clear hv1)
          | (go_at_call 22; have hm0 := hm2'; clear hm2' hm0; refine (HLOG.out _ HV1.out).mono ?_; rintro e v2 ⟨rfl, hv2⟩; have HV2 : Hid (Xt w5 v2) := HV1.out.trans hv2; clear hv2)
          | (go_at_call 23; refine (HLW.out _ HV2.out).mono ?_; rintro e v3 ⟨rfl, hv3⟩; have HV3 : Hid (Xt w5 v3) := HV2.out.trans hv3; clear hv3))
        go_meet
        case rel => exact ⟨by rw [← HEE.out], HV3⟩
      · have hb : ((lA : Int) == (lG : Int)) = false := by simp; omega
        have he : false = wh := by rw [← HWH.out, decide_eq_false e]; rfl
        have HEE := Lib.hid he
        clear e he
        go_wp2_with (first
          | (go_at_call 22; have hm0 := hm1; clear hm1 hm0; refine (HLOA.out _ (Xt.refl _)).mono ?_; rintro e v1 ⟨rfl, hv1⟩; have HV1 : Hid (Xt w5 v1) := hv1; clear hv1)
          | (go_at_call 22; have hm0 := hm2'; clear hm2' hm0; refine (HLOG.out _ HV1.out).mono ?_; rintro e v2 ⟨rfl, hv2⟩; have HV2 : Hid (Xt w5 v2) := HV1.out.trans hv2; clear hv2))
        go_meet
        case rel => exact ⟨by rw [← HEE.out], HV2⟩
    case rest =>
      obtain ⟨rfl, HX5c⟩ := hcut
      obtain ⟨wq, hwq⟩ : ∃ wq, wq = wc := ⟨_, rfl⟩
      subst hwq
      have hBA : Hid (wh = true → er Mc = er M) := Lib.hid fun e => by
        have h1 := HWH.out
        rw [e] at h1
        simp only [Bool.and_eq_true, decide_eq_true_eq, Bool.not_eq_true'] at h1
        have h2 := back_law L1.out L4.out hpb.1 HOG.out HST.out (by rw [← HEa.out, HlA.out, HlG.out]; exact h1.1) (by rw [Hlw.out]; exact h1.2)
        rw [HEc.out, HEa.out]; exact h2
      obtain ⟨e17, g17⟩ := one_row (rowX HX5c.out HR17.out)
      go_upto_region 16 with fail
      go_cut [113] from 107 to 113 (fun s113 wc => s113 = .bool false ∧ Hid (Xt wq wc))
      case first =>
        cases wh
        · go_wp2_with fail
          go_meet
          case rel => exact ⟨rfl, Xt.refl _⟩
        · have HEQ := Lib.hid (equal_er gc gb mc mb Mc M wq (HGc.out.xt HX5c.out) (HG3.out.xt (HX35.out.trans HX5c.out)) (hBA.out rfl))
          go_wp2_with (first | (go_at_call 24; refine (HEQ.out).mono ?_; rintro e v1 ⟨rfl, hv1⟩; have HV1 : Hid (Xt wq v1) := hv1; clear hv1))
          go_meet
          case rel => exact ⟨rfl, HV1⟩
      case rest =>
        obtain ⟨rfl, HX6c⟩ := hcut
        obtain ⟨w6, hw6⟩ : ∃ w6, w6 = wc := ⟨_, rfl⟩
        subst hw6
        have HX56 : Hid (Xt w5 w6) := HX5c.out.trans HX6c.out
        have HXw6 : Hid (Xt w w6) := HXw5.out.trans HX56.out
        have HG6 : Hid (GridIs w6 gb mb M) := HG3.out.xt (HX35.out.trans HX56.out)
        have HGa6 : Hid (GridIs w6 ga ma Ma) := HGa.out.xt (HX35.out.trans HX56.out)
        have HGc6 : Hid (GridIs w6 gc mc Mc) := HGc.out.xt HX56.out
        have HR17b := Lib.hid (rowX HX56.out HR17.out)
        have HR8b : Hid (w6.heap[B]? = some (.cells #[.bool false] 4 (0, 0))) := rowX (HX35.out.trans HX56.out) HR8a.out
        obtain ⟨S6, hS6⟩ : ∃ S6, w6.heap.size = S6 := ⟨_, rfl⟩
        have hRS : R < S6 := by have := (Array.getElem?_eq_some_iff.1 HR17b.out).1; omega
        have hBS : B < R := by
          have h1 := (Array.getElem?_eq_some_iff.1 HR8a.out).1
          have h2 := HX35.out.size
          have h3 := (Array.getElem?_eq_some_iff.1 HR17.out).1
          omega
        clear e17 g17 HX5c HX6c HLOA HLOG HLW
        go_wp2_with (first
          | (go_at_call 16; refine (all22_any gb _).mono ?_; rintro e w' ⟨rfl, rfl⟩))
        obtain ⟨W0, hW0⟩ : ∃ W0, (w6.alloc (.cells #[.pointer (some ⟨gb, 0, none⟩)] 38)).alloc (.cells #[.func (.func 84) #[] #[]] 53) = W0 := ⟨_, rfl⟩
        have hsW : W0.heap.size = S6 + 2 := by rw [← hW0]; simp [hS6]
        have HX6W : Hid (Xt w6 W0) := by unfold Hid; rw [← hW0]; exact ((Xt.refl _).alloc _).alloc _
        have HcgW : W0.cell? ⟨S6, 0, none⟩ = some (.pointer (some ⟨gb, 0, none⟩)) := by
          have := rowX (w := w6.alloc (.cells #[.pointer (some ⟨gb, 0, none⟩)] 38)) (w' := W0) (by rw [← hW0]; exact (Xt.refl _).alloc _) (MapKept.heap_alloc w6 _).1
          rw [hS6] at this
          exact (one_row this).1
        have rBw : W0.heap[S6 + 1]? = some (.cells #[.func (.func 84) #[] #[]] 53 (0, 0)) := by
          rw [← hW0]
          have := (MapKept.heap_alloc (w6.alloc (.cells #[.pointer (some ⟨gb, 0, none⟩)] 38)) (.cells #[.func (.func 84) #[] #[]] 53)).1
          simpa [hS6] using this
        try simp only [hS6]
        simp only [hW0]
        clear hW0
        generalize hA0 : Act.mk _ _ = a0
        refine (wpIn_wide (n := 25)).1 ?_
        refine rangeFunc_told (n := 25) (by omega) (gf := 98) (lb := #[.pointer (some ⟨S6, 0, none⟩), .pointer (some ⟨S6 + 1, 0, none⟩)]) (by subst hA0; rfl) (enters_of Tryz.func98 (by kernel_rfl) rfl)
          (some1_told (fun _ => false) 84 #[] (enters_of Tryz.func84 (by kernel_rfl) rfl) (fun _ => true) w6.heap.size w6 rfl (fun _ => True) (fun _ _ _ _ _ => trivial) (fun a W _ => all1_any a W) (25 - 1) (by omega) S6 (S6 + 1) gb mb M HG6.out W0 HX6W.out trivial (by omega) HcgW rBw)
          (fun h k => ⟨h.1.trans k.1, h.2.trans k.2⟩) (fun W l o o' hl ho hc hw => ⟨belowK_b (w := W0) (by omega) W l o o' hl ho hc hw, KeepsT.of_grown (grownBy_putObj' W l o') (fun j o2 e h2 => by cases e; rw [ho] at h2; cases h2; cases o <;> simp_all [keptO, Obj.isCells, Obj.isWalk])⟩) (Below.refl _ _) (fun _ => rfl)
          (fun pre W => Xt W0 W) (fun c pre W => False) (fun s X Y row hs hg hr => hs.grownB hg (fun q hq => (hr q hq).1)) (fun c s X Y row hs hg hr => hs.elim) (Xt.refl _)
          (fun x a' W => ∃ (z : CE) (Bx By nT : Nat), z.1 = copyC x.2.1 ∧ z.2 = x.2.2 ∧ W.heap[Bx]? = some (.cells #[.int .i64 x.1.1, .int .i64 x.1.2] 24 (0, 0)) ∧ W.heap[By]? = some (.cells #[.int .i64 z.1.kind, .int .i64 z.1.v.kind, .float .f64 z.1.v.x, .string z.1.v.s, .bool z.1.v.b, .int .i64 z.1.v.f, .int .i64 z.1.t.kind, .int .i64 z.1.t.op, .float .f64 z.1.t.x, .string z.1.t.s, .bool z.1.t.b, .int .i64 z.1.t.f, .int .i64 z.1.t.ref.a.1, .int .i64 z.1.t.ref.a.2, .bool z.1.t.ref.cf, .bool z.1.t.ref.rf, .int .i64 z.1.t.to.a.1, .int .i64 z.1.t.to.a.2, .bool z.1.t.to.cf, .bool z.1.t.to.rf, .slice z.2 z.1.t.args.length z.1.t.args.length] 50 (0, 0)) ∧ smallT z.1.t ∧ ArgsIn W nT (.slice z.2 z.1.t.args.length z.1.t.args.length) z.1.t.args ∧ (x.1, x.2.1) ∈ er M ∧
            a' = { tmps := (((a0.tmps.setIfInBounds 116 (adW x.1)).setIfInBounds 117 (ceV z)).setIfInBounds 20 (.pointer (some ⟨Bx, 0, none⟩))).setIfInBounds 21 (.pointer (some ⟨By, 0, none⟩)), defers := [] })
          (fun x a' _ X Y row hs hg hr => by
            obtain ⟨z, Bx, By, nT, e1, e2, h1, h2, h3, h4, h5⟩ := hs
            exact ⟨z, Bx, By, nT, e1, e2, rowCells_own h1 hg (fun r e => (hr r e).2), rowCells_own h2 hg (fun r e => (hr r e).2), h3, h4.kept (cellsIn_walk hg (fun r e => (hr r e).2)), h5⟩)
          ?assign ?body ?done ?stop
        case stop =>
          rintro D c pre W hD hS hF hK
          exact hF.elim
        case assign =>
          rintro l0 pre x W K hI ⟨V, hIV, ⟨hxV, hsm, nT, hA⟩, hmem⟩ hK
          subst hA0
          obtain ⟨⟨c, d⟩, tc, tp⟩ := x
          obtain ⟨z, hz1, hz2⟩ : ∃ z : CE, z.1 = copyC tc ∧ z.2 = tp := ⟨(copyC tc, tp), rfl, rfl⟩
          have hzv : copyCV tc tp = ceV z := by rw [← ceV_copy]; obtain ⟨z1, z2⟩ := z; simp only at hz1 hz2; rw [hz1, hz2]
          have hzA : smallT z.1.t ∧ ArgsIn W nT (.slice z.2 z.1.t.args.length z.1.t.args.length) z.1.t.args := by
            rw [hz1, hz2]
            refine ⟨smallT_copy _ hsm, ?_⟩
            show ArgsIn _ _ (.slice tp (copyT tc.t).args.length (copyT tc.t).args.length) (copyT tc.t).args
            rw [copyT_len, copyT_args]
            exact hA.args
          have HZ := Lib.hid (show z.1 = copyC tc ∧ z.2 = tp from ⟨hz1, hz2⟩)
          have HZA := Lib.hid hzA
          have HI := Lib.hid hI
          simp only [teV, hzv]
          clear hz1 hz2 hzv hzA hA hsm hIV hxV hI
          obtain ⟨wA, hwA, hbA, hsA, kA0, kA1⟩ := box1 W c d 24
          obtain ⟨wZ, wR, hwZ, hwR, hrZ, hrR, hxR, hsR, hxZ, hsZ⟩ := boxR wA z
          rw [hsA] at hrZ hwR hrR
          have hrA : wA.heap[W.heap.size]? = some (.cells #[.int .i64 c, .int .i64 d] 24 (0, 0)) := by rw [← hwA]; exact World.alloc_heap_new W _
          have hxWR := Lib.hid (Xt.trans hbA hxR)
          have HRA := Lib.hid ((hxR.block _ (by omega)).trans hrA)
          have HRZ := Lib.hid hrZ
          have HRR := Lib.hid hrR
          have HWR := Lib.hid hwR
          clear hrZ hwR hrR hrA kA0 kA1 hbA hxZ hxR
          gi_wp2_with (first | (refine wpListIn_store_row (P := Tryz.prog) rfl 50 _ _ rfl (W.heap.size + 1) #[.int .i64 z.1.kind, .int .i64 z.1.v.kind, .float .f64 z.1.v.x, .string z.1.v.s, .bool z.1.v.b, .int .i64 z.1.v.f, .int .i64 z.1.t.kind, .int .i64 z.1.t.op, .float .f64 z.1.t.x, .string z.1.t.s, .bool z.1.t.b, .int .i64 z.1.t.f, .int .i64 z.1.t.ref.a.1, .int .i64 z.1.t.ref.a.2, .bool z.1.t.ref.cf, .bool z.1.t.ref.rf, .int .i64 z.1.t.to.a.1, .int .i64 z.1.t.to.a.2, .bool z.1.t.to.cf, .bool z.1.t.to.rf, .slice z.2 z.1.t.args.length z.1.t.args.length] rfl rfl 50 _ HRZ.out (by kernel_rfl) rfl (by simp [Value.oneCell']) ?_; rw [HWR.out]))
          have hx := hxWR.out
          refine hK _ _ (keepsFrom_xt hx _) ⟨hx.mono (by have := HI.out.size; omega), KeepsT.of_xt hx⟩ (HI.out.trans hx) ?_
          refine ⟨z, W.heap.size, W.heap.size + 1, nT, HZ.out.1, HZ.out.2, HRA.out, HRR.out, HZA.out.1, HZA.out.2.xt hx, hmem, ?_⟩
          simp only [List.setIfInBounds_toArray, List.set_cons_zero, List.set_cons_succ]
        case done =>
          rintro D xs W hD hS hI hK
          subst hA0
          have HXW : Hid (Xt w6 W) := HX6W.out.trans hI
          have HXwW : Hid (Xt w W) := HXw6.out.trans HXW.out
          have HGW : Hid (GridIs W gb mb M) := HG6.out.xt HXW.out
          have HGaW : Hid (GridIs W ga ma Ma) := HGa6.out.xt HXW.out
          have HR8W : Hid (W.heap[B]? = some (.cells #[.bool false] 4 (0, 0))) := rowX HXW.out HR8b.out
          have HKD := Lib.hid hK
          have hDB : B < D := by omega
          have hBw : w.heap.size ≤ B := by omega
          have hEq5 : Hid (∀ {Mu Mv Mx : GM}, er Mu = goP (cL cols k (-p)) (aL cols k (-p)) (er M) → er Mv = goP (cL cols k (-q)) (aL cols k (-q)) (er Mu) → er Mx = goP (cL cols k (-p - q)) (aL cols k (-p - q)) (er M) → er Mv = er Mx) := Lib.hid fun h1 h2 h3 => by
            rw [h2, h1, h3]; exact sub_law L4.out L5.out L6.out hpb.1 hqb.1 HOG.out
          have HOU : Hid (∀ {Mu : GM}, er Mu = goP (cL cols k (-p)) (aL cols k (-p)) (er M) → GOk (er Mu)) := Lib.hid fun h => by rw [h]; exact goP_ok (lines_roadV L4.out) (lines_monoC L4.out) HOG.out
          have hst2 := stop_law L1.out L2.out L3.out hpb.1 hqb.1 HOG.out HST.out
          have HEND : Hid (∀ V, Xt W V → V.heap[D]? = some (.deferred (some [])) ∧ (V.cell? ⟨B, 0, none⟩ = some (.bool false) ∧ V.frozen? ⟨B, 0, none⟩ = false)) := Lib.hid fun V hV => ⟨(hV.block D (Array.getElem?_eq_some_iff.1 HKD.out).1).trans HKD.out, one_row (rowX hV HR8W.out)⟩
          have HFIN : Hid (∀ V, Xt W V → ((V.setCell ⟨B, 0, none⟩ (.bool true)).heap[D]? = some (.deferred (some []))) ∧ ((V.setCell ⟨B, 0, none⟩ (.bool true)).putObj D (.deferred none)).cell? ⟨B, 0, none⟩ = some (.bool true) ∧ Xt w ((V.setCell ⟨B, 0, none⟩ (.bool true)).putObj D (.deferred none))) := Lib.hid fun V hV => by
            obtain ⟨h1, h2, _⟩ := HEND.out V hV
            have h3 : (V.setCell ⟨B, 0, none⟩ (.bool true)).cell? ⟨B, 0, none⟩ = some (.bool true) := World.cell?_setCell_same _ _ _ h2
            refine ⟨(Below.heap_setCell _ _ _ _ (fun e => by simp at e; omega)).trans h1, (World.cell?_of_block (w := V.setCell ⟨B, 0, none⟩ (.bool true)) (a := ⟨B, 0, none⟩) (World.putObj_heap_other (by show B ≠ D; omega))).trans h3, ?_⟩
            exact ((HXwW.out.trans hV).grownB (setCell_grown _ _ _ _) (fun q hq => by cases hq; omega)).grownB (grownBy_putObj' _ D _) (fun q hq => by cases hq; omega)
          clear hI hS hK
          obtain ⟨st, hst3⟩ : ∃ st, goStop (cL cols k (p + q)) (p + q) (er M) = st := ⟨_, rfl⟩
          have hst4 : goStop (cL cols k q) q (er Ma) = st := by rw [HEa.out]; exact hst2.trans hst3
          have HS3 := Lib.hid hst3
          have HS4 := Lib.hid hst4
          clear hst2 hst3 hst4
          have mk1 : True := trivial
          have mk2 : True := trivial
          have mk3 : True := trivial
          have mk4 : True := trivial
          have mk5 : True := trivial
          have mk6 : True := trivial
          have mk7 : True := trivial
          have mk8 : True := trivial
          cases st
          · go_upto_region 30 with (first
              | (go_at_call 15; have hm0 := mk1; clear mk1 hm0; refine (lines_go cols k q L2.out ga ma Ma W HGaW.out (HT.out.xt HXwW.out) HOA.out HS4.out).mono ?_; rintro e x1 ⟨hx1, gt, mt, Mt, rfl, hGt, hEt⟩; have HX1 : Hid (Xt W x1) := hx1; have HGt := Lib.hid hGt; have HEt := Lib.hid hEt; clear hx1 hGt hEt)
              | (go_at_call 15; have hm0 := mk2; clear mk2 hm0; refine (lines_go cols k (p + q) L3.out gb mb M x1 (HGW.out.xt HX1.out) (HT.out.xt (HXwW.out.trans HX1.out)) HOG.out HS3.out).mono ?_; rintro e x2 ⟨hx2, go, mo, Mo, rfl, hGo, hEo⟩; have HX2 : Hid (Xt W x2) := HX1.out.trans hx2; have HGt : Hid (GridIs x2 gt mt Mt) := HGt.out.xt hx2; have HGo := Lib.hid hGo; have HEo := Lib.hid hEo; have HBO : Hid (BulkP (er Mo)) := (by unfold Hid; rw [hEo]; exact bulk_go HOG.out HBG.out); clear hx2 hGo hEo))
            have HLO := Lib.hid (lost_any go mo Mo x2 HGo.out HBO.out)
            obtain ⟨lO, hlO⟩ : ∃ lO, lostP (er Mo) = lO := ⟨_, rfl⟩
            rw [hlO] at HLO
            have HlO := Lib.hid hlO
            have HLG := Lib.hid (fun V (hV : Xt W V) => lost_any gb mb M V (HGW.out.xt hV) HBG.out)
            rw [HlG.out] at HLG
            have HLW := Lib.hid (fun V (hV : Xt W V) => low_any gb mb M cols (p + q) V (HGW.out.xt hV) (by omega))
            obtain ⟨l2, hl2⟩ : ∃ l2, lowP cols (p + q) (er M) = l2 := ⟨_, rfl⟩
            rw [hl2] at HLW
            have HL2 := Lib.hid hl2
            clear hlO hl2
            by_cases e : lO = lG
            · have hb : ((lO : Int) == (lG : Int)) = true := by simp [e]
              have HE3 := Lib.hid e
              clear e
              cases l2
              · have HTO : Hid (er Mt = er Mo) := by
                  unfold Hid
                  rw [HEt.out, HEo.out, HEa.out]
                  exact add_law L1.out L2.out L3.out hpb.1 hqb.1 HOG.out HST.out HS3.out (by rw [← HEo.out, HlO.out, HlG.out]; exact HE3.out) HL2.out
                have mk9 : True := trivial
                go_wp2_with (first
                  | (go_at_call 22; have hm0 := mk6; clear mk6 hm0; refine (HLO.out).mono ?_; rintro e x3 ⟨rfl, hx3⟩; have HX3 : Hid (Xt W x3) := HX2.out.trans hx3; have HX23 : Hid (Xt x2 x3) := hx3; clear hx3)
                  | (go_at_call 22; have hm0 := mk7; clear mk7 hm0; refine (HLG.out x3 HX3.out).mono ?_; rintro e x4 ⟨rfl, hx4⟩; have HX4 : Hid (Xt W x4) := HX3.out.trans hx4; have HX24 : Hid (Xt x2 x4) := HX23.out.trans hx4; clear hx4)
                  | (go_at_call 23; refine (HLW.out x4 HX4.out).mono ?_; rintro e x5 ⟨rfl, hx5⟩; have HX5 : Hid (Xt W x5) := HX4.out.trans hx5; have HX25 : Hid (Xt x2 x5) := HX24.out.trans hx5; clear hx5)
                  | (go_at_call 24; have hm0 := mk9; clear mk9 hm0; refine (equal_er gt go mt mo Mt Mo x5 (HGt.out.xt HX25.out) (HGo.out.xt HX25.out) HTO.out).mono ?_; rintro e x6 ⟨rfl, hx6⟩; have HX6 : Hid (Xt W x6) := HX5.out.trans hx6; clear hx6)
                  | (go_at_call 15; have hm0 := mk3; clear mk3 hm0; refine (lines_neg cols k (-p) L4.out (by omega) gb mb M x6 (HGW.out.xt HX6.out) (HT.out.xt (HXwW.out.trans HX6.out)) HOG.out).mono ?_; rintro e y1 ⟨hy1, gu, mu, Mu, rfl, hGu, hEu⟩; have HY1 : Hid (Xt W y1) := HX6.out.trans hy1; have HGu := Lib.hid hGu; have HEu := Lib.hid hEu; clear hy1 hGu hEu)
                  | (go_at_call 15; have hm0 := mk4; clear mk4 hm0; refine (lines_neg cols k (-q) L5.out (by omega) gu mu Mu y1 HGu.out (HT.out.xt (HXwW.out.trans HY1.out)) (HOU.out HEu.out)).mono ?_; rintro e y2 ⟨hy2, gv, mv, Mv, rfl, hGv, hEv⟩; have HY2 : Hid (Xt W y2) := HY1.out.trans hy2; have HGv := Lib.hid hGv; have HEv := Lib.hid hEv; clear hy2 hGv hEv)
                  | (go_at_call 15; have hm0 := mk5; clear mk5 hm0; refine (lines_neg cols k (-p - q) L6.out (by omega) gb mb M y2 (HGW.out.xt HY2.out) (HT.out.xt (HXwW.out.trans HY2.out)) HOG.out).mono ?_; rintro e y3 ⟨hy3, gx, mx, Mx, rfl, hGx, hEx⟩; have HY3 : Hid (Xt W y3) := HY2.out.trans hy3; have HGv : Hid (GridIs y3 gv mv Mv) := HGv.out.xt hy3; have HGx := Lib.hid hGx; have HEx := Lib.hid hEx; clear hy3 hGx hEx)
                  | (go_at_call 24; have hm0 := mk8; clear mk8 hm0; refine (equal_er gv gx mv mx Mv Mx y3 HGv.out HGx.out (hEq5.out HEu.out HEv.out HEx.out)).mono ?_; rintro e y4 ⟨rfl, hy4⟩; have HY4 : Hid (Xt W y4) := HY3.out.trans hy4; obtain ⟨_, e8, g8⟩ := HEND.out y4 HY4.out; clear hy4))
                all_goals first | (rename_i h1 h2; exact absurd (Option.some.inj h1) (by unfold undef; intro e; cases e)) | skip
                obtain ⟨hKW, k8, hxE⟩ := HFIN.out y4 HY4.out
                obtain ⟨W', hW'⟩ : ∃ W', y4.setCell ⟨B, 0, none⟩ (.bool true) = W' := ⟨_, rfl⟩
                rw [hW'] at hKW k8 hxE ⊢
                refine ⟨by simp, .inl ⟨_, _, rfl, run_takeDeferred hKW, ?_⟩⟩
                exact ⟨_, results_one rfl _ _ B (.bool true) rfl (load_bool1 _ _ _ k8), rfl, hxE⟩
              · go_wp2_with (first
                  | (go_at_call 22; have hm0 := mk6; clear mk6 hm0; refine (HLO.out).mono ?_; rintro e x3 ⟨rfl, hx3⟩; have HX3 : Hid (Xt W x3) := HX2.out.trans hx3; have HX23 : Hid (Xt x2 x3) := hx3; clear hx3)
                  | (go_at_call 22; have hm0 := mk7; clear mk7 hm0; refine (HLG.out x3 HX3.out).mono ?_; rintro e x4 ⟨rfl, hx4⟩; have HX4 : Hid (Xt W x4) := HX3.out.trans hx4; have HX24 : Hid (Xt x2 x4) := HX23.out.trans hx4; clear hx4)
                  | (go_at_call 23; refine (HLW.out x4 HX4.out).mono ?_; rintro e x5 ⟨rfl, hx5⟩; have HX5 : Hid (Xt W x5) := HX4.out.trans hx5; have HX25 : Hid (Xt x2 x5) := HX24.out.trans hx5; clear hx5)
                  | (go_at_call 15; have hm0 := mk3; clear mk3 hm0; refine (lines_neg cols k (-p) L4.out (by omega) gb mb M x5 (HGW.out.xt HX5.out) (HT.out.xt (HXwW.out.trans HX5.out)) HOG.out).mono ?_; rintro e y1 ⟨hy1, gu, mu, Mu, rfl, hGu, hEu⟩; have HY1 : Hid (Xt W y1) := HX5.out.trans hy1; have HGu := Lib.hid hGu; have HEu := Lib.hid hEu; clear hy1 hGu hEu)
                  | (go_at_call 15; have hm0 := mk4; clear mk4 hm0; refine (lines_neg cols k (-q) L5.out (by omega) gu mu Mu y1 HGu.out (HT.out.xt (HXwW.out.trans HY1.out)) (HOU.out HEu.out)).mono ?_; rintro e y2 ⟨hy2, gv, mv, Mv, rfl, hGv, hEv⟩; have HY2 : Hid (Xt W y2) := HY1.out.trans hy2; have HGv := Lib.hid hGv; have HEv := Lib.hid hEv; clear hy2 hGv hEv)
                  | (go_at_call 15; have hm0 := mk5; clear mk5 hm0; refine (lines_neg cols k (-p - q) L6.out (by omega) gb mb M y2 (HGW.out.xt HY2.out) (HT.out.xt (HXwW.out.trans HY2.out)) HOG.out).mono ?_; rintro e y3 ⟨hy3, gx, mx, Mx, rfl, hGx, hEx⟩; have HY3 : Hid (Xt W y3) := HY2.out.trans hy3; have HGv : Hid (GridIs y3 gv mv Mv) := HGv.out.xt hy3; have HGx := Lib.hid hGx; have HEx := Lib.hid hEx; clear hy3 hGx hEx)
                  | (go_at_call 24; have hm0 := mk8; clear mk8 hm0; refine (equal_er gv gx mv mx Mv Mx y3 HGv.out HGx.out (hEq5.out HEu.out HEv.out HEx.out)).mono ?_; rintro e y4 ⟨rfl, hy4⟩; have HY4 : Hid (Xt W y4) := HY3.out.trans hy4; obtain ⟨_, e8, g8⟩ := HEND.out y4 HY4.out; clear hy4))
                all_goals first | (rename_i h1 h2; exact absurd (Option.some.inj h1) (by unfold undef; intro e; cases e)) | skip
                obtain ⟨hKW, k8, hxE⟩ := HFIN.out y4 HY4.out
                obtain ⟨W', hW'⟩ : ∃ W', y4.setCell ⟨B, 0, none⟩ (.bool true) = W' := ⟨_, rfl⟩
                rw [hW'] at hKW k8 hxE ⊢
                refine ⟨by simp, .inl ⟨_, _, rfl, run_takeDeferred hKW, ?_⟩⟩
                exact ⟨_, results_one rfl _ _ B (.bool true) rfl (load_bool1 _ _ _ k8), rfl, hxE⟩
            · have hb : ((lO : Int) == (lG : Int)) = false := by simp; omega
              clear e
              go_wp2_with (first
                | (go_at_call 22; have hm0 := mk6; clear mk6 hm0; refine (HLO.out).mono ?_; rintro e x3 ⟨rfl, hx3⟩; have HX3 : Hid (Xt W x3) := HX2.out.trans hx3; have HX23 : Hid (Xt x2 x3) := hx3; clear hx3)
                | (go_at_call 22; have hm0 := mk7; clear mk7 hm0; refine (HLG.out x3 HX3.out).mono ?_; rintro e x4 ⟨rfl, hx4⟩; have HX4 : Hid (Xt W x4) := HX3.out.trans hx4; have HX24 : Hid (Xt x2 x4) := HX23.out.trans hx4; clear hx4)
                | (go_at_call 15; have hm0 := mk3; clear mk3 hm0; refine (lines_neg cols k (-p) L4.out (by omega) gb mb M x4 (HGW.out.xt HX4.out) (HT.out.xt (HXwW.out.trans HX4.out)) HOG.out).mono ?_; rintro e y1 ⟨hy1, gu, mu, Mu, rfl, hGu, hEu⟩; have HY1 : Hid (Xt W y1) := HX4.out.trans hy1; have HGu := Lib.hid hGu; have HEu := Lib.hid hEu; clear hy1 hGu hEu)
                | (go_at_call 15; have hm0 := mk4; clear mk4 hm0; refine (lines_neg cols k (-q) L5.out (by omega) gu mu Mu y1 HGu.out (HT.out.xt (HXwW.out.trans HY1.out)) (HOU.out HEu.out)).mono ?_; rintro e y2 ⟨hy2, gv, mv, Mv, rfl, hGv, hEv⟩; have HY2 : Hid (Xt W y2) := HY1.out.trans hy2; have HGv := Lib.hid hGv; have HEv := Lib.hid hEv; clear hy2 hGv hEv)
                | (go_at_call 15; have hm0 := mk5; clear mk5 hm0; refine (lines_neg cols k (-p - q) L6.out (by omega) gb mb M y2 (HGW.out.xt HY2.out) (HT.out.xt (HXwW.out.trans HY2.out)) HOG.out).mono ?_; rintro e y3 ⟨hy3, gx, mx, Mx, rfl, hGx, hEx⟩; have HY3 : Hid (Xt W y3) := HY2.out.trans hy3; have HGv : Hid (GridIs y3 gv mv Mv) := HGv.out.xt hy3; have HGx := Lib.hid hGx; have HEx := Lib.hid hEx; clear hy3 hGx hEx)
                | (go_at_call 24; have hm0 := mk8; clear mk8 hm0; refine (equal_er gv gx mv mx Mv Mx y3 HGv.out HGx.out (hEq5.out HEu.out HEv.out HEx.out)).mono ?_; rintro e y4 ⟨rfl, hy4⟩; have HY4 : Hid (Xt W y4) := HY3.out.trans hy4; obtain ⟨_, e8, g8⟩ := HEND.out y4 HY4.out; clear hy4))
              all_goals first | (rename_i h1 h2; exact absurd (Option.some.inj h1) (by unfold undef; intro e; cases e)) | skip
              obtain ⟨hKW, k8, hxE⟩ := HFIN.out y4 HY4.out
              obtain ⟨W', hW'⟩ : ∃ W', y4.setCell ⟨B, 0, none⟩ (.bool true) = W' := ⟨_, rfl⟩
              rw [hW'] at hKW k8 hxE ⊢
              refine ⟨by simp, .inl ⟨_, _, rfl, run_takeDeferred hKW, ?_⟩⟩
              exact ⟨_, results_one rfl _ _ B (.bool true) rfl (load_bool1 _ _ _ k8), rfl, hxE⟩

          · go_wp2_with (first
              | (go_at_call 15; have hm0 := mk1; clear mk1 hm0; refine (lines_stop cols k q L2.out ga ma Ma W HGaW.out (HT.out.xt HXwW.out) HOA.out HS4.out).mono ?_; rintro e x1 ⟨rfl, hx1⟩; have HX1 : Hid (Xt W x1) := hx1; clear hx1)
              | (go_at_call 15; have hm0 := mk2; clear mk2 hm0; refine (lines_stop cols k (p + q) L3.out gb mb M x1 (HGW.out.xt HX1.out) (HT.out.xt (HXwW.out.trans HX1.out)) HOG.out HS3.out).mono ?_; rintro e x2 ⟨rfl, hx2⟩; have HX2 : Hid (Xt W x2) := HX1.out.trans hx2; clear hx2)
              | (go_at_call 15; have hm0 := mk3; clear mk3 hm0; refine (lines_neg cols k (-p) L4.out (by omega) gb mb M x2 (HGW.out.xt HX2.out) (HT.out.xt (HXwW.out.trans HX2.out)) HOG.out).mono ?_; rintro e y1 ⟨hy1, gu, mu, Mu, rfl, hGu, hEu⟩; have HY1 : Hid (Xt W y1) := HX2.out.trans hy1; have HGu := Lib.hid hGu; have HEu := Lib.hid hEu; clear hy1 hGu hEu)
              | (go_at_call 15; have hm0 := mk4; clear mk4 hm0; refine (lines_neg cols k (-q) L5.out (by omega) gu mu Mu y1 HGu.out (HT.out.xt (HXwW.out.trans HY1.out)) (HOU.out HEu.out)).mono ?_; rintro e y2 ⟨hy2, gv, mv, Mv, rfl, hGv, hEv⟩; have HY2 : Hid (Xt W y2) := HY1.out.trans hy2; have HGv := Lib.hid hGv; have HEv := Lib.hid hEv; clear hy2 hGv hEv)
              | (go_at_call 15; have hm0 := mk5; clear mk5 hm0; refine (lines_neg cols k (-p - q) L6.out (by omega) gb mb M y2 (HGW.out.xt HY2.out) (HT.out.xt (HXwW.out.trans HY2.out)) HOG.out).mono ?_; rintro e y3 ⟨hy3, gx, mx, Mx, rfl, hGx, hEx⟩; have HY3 : Hid (Xt W y3) := HY2.out.trans hy3; have HGv : Hid (GridIs y3 gv mv Mv) := HGv.out.xt hy3; have HGx := Lib.hid hGx; have HEx := Lib.hid hEx; clear hy3 hGx hEx)
              | (go_at_call 24; have hm0 := mk8; clear mk8 hm0; refine (equal_er gv gx mv mx Mv Mx y3 HGv.out HGx.out (hEq5.out HEu.out HEv.out HEx.out)).mono ?_; rintro e y4 ⟨rfl, hy4⟩; have HY4 : Hid (Xt W y4) := HY3.out.trans hy4; obtain ⟨_, e8, g8⟩ := HEND.out y4 HY4.out; clear hy4))
            all_goals first | (rename_i h1 h2; exact absurd (Option.some.inj h1) (by unfold undef; intro e; cases e)) | skip
            obtain ⟨hKW, k8, hxE⟩ := HFIN.out y4 HY4.out
            obtain ⟨W', hW'⟩ : ∃ W', y4.setCell ⟨B, 0, none⟩ (.bool true) = W' := ⟨_, rfl⟩
            rw [hW'] at hKW k8 hxE ⊢
            refine ⟨by simp, .inl ⟨_, _, rfl, run_takeDeferred hKW, ?_⟩⟩
            exact ⟨_, results_one rfl _ _ B (.bool true) rfl (load_bool1 _ _ _ k8), rfl, hxE⟩

        case body =>
          rintro l0 pre x a' W hl0 ⟨r, hr⟩ hI ⟨z, Bx, By, nT, hz1, hz2, hBx, hBy, hzs, hzA, hmem, rfl⟩ hlt
          subst hA0
          obtain ⟨⟨c, d⟩, tc, tp⟩ := x
          simp only at hBx hz1 hz2
          have v4 : copyC tc = tc := (HOG.out.each _ hmem).2.2.2.1
          have hK12 := kind_12 (HOG.out.each _ hmem).2.1 (HOG.out.each _ hmem).2.2.1
          obtain ⟨u, hu, hku, hpu⟩ := kind_law L1.out L4.out hpb.1 HOG.out HALL.out hmem
          simp only at v4 hK12 hu hku hpu
          rw [v4] at hz1
          have HK12 : Hid (z.1.kind = 1 ∨ z.1.kind = 2) := by unfold Hid; rw [hz1]; exact hK12
          have HKU : Hid (u.kind = z.1.kind) := by unfold Hid; rw [hz1]; exact hku
          have HPU : Hid (z.1.kind = 1 → u = z.1) := by unfold Hid; rw [hz1]; exact hpu
          have HU : Hid (((lkM (c, d) Mc).getD (zeroC, none)).1 = u) := by
            unfold Hid
            rw [er_getD, HEc.out, HEa.out]
            rw [show lkM (c, d) (goP (cL cols k (-p)) (aL cols k (-p)) (goP (cL cols k p) (aL cols k p) (er M))) = some u from hu]; rfl
          have HX6 : Hid (Xt w6 W) := HX6W.out.trans hI
          have HGW : Hid (GridIs W gc mc Mc) := HGc6.out.xt HX6.out
          have HZA := Lib.hid (show smallT z.1.t ∧ ArgsIn W nT (.slice z.2 z.1.t.args.length z.1.t.args.length) z.1.t.args from ⟨hzs, hzA⟩)
          have HBY := Lib.hid hBy
          have HI := Lib.hid hI
          obtain ⟨c17, _⟩ := one_row (rowX HX6.out HR17b.out)
          obtain ⟨x0, x1, _, _⟩ := cells2 hBx
          have hfb : Fence.wide.fn 18 := trivial
          have hfd : Fence.wide.fn 20 := trivial
          clear hr hI hBx hBy hz1 hz2 hzs hzA hlt hmem v4 hK12 hu hku hpu
          simp only [List.setIfInBounds_toArray, List.set_cons_zero, List.set_cons_succ]
          rcases HK12.out with hk1 | hk2
          · have HK := Lib.hid hk1
            clear hk1
            gi_wp2_with (first
              | (gi_at_call 18; refine (callsIn_round (gget_any gc mc Mc (c, d) _ HGW.out)).mono ?_; rintro e w7 ⟨n7, a7, rfl, hA7, hx7⟩; rw [HU.out] at hA7; rw [HU.out]; obtain ⟨zd, hd1, hd2⟩ : ∃ zd : CE, zd.1 = copyC u ∧ zd.2 = a7 := ⟨(copyC u, a7), rfl, rfl⟩; have hzv : copyCV u a7 = ceV zd := (by rw [← ceV_copy]; obtain ⟨zd1, zd2⟩ := zd; simp only at hd1 hd2; rw [hd1, hd2]); rw [hzv]; have HAD7 : Hid (ArgsIn w7 n7 (.slice zd.2 zd.1.t.args.length zd.1.t.args.length) zd.1.t.args) := (by unfold Hid; rw [hd1, hd2]; show ArgsIn _ _ (.slice a7 (copyT u.t).args.length (copyT u.t).args.length) (copyT u.t).args; rw [copyT_len, copyT_args]; exact hA7.args); have HD : Hid (zd.1 = copyC u) := hd1; obtain ⟨wZ, wR, hwZ, hwR, hrZ, hrR, hxR, hsR, hxZ, hsZ⟩ := boxR w7 zd; have HXR : Hid (Xt W wR) := hx7.trans hxR; have HAD : Hid (ArgsIn wR n7 (.slice zd.2 zd.1.t.args.length zd.1.t.args.length) zd.1.t.args) := HAD7.out.xt hxR; have HRZ := Lib.hid hrZ; have HRD := Lib.hid hrR; have HWR := Lib.hid hwR; have HRB := Lib.hid (rowX HXR.out HBY.out); have HDK : Hid (zd.1.kind = 1) := (by unfold Hid; rw [hd1]; show u.kind = 1; rw [HKU.out]; exact HK.out); have kd : wR.cell? ⟨w7.heap.size, 0, none⟩ = some (.int .i64 1) := (by rw [← HDK.out]; simp [World.cell?, HRD.out]); have kz : wR.cell? ⟨By, 0, none⟩ = some (.int .i64 1) := (by rw [← HK.out]; simp [World.cell?, HRB.out]); clear c17 x0 x1 hrZ hwR hrR hxR hxZ hA7 hx7 hzv hd1 hd2)
              | (refine wpListIn_store_row (P := Tryz.prog) rfl 50 _ _ rfl w7.heap.size #[.int .i64 zd.1.kind, .int .i64 zd.1.v.kind, .float .f64 zd.1.v.x, .string zd.1.v.s, .bool zd.1.v.b, .int .i64 zd.1.v.f, .int .i64 zd.1.t.kind, .int .i64 zd.1.t.op, .float .f64 zd.1.t.x, .string zd.1.t.s, .bool zd.1.t.b, .int .i64 zd.1.t.f, .int .i64 zd.1.t.ref.a.1, .int .i64 zd.1.t.ref.a.2, .bool zd.1.t.ref.cf, .bool zd.1.t.ref.rf, .int .i64 zd.1.t.to.a.1, .int .i64 zd.1.t.to.a.2, .bool zd.1.t.to.cf, .bool zd.1.t.to.rf, .slice zd.2 zd.1.t.args.length zd.1.t.args.length] rfl rfl 50 _ HRZ.out (by kernel_rfl) rfl (by simp [Value.oneCell']) ?_; rw [HWR.out])
              | (refine BigFrame.wpListIn_want (by rfl) (fun K hK => wpIn_load_row 50 _ rfl By rfl 50 _ (0, 0) _ HRB.out Tryz.underlying50 rfl (by kernel_rfl) (hK _ _ ?_)); clear hK K)
              | (refine BigFrame.wpListIn_want (by rfl) (fun K hK => wpIn_load_row 50 _ rfl w7.heap.size rfl 50 _ (0, 0) _ HRD.out Tryz.underlying50 rfl (by kernel_rfl) (hK _ _ ?_)); clear hK K)
              | (gi_at_call 20; refine (callsIn_round (gsame_any (nT + n7) z.1 zd.1 z.2 zd.2 z.1.t.args.length zd.1.t.args.length wR (ArgsIn.upQ (by omega) (HZA.out.2.xt HXR.out)) (ArgsIn.upQ (by omega) HAD.out))).mono ?_; rintro e w9 ⟨rfl, hg9⟩; rw [show sameCB z.1 zd.1 = true by rw [sameCB_iff, HD.out, keyC_copy, HPU.out HK.out]]; have HX9 : Hid (Xt W w9) := HXR.out.trans hg9.xt; clear hg9))
            have hx := HX9.out
            exact ⟨keepsFrom_xt hx _, ⟨hx.mono (by have := HX6.out.size; omega), KeepsT.of_xt hx⟩, HI.out.trans hx⟩

          · have HK := Lib.hid hk2
            clear hk2
            gi_wp2_with (first
              | (gi_at_call 18; refine (callsIn_round (gget_any gc mc Mc (c, d) _ HGW.out)).mono ?_; rintro e w7 ⟨n7, a7, rfl, hA7, hx7⟩; rw [HU.out] at hA7; rw [HU.out]; obtain ⟨zd, hd1, hd2⟩ : ∃ zd : CE, zd.1 = copyC u ∧ zd.2 = a7 := ⟨(copyC u, a7), rfl, rfl⟩; have hzv : copyCV u a7 = ceV zd := (by rw [← ceV_copy]; obtain ⟨zd1, zd2⟩ := zd; simp only at hd1 hd2; rw [hd1, hd2]); rw [hzv]; have HAD7 : Hid (ArgsIn w7 n7 (.slice zd.2 zd.1.t.args.length zd.1.t.args.length) zd.1.t.args) := (by unfold Hid; rw [hd1, hd2]; show ArgsIn _ _ (.slice a7 (copyT u.t).args.length (copyT u.t).args.length) (copyT u.t).args; rw [copyT_len, copyT_args]; exact hA7.args); have HD : Hid (zd.1 = copyC u) := hd1; obtain ⟨wZ, wR, hwZ, hwR, hrZ, hrR, hxR, hsR, hxZ, hsZ⟩ := boxR w7 zd; have HXR : Hid (Xt W wR) := hx7.trans hxR; have HAD : Hid (ArgsIn wR n7 (.slice zd.2 zd.1.t.args.length zd.1.t.args.length) zd.1.t.args) := HAD7.out.xt hxR; have HRZ := Lib.hid hrZ; have HRD := Lib.hid hrR; have HWR := Lib.hid hwR; have HRB := Lib.hid (rowX HXR.out HBY.out); have HDK : Hid (zd.1.kind = 2) := (by unfold Hid; rw [hd1]; show u.kind = 2; rw [HKU.out]; exact HK.out); have kd : wR.cell? ⟨w7.heap.size, 0, none⟩ = some (.int .i64 2) := (by rw [← HDK.out]; simp [World.cell?, HRD.out]); have kz : wR.cell? ⟨By, 0, none⟩ = some (.int .i64 2) := (by rw [← HK.out]; simp [World.cell?, HRB.out]); clear c17 x0 x1 hrZ hwR hrR hxR hxZ hA7 hx7 hzv hd1 hd2)
              | (refine wpListIn_store_row (P := Tryz.prog) rfl 50 _ _ rfl w7.heap.size #[.int .i64 zd.1.kind, .int .i64 zd.1.v.kind, .float .f64 zd.1.v.x, .string zd.1.v.s, .bool zd.1.v.b, .int .i64 zd.1.v.f, .int .i64 zd.1.t.kind, .int .i64 zd.1.t.op, .float .f64 zd.1.t.x, .string zd.1.t.s, .bool zd.1.t.b, .int .i64 zd.1.t.f, .int .i64 zd.1.t.ref.a.1, .int .i64 zd.1.t.ref.a.2, .bool zd.1.t.ref.cf, .bool zd.1.t.ref.rf, .int .i64 zd.1.t.to.a.1, .int .i64 zd.1.t.to.a.2, .bool zd.1.t.to.cf, .bool zd.1.t.to.rf, .slice zd.2 zd.1.t.args.length zd.1.t.args.length] rfl rfl 50 _ HRZ.out (by kernel_rfl) rfl (by simp [Value.oneCell']) ?_; rw [HWR.out]))
            have hx := HXR.out
            exact ⟨keepsFrom_xt hx _, ⟨hx.mono (by have := HX6.out.size; omega), KeepsT.of_xt hx⟩, HI.out.trans hx⟩

end Go.Proofs.YtlgkaipgdhcajaaGreatDoor
/- Lists of puts, and of numbers, as they come in. -/
namespace Go.Proofs.YtlgkaipgdhcajaaGreatDoor
open Go.ChangeShapes Go.WideShapes Go.ChangeAt Go.RowKit Go.Joins Go.Deep Go.Shelf

section
variable {H : Type} {enc : TypeId × Value → H} {W : World} {base : Nat} {spare : Nat → Bool} {held : Bool}
/-- A slice whose elements read as some, of which something is known. -/
theorem open_listP {α : Type} {p : α → Prop} {encA : α → List Value} {sz : Nat} {t e : TypeId} {n : Nat} {v : Value} {x : DataW H × List MemPlace} (ht : Tryz.prog.underlying t = some (.slice e)) (hc : Tryz.prog.cellsOf e = sz) (hpos : 0 < sz) (hk : ∀ x, (encA x).length = sz)
    (he : ∀ m cs y, DataW.trod enc Tryz.prog W base spare held m e cs = some y → ∃ a : α, cs = encA a ∧ p a) (h : DataW.trod enc Tryz.prog W base spare held n t [v] = some x) : ∃ l, SlOf W encA sz v l ∧ ∀ x ∈ l, p x := by
  rcases open_slice ht h with ⟨h0, _⟩ | ⟨a, len, cap, m, k, D, Pl, hcs, hb, hl, hm, hmm, hx, hi⟩
  · cases h0
    exact ⟨[], SlOf.nil _ _ _ _ _ (by omega), fun x hx => by cases hx⟩
  · cases hcs
    rw [hc] at hi
    have each : ∀ i, i < len → ∃ u : α, (∀ (j : Nat) (c : Value), (encA u)[j]? = some c → W.cell? (a.add (i * sz + j)) = some c) ∧ p u := by
      intro i hil
      have him : i < m := by rw [hmm]; split <;> omega
      obtain ⟨cs', h1, h2⟩ := hi i him
      obtain ⟨u, rfl, hp⟩ := he _ _ _ h2
      obtain ⟨_, hlen, hcell⟩ := World.cells?_some h1
      refine ⟨u, fun j c hj => ?_, hp⟩
      have hjs : j < sz := by have := (List.getElem?_eq_some_iff.1 hj).1; rw [hk] at this; exact this
      rw [← add_add, hcell j hjs, hj]
    obtain ⟨l, hl1, hl2⟩ := list_of len each
    refine ⟨l, ⟨some a, cap, by rw [hl1], by omega, by unfold maxLen at hm; omega, fun hne => ?_⟩, fun x hx => ?_⟩
    · obtain ⟨b, o, spot⟩ := a
      obtain ⟨y, hy⟩ : ∃ y, l[0]? = some y := by
        cases l with
        | nil => exact absurd rfl hne
        | cons y _ => exact ⟨y, rfl⟩
      have hy0 : ∃ c, (encA y)[0]? = some c := ⟨(encA y)[0]'(by rw [hk]; exact hpos), List.getElem?_eq_getElem (by rw [hk]; exact hpos)⟩
      obtain ⟨c, hc0⟩ := hy0
      have hspot : spot = none := by simpa [Addr.add] using World.cell?_spot ((hl2 0 y hy).1 0 c hc0)
      subst hspot
      refine ⟨b, o, rfl, fun k x hx i u hu => ?_⟩
      have := (hl2 k x hx).1 i u hu
      rw [Addr.add_lit] at this
      rwa [← Nat.add_assoc] at this
    · obtain ⟨i, hi⟩ := List.getElem?_of_mem hx
      exact (hl2 i x hi).2
/-- The same, with what the elements weigh. -/
theorem open_listW {α : Type} {p : α → Prop} {encA : α → List Value} {sz : Nat} {t e : TypeId} {n : Nat} {v : Value} {x : DataW H × List MemPlace} (ht : Tryz.prog.underlying t = some (.slice e)) (hc : Tryz.prog.cellsOf e = sz) (hpos : 0 < sz) (hk : ∀ x, (encA x).length = sz)
    (he : ∀ m cs y, DataW.trod enc Tryz.prog W base spare held m e cs = some y → (∀ q ∈ y.1.weights Tryz.prog e, q ≤ reachBytes) → ∃ a : α, cs = encA a ∧ p a) (h : DataW.trod enc Tryz.prog W base spare held n t [v] = some x) (hz : ∀ q ∈ x.1.weights Tryz.prog t, q ≤ reachBytes) : ∃ l, SlOf W encA sz v l ∧ ∀ x ∈ l, p x := by
  rcases DataW.trod_slice ht h with ⟨h0, _⟩ | ⟨a, len, cap, elems, rest, m, hq, hcs, hx, hb, hlc, hcap, hle, hel, _, _⟩
  · cases h0
    exact ⟨[], SlOf.nil _ _ _ _ _ (by omega), fun x hx => by cases hx⟩
  · cases hcs
    rw [hc] at hel
    rw [hx] at hz
    have each : ∀ i, i < len → ∃ u : α, (∀ (j : Nat) (c : Value), (encA u)[j]? = some c → W.cell? (a.add (i * sz + j)) = some c) ∧ p u := by
      intro i hil
      have hi := hel i hil
      rw [List.getElem?_eq_getElem (by omega)] at hi
      obtain ⟨cs', h1, h2⟩ := Option.bind_eq_some_iff.1 hi
      obtain ⟨u, rfl, hp⟩ := he _ _ _ h2 (fun z hq => hz z (by
        simp only [DataW.weights, ht, List.mem_cons, List.mem_append]
        exact Or.inr (Or.inl (weights_all_mem (List.mem_map.2 ⟨_, List.getElem_mem (by omega), rfl⟩) hq))))
      obtain ⟨_, hlen, hcell⟩ := World.cells?_some h1
      refine ⟨u, fun j c hj => ?_, hp⟩
      have hjs : j < sz := by have := (List.getElem?_eq_some_iff.1 hj).1; rw [hk] at this; exact this
      rw [← add_add, hcell j hjs, hj]
    obtain ⟨l, hl1, hl2⟩ := list_of len each
    refine ⟨l, ⟨some a, cap, by rw [hl1], by omega, by unfold maxLen at hcap; omega, fun hne => ?_⟩, fun x hx => ?_⟩
    · obtain ⟨b, o, spot⟩ := a
      obtain ⟨y, hy⟩ : ∃ y, l[0]? = some y := by
        cases l with
        | nil => exact absurd rfl hne
        | cons y _ => exact ⟨y, rfl⟩
      have hy0 : ∃ c, (encA y)[0]? = some c := ⟨(encA y)[0]'(by rw [hk]; exact hpos), List.getElem?_eq_getElem (by rw [hk]; exact hpos)⟩
      obtain ⟨c, hc0⟩ := hy0
      have hspot : spot = none := by simpa [Addr.add] using World.cell?_spot ((hl2 0 y hy).1 0 c hc0)
      subst hspot
      refine ⟨b, o, rfl, fun k x hx i u hu => ?_⟩
      have := (hl2 k x hx).1 i u hu
      rw [Addr.add_lit] at this
      rwa [← Nat.add_assoc] at this
    · obtain ⟨i, hi⟩ := List.getElem?_of_mem hx
      exact (hl2 i x hi).2
theorem cellsPut : Tryz.prog.cellsOf 102 = 23 := by kernel_rfl
theorem inC_len1 (n : Int) : (inC n).length = 1 := rfl
theorem open_nums {n : Nat} {v : Value} {x : DataW H × List MemPlace} (h : DataW.trod enc Tryz.prog W base spare held n 90 [v] = some x) : ∃ l, SlOf W inC 1 v l ∧ ∀ x ∈ l, -9223372036854775808 ≤ x ∧ x ≤ 9223372036854775807 :=
  open_listP Tryz.underlying90 Tryz.cellsInt (by omega) inC_len1 (fun m cs y h => by
    obtain ⟨k, e, _, hw⟩ := DataW.trod_int Tryz.underlying3 h
    exact ⟨k, e, bounds_i64 hw⟩) h
set_option maxRecDepth 100000 in
theorem open_put {n : Nat} {cs : List Value} {x : DataW H × List MemPlace} (h : DataW.trod enc Tryz.prog W base spare held n 102 cs = some x) (hz : ∀ q ∈ x.1.weights Tryz.prog 102, q ≤ reachBytes) : ∃ y : PI, cs = inC1 y ∧ (y.c.ok ∧ ∃ n, ArgsIn W n (.slice y.p y.c.t.args.length y.cap) y.c.t.args) ∧ smallT y.c.t := by
  obtain ⟨y0, y1, m, hx, hl, h0, h1⟩ := trod_struct2 Tryz.underlying102 h
  rw [cellsPut] at hl
  match cs, hl with
  | c0 :: c1 :: r, hl =>
    have g0 : DataW.trod enc Tryz.prog W base spare held m 24 [c0, c1] = some y0 := by simpa [Tryz.cellsAddr] using h0
    obtain ⟨a, ea⟩ := open_ad g0
    have hr : r.length = 21 := by simpa using hl
    have g1 : DataW.trod enc Tryz.prog W base spare held m 50 r = some y1 := by
      have := h1
      simp only [Tryz.cellsContent, List.drop_succ_cons, List.drop_zero] at this
      rwa [List.take_of_length_le (by omega)] at this
    have hz1 : ∀ q ∈ y1.1.weights Tryz.prog 50, q ≤ reachBytes := fun q hq => hz q (by rw [hx]; simp [DataW.weights, Tryz.underlying102, DataW.weightsEach, hq])
    obtain ⟨c, p, cap, n, e, q1, q2, q3⟩ := open_content g1 hz1
    simp only [adC, List.cons.injEq, and_true] at ea
    obtain ⟨rfl, rfl⟩ := ea
    have e2 : r = (contV c p c.t.args.length cap).cells.toList := by rw [← e]; simp [Value.cells]
    refine ⟨⟨a, c, p, cap⟩, ?_, ⟨q2, n, q1⟩, q3⟩
    rw [e2]; rfl
theorem open_puts {n : Nat} {v : Value} {x : DataW H × List MemPlace} (h : DataW.trod enc Tryz.prog W base spare held n 37 [v] = some x) (hz : ∀ q ∈ x.1.weights Tryz.prog 37, q ≤ reachBytes) : ∃ l, PutsIn W v l ∧ ∀ x ∈ l, smallT x.c.t := by
  obtain ⟨l, h1, h2⟩ := open_listW (p := fun y : PI => (y.c.ok ∧ ∃ n, ArgsIn W n (.slice y.p y.c.t.args.length y.cap) y.c.t.args) ∧ smallT y.c.t) Tryz.underlying37 cellsPut (by omega) (fun _ => rfl) (fun m cs y h hz => open_put h hz) h hz
  exact ⟨l, ⟨h1, fun x hx => (h2 x hx).1⟩, fun x hx => (h2 x hx).2⟩
end
end Go.Proofs.YtlgkaipgdhcajaaGreatDoor
/- What comes in, opened, with how much it holds (made by mkx10.py). -/
namespace Go.Proofs.YtlgkaipgdhcajaaGreatDoor
open Go.ChangeShapes Go.WideShapes Go.ChangeAt Go.RowKit Go.Joins Go.Deep Go.Shelf

section
variable {H : Type} {enc : TypeId × Value → H} {W : World} {base : Nat} {spare : Nat → Bool} {held : Bool}
theorem flatL_le : ∀ (l : List NodeT) (E : List (DataW H)), l.length = E.length → (∀ (i : Nat) (t : NodeT) (d : DataW H), l[i]? = some t → E[i]? = some d → (flatT t).length ≤ Rows.uptoBulk d) → (flatL l).length ≤ Rows.uptoBulkAll E
  | [], _, _, _ => by simp [flatL]
  | t :: l, [], h, _ => by simp at h
  | t :: l, d :: E, h, H => by
    have h1 := H 0 t d rfl rfl
    have h2 := flatL_le l E (by simpa using h) (fun i u e hu he => H (i + 1) u e (by simpa using hu) (by simpa using he))
    rw [flatL, List.length_append]
    simp only [Rows.uptoBulkAll]
    omega
theorem bulk_mem {d : DataW H} : ∀ {E : List (DataW H)}, d ∈ E → Rows.uptoBulk d ≤ Rows.uptoBulkAll E
  | x :: r, h => by
    simp only [Rows.uptoBulkAll]
    rcases List.mem_cons.1 h with rfl | h
    · omega
    · have := bulk_mem h; omega
set_option maxRecDepth 100000 in
set_option maxHeartbeats 1000000 in
theorem open_nodeB : ∀ (n : Nat) {cs : List Value} {x : DataW H × List MemPlace}, DataW.trod enc Tryz.prog W base spare held n 29 cs = some x → (∀ q ∈ x.1.weights Tryz.prog 29, q ≤ reachBytes) → ∃ (t : NodeT) (av : Value), cs = nodeC t av ∧ ArgsIn W n av t.args ∧ t.ok ∧ smallT t ∧ (flatT t).length ≤ Rows.uptoBulk x.1 := by
  intro n
  induction n using Nat.strongRecOn with
  | ind n ih =>
    intro cs x h hz
    obtain ⟨xs, m, hm, rfl, hl, hlen, hf⟩ := DataW.trod_struct Tryz.underlying29 h
    rw [Tryz.cellsNode] at hl
    match xs, hlen with
    | [y0, y1, y2, y3, y4, y5, y6, y7, y8], _ =>
      match cs, hl with
      | [c0, c1, c2, c3, c4, c5, c6, c7, c8, c9, c10, c11, c12, c13, c14], _ =>
        have g0 : DataW.trod enc Tryz.prog W base spare held m 3 [c0] = some y0 := by simpa [Tryz.cellsInt] using hf 0 _ rfl
        have g1 : DataW.trod enc Tryz.prog W base spare held m 3 [c1] = some y1 := by simpa [Tryz.cellsInt] using hf 1 _ rfl
        have g2 : DataW.trod enc Tryz.prog W base spare held m 22 [c2] = some y2 := by simpa [Tryz.cellsF64] using hf 2 _ rfl
        have g3 : DataW.trod enc Tryz.prog W base spare held m 9 [c3] = some y3 := by simpa [Tryz.cellsStr] using hf 3 _ rfl
        have g4 : DataW.trod enc Tryz.prog W base spare held m 4 [c4] = some y4 := by simpa [Tryz.cellsBool] using hf 4 _ rfl
        have g5 : DataW.trod enc Tryz.prog W base spare held m 3 [c5] = some y5 := by simpa [Tryz.cellsInt] using hf 5 _ rfl
        have g6 : DataW.trod enc Tryz.prog W base spare held m 26 [c6, c7, c8, c9] = some y6 := by simpa [Tryz.cellsRef] using hf 6 _ rfl
        have g7 : DataW.trod enc Tryz.prog W base spare held m 26 [c10, c11, c12, c13] = some y7 := by simpa [Tryz.cellsRef] using hf 7 _ rfl
        have g8 : DataW.trod enc Tryz.prog W base spare held m 27 [c14] = some y8 := by simpa [Tryz.cellsNodes] using hf 8 _ rfl
        obtain ⟨k, e0, _, _⟩ := DataW.trod_int Tryz.underlying3 g0
        obtain ⟨op, e1, _, _⟩ := DataW.trod_int Tryz.underlying3 g1
        obtain ⟨fx, e2, hfx⟩ := open_f64 g2
        have hz3 : ∀ q ∈ y3.1.weights Tryz.prog 9, q ≤ reachBytes := fun q hq => hz q (by simp [DataW.weights, Tryz.underlying29, DataW.weightsEach, hq])
        have hz8 : ∀ q ∈ y8.1.weights Tryz.prog 27, q ≤ reachBytes := fun q hq => hz q (by simp [DataW.weights, Tryz.underlying29, DataW.weightsEach, hq])
        obtain ⟨s, e3, es3, ws⟩ := DataW.trod_string Tryz.underlying9 g3
        rw [es3] at hz3
        obtain ⟨b, e4, _⟩ := DataW.trod_bool Tryz.underlying4 g4
        obtain ⟨f, e5, _, _⟩ := DataW.trod_int Tryz.underlying3 g5
        obtain ⟨r1, e6⟩ := open_ref g6
        obtain ⟨r2, e7⟩ := open_ref g7
        simp only [List.cons.injEq, and_true] at e0 e1 e2 e3 e4 e5 e6 e7
        obtain ⟨rfl, rfl, rfl, rfl⟩ := e6
        obtain ⟨rfl, rfl, rfl, rfl⟩ := e7
        subst e0 e1 e2 e3 e4 e5
        have hs : s.size < 4611686018427387904 := size_reach (hz3 s.data.toList.length (by simp [DataW.weights]))
        have harg : ∃ l : List NodeT, ArgsIn W n c14 l ∧ okL l ∧ l.length ≤ 1099511627744 ∧ smallL l ∧ (flatL l).length ≤ Rows.uptoBulk y8.1 := by
          rcases DataW.trod_slice Tryz.underlying27 g8 with ⟨h0, _⟩ | ⟨a, len, cap, elems, rest, q, hq, hcs, hx, hb, hlc, hcap, hle, hel, _, _⟩
          · cases h0
            rw [hm]
            exact ⟨[], ⟨none, 0, rfl, by simp, by omega, fun h => absurd rfl h⟩, by simp [okL], by simp, by simp [smallL], by simp [flatL]⟩
          · cases hcs
            rw [Tryz.cellsNode] at hel
            rw [hx] at hz8
            have hlen128 : len ≤ 1099511627744 := by
              have h := hz8 ((elems.length + rest.length) * Tryz.prog.bytesOf 29) (by
                simp only [DataW.weights, Tryz.underlying27, List.length_map, List.mem_cons, true_or])
              rw [show Tryz.prog.bytesOf 29 = 128 by kernel_rfl] at h
              unfold reachBytes at h
              omega
            have each : ∀ i, i < len → ∃ u : NodeT, ∃ av : Value, (∀ (j : Nat) (c : Value), (nodeC u av)[j]? = some c → W.cell? (a.add (i * 15 + j)) = some c) ∧ ArgsIn W q av u.args ∧ u.ok ∧ smallT u ∧ ∀ d, (elems.map (·.1))[i]? = some d → (flatT u).length ≤ Rows.uptoBulk d := by
              intro i hil
              have hi := hel i hil
              rw [List.getElem?_eq_getElem (by omega)] at hi
              obtain ⟨cs', h1, h2⟩ := Option.bind_eq_some_iff.1 hi
              obtain ⟨u, av, rfl, hin, hok, hsu, hbu⟩ := ih q (by omega) h2 (fun z hq => hz8 z (by
                simp only [DataW.weights, Tryz.underlying27, List.mem_cons, List.mem_append]
                exact Or.inr (Or.inl (weights_all_mem (List.mem_map.2 ⟨_, List.getElem_mem (by omega), rfl⟩) hq))))
              obtain ⟨_, hlen, hcell⟩ := World.cells?_some h1
              refine ⟨u, av, fun j c hj => ?_, hin, hok, hsu, fun d hd => by rw [List.getElem?_map, List.getElem?_eq_getElem (by omega)] at hd; cases hd; exact hbu⟩
              have hjs : j < 15 := (List.getElem?_eq_some_iff.1 hj).1
              rw [← add_add, hcell j hjs, hj]
            obtain ⟨l, hl1, hl2⟩ := list_of len each
            refine ⟨l, ?_, okL_of fun i t ht => (let ⟨_, _, _, h, _⟩ := hl2 i t ht; h), by omega, smallL_of fun i t ht => (let ⟨_, _, _, _, h, _⟩ := hl2 i t ht; h), ?_⟩
            rotate_left
            · rw [hx]
              have hb := flatL_le l (elems.map (·.1)) (by rw [List.length_map, hle, hl1]) (fun i t d ht hd => (let ⟨_, _, _, _, _, h⟩ := hl2 i t ht; h d hd))
              simp only [Rows.uptoBulk]
              omega
            rw [hm, hq]
            refine ⟨some a, cap, by rw [hl1], by omega, by unfold maxLen at hcap; omega, fun hne => ?_⟩
            obtain ⟨bb, o, spot⟩ := a
            obtain ⟨y, hy⟩ : ∃ y, l[0]? = some y := by
              cases l with
              | nil => exact absurd rfl hne
              | cons y _ => exact ⟨y, rfl⟩
            obtain ⟨av0, hc0, _⟩ := hl2 0 y hy
            have hspot : spot = none := by simpa [Addr.add] using World.cell?_spot (hc0 0 _ rfl)
            subst hspot
            refine ⟨bb, o, rfl, fun k t ht => ?_⟩
            obtain ⟨av, hcell, hin, _⟩ := hl2 k t ht
            refine ⟨av, fun i u hu => ?_, hin.up⟩
            have := hcell i u hu
            rw [Addr.add_lit] at this
            rwa [← Nat.add_assoc] at this
        obtain ⟨l, hin, hok, hln, hsl, hbl⟩ := harg
        exact ⟨.mk k op fx s b f r1 r2 l, c14, rfl, hin, by simp only [NodeT.ok]; exact ⟨hs, hfx, hok⟩, by simp only [smallT]; exact ⟨hln, hsl⟩, by rw [flatT, List.length_cons]; simp only [List.map_cons, List.map_nil, Rows.uptoBulk, Rows.uptoBulkAll]; omega⟩
set_option maxRecDepth 100000 in
theorem open_contentB {n : Nat} {cs : List Value} {x : DataW H × List MemPlace} (h : DataW.trod enc Tryz.prog W base spare held n 50 cs = some x) (hz : ∀ q ∈ x.1.weights Tryz.prog 50, q ≤ reachBytes) : ∃ (c : ContT) (a : Option Addr) (cap d : Nat), Value.agg cs.toArray = contV c a c.t.args.length cap ∧ ArgsIn W d (.slice a c.t.args.length cap) c.t.args ∧ c.ok ∧ smallT c.t ∧ (flatT c.t).length ≤ Rows.uptoBulk x.1 := by
  obtain ⟨xs, m, hm, rfl, hl, hlen, hf⟩ := DataW.trod_struct Tryz.underlying50 h
  rw [Tryz.cellsContent] at hl
  match xs, hlen with
  | [y0, y1, y2], _ =>
    match cs, hl with
    | [c0, v0, v1, v2, v3, v4, n0, n1, n2, n3, n4, n5, n6, n7, n8, n9, n10, n11, n12, n13, n14], _ =>
      have g0 : DataW.trod enc Tryz.prog W base spare held m 3 [c0] = some y0 := by simpa [Tryz.cellsInt] using hf 0 _ rfl
      have g1 : DataW.trod enc Tryz.prog W base spare held m 48 [v0, v1, v2, v3, v4] = some y1 := by simpa [Tryz.cellsValue] using hf 1 _ rfl
      have g2 : DataW.trod enc Tryz.prog W base spare held m 29 [n0, n1, n2, n3, n4, n5, n6, n7, n8, n9, n10, n11, n12, n13, n14] = some y2 := by simpa [Tryz.cellsNode] using hf 2 _ rfl
      obtain ⟨k, e0, _, _⟩ := DataW.trod_int Tryz.underlying3 g0
      have hz1 : ∀ q ∈ y1.1.weights Tryz.prog 48, q ≤ reachBytes := fun q hq => hz q (by simp [DataW.weights, Tryz.underlying50, DataW.weightsEach, hq])
      have hz2 : ∀ q ∈ y2.1.weights Tryz.prog 29, q ≤ reachBytes := fun q hq => hz q (by simp [DataW.weights, Tryz.underlying50, DataW.weightsEach, hq])
      obtain ⟨zs, m2, _, rfl, hl2, hlen2, hf2⟩ := DataW.trod_struct Tryz.underlying48 g1
      obtain ⟨t, av, et, hin, hok, hsm, hbt⟩ := open_nodeB m g2 hz2
      match zs, hlen2 with
      | [z0, z1, z2, z3, z4], _ =>
        have p0 : DataW.trod enc Tryz.prog W base spare held m2 3 [v0] = some z0 := by simpa [Tryz.cellsInt] using hf2 0 _ rfl
        have p1 : DataW.trod enc Tryz.prog W base spare held m2 22 [v1] = some z1 := by simpa [Tryz.cellsF64] using hf2 1 _ rfl
        have p2 : DataW.trod enc Tryz.prog W base spare held m2 9 [v2] = some z2 := by simpa [Tryz.cellsStr] using hf2 2 _ rfl
        have p3 : DataW.trod enc Tryz.prog W base spare held m2 4 [v3] = some z3 := by simpa [Tryz.cellsBool] using hf2 3 _ rfl
        have p4 : DataW.trod enc Tryz.prog W base spare held m2 3 [v4] = some z4 := by simpa [Tryz.cellsInt] using hf2 4 _ rfl
        obtain ⟨vk, f0, _, _⟩ := DataW.trod_int Tryz.underlying3 p0
        obtain ⟨vx, f1, hvx⟩ := open_f64 p1
        obtain ⟨vs, f2, es2, ws⟩ := DataW.trod_string Tryz.underlying9 p2
        have hws : vs.size < 4611686018427387904 := size_reach (hz1 vs.data.toList.length (by simp [DataW.weights, Tryz.underlying48, DataW.weightsEach, es2]))
        obtain ⟨vb, f3, _⟩ := DataW.trod_bool Tryz.underlying4 p3
        obtain ⟨vf, f4, _, _⟩ := DataW.trod_int Tryz.underlying3 p4
        obtain ⟨a, cap, rfl, _, _⟩ := hin.shape
        simp only [nodeC, List.cons.injEq, and_true] at e0 f0 f1 f2 f3 f4 et
        obtain ⟨rfl, rfl, rfl, rfl, rfl, rfl, rfl, rfl, rfl, rfl, rfl, rfl, rfl, rfl, rfl⟩ := et
        subst e0 f0 f1 f2 f3 f4
        exact ⟨⟨k, ⟨vk, vx, vs, vb, vf⟩, t⟩, a, cap, m, rfl, hin, ⟨hws, hok, hvx⟩, hsm, by simp only [List.map_cons, List.map_nil, Rows.uptoBulk, Rows.uptoBulkAll]; omega⟩
/-- A list, with what its elements weigh and hold. -/
theorem open_listB {α : Type} {p : α → Prop} {encA : α → List Value} {sz : Nat} {t e : TypeId} {n : Nat} {v : Value} {x : DataW H × List MemPlace} {Nb : Nat} (ht : Tryz.prog.underlying t = some (.slice e)) (hc : Tryz.prog.cellsOf e = sz) (hpos : 0 < sz) (hk : ∀ x, (encA x).length = sz)
    (he : ∀ m cs y, DataW.trod enc Tryz.prog W base spare held m e cs = some y → (∀ q ∈ y.1.weights Tryz.prog e, q ≤ reachBytes) → Rows.uptoBulk y.1 ≤ Nb → ∃ a : α, cs = encA a ∧ p a) (h : DataW.trod enc Tryz.prog W base spare held n t [v] = some x) (hz : ∀ q ∈ x.1.weights Tryz.prog t, q ≤ reachBytes) (hN : Rows.uptoBulk x.1 ≤ Nb) : ∃ l, SlOf W encA sz v l ∧ ∀ x ∈ l, p x := by
  rcases DataW.trod_slice ht h with ⟨h0, _⟩ | ⟨a, len, cap, elems, rest, m, hq, hcs, hx, hb, hlc, hcap, hle, hel, _, _⟩
  · cases h0
    exact ⟨[], SlOf.nil _ _ _ _ _ (by omega), fun x hx => by cases hx⟩
  · cases hcs
    rw [hc] at hel
    rw [hx] at hz hN
    have each : ∀ i, i < len → ∃ u : α, (∀ (j : Nat) (c : Value), (encA u)[j]? = some c → W.cell? (a.add (i * sz + j)) = some c) ∧ p u := by
      intro i hil
      have hi := hel i hil
      rw [List.getElem?_eq_getElem (by omega)] at hi
      obtain ⟨cs', h1, h2⟩ := Option.bind_eq_some_iff.1 hi
      obtain ⟨u, rfl, hp⟩ := he _ _ _ h2 (fun z hq => hz z (by
        simp only [DataW.weights, ht, List.mem_cons, List.mem_append]
        exact Or.inr (Or.inl (weights_all_mem (List.mem_map.2 ⟨_, List.getElem_mem (by omega), rfl⟩) hq)))) (by
        have := bulk_mem (List.mem_map.2 ⟨_, List.getElem_mem (l := elems) (n := i) (by omega), rfl⟩ : (elems[i]'(by omega)).1 ∈ elems.map (·.1))
        simp only [Rows.uptoBulk] at hN
        omega)
      obtain ⟨_, hlen, hcell⟩ := World.cells?_some h1
      refine ⟨u, fun j c hj => ?_, hp⟩
      have hjs : j < sz := by have := (List.getElem?_eq_some_iff.1 hj).1; rw [hk] at this; exact this
      rw [← add_add, hcell j hjs, hj]
    obtain ⟨l, hl1, hl2⟩ := list_of len each
    refine ⟨l, ⟨some a, cap, by rw [hl1], by omega, by unfold maxLen at hcap; omega, fun hne => ?_⟩, fun x hx => ?_⟩
    · obtain ⟨b, o, spot⟩ := a
      obtain ⟨y, hy⟩ : ∃ y, l[0]? = some y := by
        cases l with
        | nil => exact absurd rfl hne
        | cons y _ => exact ⟨y, rfl⟩
      have hy0 : ∃ c, (encA y)[0]? = some c := ⟨(encA y)[0]'(by rw [hk]; exact hpos), List.getElem?_eq_getElem (by rw [hk]; exact hpos)⟩
      obtain ⟨c, hc0⟩ := hy0
      have hspot : spot = none := by simpa [Addr.add] using World.cell?_spot ((hl2 0 y hy).1 0 c hc0)
      subst hspot
      refine ⟨b, o, rfl, fun k x hx i u hu => ?_⟩
      have := (hl2 k x hx).1 i u hu
      rw [Addr.add_lit] at this
      rwa [← Nat.add_assoc] at this
    · obtain ⟨i, hi⟩ := List.getElem?_of_mem hx
      exact (hl2 i x hi).2
set_option maxRecDepth 100000 in
theorem open_putB {n : Nat} {cs : List Value} {x : DataW H × List MemPlace} (h : DataW.trod enc Tryz.prog W base spare held n 102 cs = some x) (hz : ∀ q ∈ x.1.weights Tryz.prog 102, q ≤ reachBytes) : ∃ y : PI, cs = inC1 y ∧ (y.c.ok ∧ ∃ n, ArgsIn W n (.slice y.p y.c.t.args.length y.cap) y.c.t.args) ∧ smallT y.c.t ∧ (flatT y.c.t).length ≤ Rows.uptoBulk x.1 := by
  obtain ⟨y0, y1, m, hx, hl, h0, h1⟩ := trod_struct2 Tryz.underlying102 h
  rw [cellsPut] at hl
  match cs, hl with
  | c0 :: c1 :: r, hl =>
    have g0 : DataW.trod enc Tryz.prog W base spare held m 24 [c0, c1] = some y0 := by simpa [Tryz.cellsAddr] using h0
    obtain ⟨a, ea⟩ := open_ad g0
    have hr : r.length = 21 := by simpa using hl
    have g1 : DataW.trod enc Tryz.prog W base spare held m 50 r = some y1 := by
      have := h1
      simp only [Tryz.cellsContent, List.drop_succ_cons, List.drop_zero] at this
      rwa [List.take_of_length_le (by omega)] at this
    have hz1 : ∀ q ∈ y1.1.weights Tryz.prog 50, q ≤ reachBytes := fun q hq => hz q (by rw [hx]; simp [DataW.weights, Tryz.underlying102, DataW.weightsEach, hq])
    obtain ⟨c, p, cap, n, e, q1, q2, q3, q4⟩ := open_contentB g1 hz1
    simp only [adC, List.cons.injEq, and_true] at ea
    obtain ⟨rfl, rfl⟩ := ea
    have e2 : r = (contV c p c.t.args.length cap).cells.toList := by rw [← e]; simp [Value.cells]
    refine ⟨⟨a, c, p, cap⟩, ?_, ⟨q2, n, q1⟩, q3, by rw [hx]; simp only [Rows.uptoBulk, Rows.uptoBulkAll]; omega⟩
    rw [e2]; rfl
theorem open_putsB {n : Nat} {v : Value} {x : DataW H × List MemPlace} {Nb : Nat} (h : DataW.trod enc Tryz.prog W base spare held n 37 [v] = some x) (hz : ∀ q ∈ x.1.weights Tryz.prog 37, q ≤ reachBytes) (hN : Rows.uptoBulk x.1 ≤ Nb) : ∃ l, PutsIn W v l ∧ (∀ x ∈ l, smallT x.c.t) ∧ ∀ x ∈ l, (flatT x.c.t).length ≤ Nb := by
  obtain ⟨l, h1, h2⟩ := open_listB (p := fun y : PI => (y.c.ok ∧ ∃ n, ArgsIn W n (.slice y.p y.c.t.args.length y.cap) y.c.t.args) ∧ smallT y.c.t ∧ (flatT y.c.t).length ≤ Nb) Tryz.underlying37 cellsPut (by omega) (fun _ => rfl) (fun m cs y h hz hb => let ⟨a, e1, e2, e3, e4⟩ := open_putB h hz; ⟨a, e1, e2, e3, Nat.le_trans e4 hb⟩) h hz hN
  exact ⟨l, ⟨h1, fun x hx => (h2 x hx).1⟩, fun x hx => (h2 x hx).2.1, fun x hx => (h2 x hx).2.2⟩
end
end Go.Proofs.YtlgkaipgdhcajaaGreatDoor
