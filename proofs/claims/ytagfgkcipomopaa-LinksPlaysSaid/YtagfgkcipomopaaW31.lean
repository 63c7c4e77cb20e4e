import Derived.Test.YtagfgkcipomopaaW30
import Derived.Test.YtagfgkcipomopaaW28
namespace Go.Proofs.Ytagfgkcipomopaa
open Go.RowKit Go.Sort

/-! ### LinksCircles -/
/-- Links and the document's links of the same rules, apart from one another and from what came in. -/
structure Both (w wr : World) (pb bm px : Nat) (F1 F2 : Nat → Prop) (M : Mp) : Prop where
  lk : Lk wr pb bm F1 M
  rf : Ref wr px F2 M
  b1 : ∀ b, F1 b → w.heap.size ≤ b ∧ b < wr.heap.size
  b2 : ∀ b, F2 b → w.heap.size ≤ b ∧ b < wr.heap.size
  ap : ∀ b, F1 b → ¬ F2 b
  vm : VM M
theorem Both.xt {w wr w' : World} {pb bm px : Nat} {F1 F2 : Nat → Prop} {M : Mp} (h : Both w wr pb bm px F1 F2 M) (hx : Xt wr w') : Both w w' pb bm px F1 F2 M :=
  ⟨h.lk.xt (fun b hb => (h.b1 b hb).2) hx, h.rf.xt (fun b hb => (h.b2 b hb).2) hx, fun b hb => ⟨(h.b1 b hb).1, Nat.lt_of_lt_of_le (h.b1 b hb).2 hx.sz⟩, fun b hb => ⟨(h.b2 b hb).1, Nat.lt_of_lt_of_le (h.b2 b hb).2 hx.sz⟩, h.ap, h.vm⟩
theorem Both.sorted {w wr : World} {pb bm px : Nat} {F1 F2 : Nat → Prop} {M : Mp} (h : Both w wr pb bm px F1 F2 M) : SortedM M := by
  obtain ⟨E, _, he⟩ := h.lk.map; exact he.sorted
theorem ref_grown {w1 w2 : World} {px bm : Nat} {F1 F2 : Nat → Prop} {M : Mp} (h : Ref w1 px F2 M) (hb : ∀ b, F2 b → b < w1.heap.size) (hbm : F1 bm) (hap : ∀ b, F1 b → ¬ F2 b) (hg : w1.grownBy w2 (some bm)) : Ref w2 px F2 M :=
  h.keep (fun b h2 => hg.block b (hb b h2) (fun e => by cases e; exact hap _ hbm h2)) (fun _ h => h) hg.size
theorem lk_chg {w1 w2 : World} {pb bm : Nat} {F1 F2 : Nat → Prop} {M : Mp} (h : Lk w1 pb bm F1 M) (hb : ∀ b, F1 b → b < w1.heap.size) (hap : ∀ b, F1 b → ¬ F2 b) (hc : Chg F2 w1 w2) : Lk w2 pb bm F1 M :=
  h.keep (fun b h1 => hc.block b (hb b h1) (hap b h1)) (fun _ h => h)
theorem xt_chg {a b c : World} {F : Nat → Prop} (h : Xt a b) (k : Chg F b c) (hF : ∀ q, F q → a.heap.size ≤ q) : Xt a c :=
  ⟨k.os.trans h.os, k.tape.trans h.tape, k.output.trans h.output, Nat.le_trans h.size k.size, fun i hi => (k.block i (Nat.lt_of_lt_of_le hi h.size) (fun e => by have := hF i e; omega)).trans (RowKit.Below.block h i hi)⟩
/-- Behind Set on both. -/
theorem Both.set {w wr w3 w4 : World} {pb bm px : Nat} {F1 F2 : Nat → Prop} {M : Mp} {a : Ad} {u : List Ar} {e1 e2 : Ending} (h : Both w wr pb bm px F1 F2 M) (h1 : SetR wr pb bm F1 M a u e1 w3) (h2 : RSetR w3 px F2 M a u e2 w4) (hw : w.heap.size ≤ wr.heap.size) :
    ∃ G1 G2, Both w w4 pb bm px G1 G2 (setTo M a u) := by
  obtain ⟨_, hL, hg⟩ := h1
  obtain ⟨_, hR, hc⟩ := h2
  have s1 := hg.size
  have s2 := hc.size
  refine ⟨fun b => F1 b ∨ (wr.heap.size ≤ b ∧ b < w3.heap.size), fun b => F2 b ∨ (w3.heap.size ≤ b ∧ b < w4.heap.size), lk_chg hL ?_ ?_ hc, hR, ?_, ?_, ?_, h.vm.set a u⟩
  · intro b hb; rcases hb with hb | hb
    · have := h.b1 b hb; omega
    · exact hb.2
  · intro b hb hf; rcases hb with hb | hb
    · exact h.ap b hb hf
    · have := h.b2 b hf; omega
  · intro b hb; rcases hb with hb | hb
    · have := h.b1 b hb; omega
    · omega
  · intro b hb; rcases hb with hb | hb
    · have := h.b2 b hb; omega
    · omega
  · intro b hb hf
    rcases hb with hb | hb <;> rcases hf with hf | hf
    · exact h.ap b hb hf
    · have := h.b1 b hb; omega
    · have := h.b2 b hf; omega
    · omega
theorem Both.drop {w wr w3 w4 : World} {pb bm px : Nat} {F1 F2 : Nat → Prop} {M : Mp} {a : Ad} {e1 e2 : Ending} (h : Both w wr pb bm px F1 F2 M) (h1 : DropR wr pb bm F1 M a e1 w3) (h2 : RDropR w3 px F2 M a e2 w4) (hw : w.heap.size ≤ wr.heap.size) :
    ∃ G1 G2, Both w w4 pb bm px G1 G2 (delM a M) := by
  obtain ⟨_, hL, hg⟩ := h1
  obtain ⟨_, hR, hc⟩ := h2
  have s1 := hg.size
  have s2 := hc.size
  refine ⟨F1, fun b => F2 b ∨ (w3.heap.size ≤ b ∧ b < w4.heap.size), lk_chg hL (fun b hb => by have := h.b1 b hb; omega) h.ap hc, hR, fun b hb => by have := h.b1 b hb; omega, ?_, ?_, h.vm.del a⟩
  · intro b hb; rcases hb with hb | hb
    · have := h.b2 b hb; omega
    · omega
  · intro b hb hf
    rcases hf with hf | hf
    · exact h.ap b hb hf
    · have := h.b1 b hb; omega
set_option maxRecDepth 100000 in
set_option maxHeartbeats 8000000 in
theorem circles5_any (v0 : Value) (rs : Mp) (w : World) (h0 : RulesOf w v0 rs) : Calls Try.prog 5 #[v0] w fun e w' => e = .returned (.bool true) ∧ Xt w w' := by
  obtain ⟨sa, cap, rfl, qa, qb, hcc⟩ := h0
  have HC := Lib.hid hcc
  clear hcc
  go_enter Try.func5, Try.ntmps5
  go_wp2_with fail
  refine (awake_any _).mono ?_
  rintro e w1 ⟨rfl, hx1⟩
  have HX1 : Hid (Xt w w1) := hx1
  clear hx1
  go_wp2_with fail
  refine (new_any _).mono ?_
  rintro e w2 ⟨rfl, hL, hg2⟩
  have HL2 := Lib.hid hL
  have HX2 : Hid (Xt w1 w2) := hg2.xt
  clear hL hg2
  go_wp2_with fail
  refine (rnew_any _).mono ?_
  rintro e w3 ⟨rfl, hR, hg3⟩
  have HB3 : Hid (∃ F1 F2, Both w w3 (w1.heap.size + 1) w1.heap.size w2.heap.size F1 F2 (madeK rs 0)) := by
    have s1 := HX1.out.sz
    have s2 := HX2.out.sz
    have s3 := hg3.xt.sz
    refine ⟨_, _, HL2.out.xt (fun b hb => hb.2) hg3.xt, hR, fun b hb => by omega, fun b hb => by omega, fun b hb hf => by omega, fun x hx => by cases hx⟩
  have HX3 : Hid (Xt w w3) := (HX1.out.trans HX2.out).trans hg3.xt
  clear hR hg3 HL2
  obtain ⟨bm, hbm⟩ : ∃ n, w1.heap.size = n := ⟨_, rfl⟩
  obtain ⟨px, hpx⟩ : ∃ n, w2.heap.size = n := ⟨_, rfl⟩
  rw [hbm, hpx] at HB3
  rw [hbm, hpx]
  clear hbm hpx HX1 HX2
  go_wp2_with fail
  go_loopw [6] (fun s6 wr => ∃ k : Nat, k ≤ rs.length ∧ k ≤ 300 ∧ s6 = .int .i64 k ∧ Hid (∃ F1 F2, Both w wr (bm + 1) bm px F1 F2 (madeK rs k)) ∧ Hid (Xt w wr)) (fun s6 _ => rs.length - (intOf s6).toNat)
  case atStart => exact ⟨0, Nat.zero_le _, by omega, rfl, HB3, HX3⟩
  case round =>
    obtain ⟨k, hk, hk3, rfl, HB, HX⟩ := hrel
    by_cases hgo : k < rs.length ∧ (k : Int) < 300
    · obtain ⟨hlt, h3⟩ := hgo
      obtain ⟨b', off, rfl, hcell⟩ := HC.out (by intro h; simp [h] at hlt)
      obtain ⟨r, hr⟩ : ∃ r, rs[k]? = some r := ⟨rs[k], by simp [hlt]⟩
      obtain ⟨d0, d1, ux, d2, hu⟩ := hcell k r hr
      have hb' : b' < w.heap.size := World.block_lt_of_cell? w _ d0
      have d0r := ((HX.out.cells).1 b' _ hb').trans d0
      have d1r := ((HX.out.cells).1 b' _ hb').trans d1
      have d2r := ((HX.out.cells).1 b' _ hb').trans d2
      have HUw := Lib.hid hu
      have HRk := Lib.hid hr
      obtain ⟨F1, F2, hB⟩ := HB.out
      have HBr : Hid (Both w wr.drew (bm + 1) bm px F1 F2 (madeK rs k)) := hB.xt (Xt.refl _).drew
      have hzr := HX.out.sz
      have hun : ∀ (G : Nat → Prop), (∀ b, G b → w.heap.size ≤ b) → r.2 ≠ [] → slIn (fun b => ¬ G b) ux := by
        intro G hG hne a n c hux hGa
        obtain ⟨a', c', hv, _, _, hh⟩ := hu
        rw [hux] at hv
        cases hv
        obtain ⟨bq, oq, ha, hq⟩ := hh hne
        cases ha
        have h1 := hG _ hGa
        obtain ⟨y, hy⟩ : ∃ y, r.2[0]? = some y := by
          cases hl : r.2 with
          | nil => exact absurd hl hne
          | cons y _ => exact ⟨y, rfl⟩
        have := World.block_lt_of_cell? w _ (hq 0 y hy 0 _ rfl)
        simp only at this h1
        omega
      have HUN := Lib.hid hun
      clear hcell hr hu d0 d1 d2 hB hun
      go_wp2_with fail
      refine wp_region_still_tail 11 (by kernel_rfl) (by kernel_rfl) ?_
      change wpStill _ _ (World.drew _) _ _ _
      simp only [List.take_succ_cons, List.take_zero, List.drop_succ_cons, List.drop_zero]
      iterate 11 still_step
      refine wpStill_nil ?_
      change wpList _ _ _ _ _ (World.drew _)
      refine wpList_step (fun K hK => ?_)
      go_simp
      refine (set16_any (bm + 1) bm F1 (madeK rs k) r.1 ux r.2 wr.drew HBr.out.lk (fun b hb => (HBr.out.b1 b hb).2) (HUw.out.xt HX.out.drew)).mono ?_
      rintro e w4 hset
      have HSET := Lib.hid hset
      obtain ⟨rfl, _, hg4⟩ := hset
      refine hK _ _ ?_
      clear hK K
      have hbmF := HBr.out.lk.inM
      have HX4 : Hid (Xt w w4) := HX.out.drew.grownBy hg4 (HBr.out.b1 bm hbmF).1
      have HR4 : Hid (Ref w4 px F2 (madeK rs k)) := ref_grown HBr.out.rf (fun b hb => (HBr.out.b2 b hb).2) hbmF HBr.out.ap hg4
      have hb2 : ∀ b, F2 b → w.heap.size ≤ b ∧ b < w4.heap.size := fun b hb => ⟨(HBr.out.b2 b hb).1, Nat.lt_of_lt_of_le (HBr.out.b2 b hb).2 hg4.size⟩
      have HB2 := Lib.hid hb2
      have d0s := ((HX4.out.cells).1 b' _ hb').trans (((HX.out.cells).1 b' _ hb').symm.trans d0r)
      have d1s := ((HX4.out.cells).1 b' _ hb').trans (((HX.out.cells).1 b' _ hb').symm.trans d1r)
      have d2s := ((HX4.out.cells).1 b' _ hb').trans (((HX.out.cells).1 b' _ hb').symm.trans d2r)
      have hrset := rset21_any px F2 (madeK rs k) r.1 ux r.2 w4.drew (HR4.out.xt (fun b hb => (HB2.out b hb).2) (Xt.refl _).drew) (fun b hb => (HB2.out b hb).2) (HUw.out.xt HX4.out.drew) (HUN.out F2 (fun b hb => (HB2.out b hb).1))
      have HRSET := Lib.hid hrset
      clear hg4 hb2 hrset d0r d1r d2r hbmF
      go_wp2_with fail
      refine wp_region_still_tail 11 (by kernel_rfl) (by kernel_rfl) ?_
      change wpStill _ _ (World.drew _) _ _ _
      simp only [List.take_succ_cons, List.take_zero, List.drop_succ_cons, List.drop_zero]
      iterate 11 still_step
      refine wpStill_nil ?_
      change wpList _ _ _ _ _ (World.drew _)
      refine wpList_step (fun K hK => ?_)
      go_simp
      refine (HRSET.out).mono ?_
      rintro e w5 hset2
      have HX5 : Hid (Xt w w5) := xt_chg HX4.out.drew hset2.2.2 (fun q hq => (HB2.out q hq).1)
      have HB5 : Hid (∃ F1 F2, Both w w5 (bm + 1) bm px F1 F2 (madeK rs (k + 1))) := by
        rw [madeK_succ HRk.out]
        have hs2 : RSetR w4 px F2 (madeK rs k) r.1 r.2 e w5 := rset_of (Xt.refl _).drew hset2
        exact HBr.out.set HSET.out hs2 hzr
      obtain ⟨rfl, _, _⟩ := hset2
      refine hK _ _ ?_
      clear hK K d0s d1s d2s
      generalize setErr (madeK rs k) r.1 r.2 = er
      go_wp2_with fail
      go_roundw
      case rel => exact ⟨k + 1, by omega, by omega, by go_num, HB5, HX5⟩
      case measure => simp [intOf]; omega
    · have hgo2 : (k < rs.length ∧ ¬ (k : Int) < 300) ∨ ¬ k < rs.length := by
        by_cases h : k < rs.length
        · exact Or.inl ⟨h, fun h2 => hgo ⟨h, h2⟩⟩
        · exact Or.inr h
      clear hgo
      have HBM : Hid (∃ M F1 F2, Both w wr (bm + 1) bm px F1 F2 M) := by
        obtain ⟨F1, F2, hB⟩ := HB.out
        exact ⟨_, F1, F2, hB⟩
      rcases hgo2 with ⟨hlt, h3⟩ | hlt
      all_goals
        go_wp2_with fail
        go_loopw [9] (fun s9 wr => ∃ i : Nat, i ≤ 4 ∧ s9 = .int .i64 i ∧ Hid (∃ M F1 F2, Both w wr (bm + 1) bm px F1 F2 M) ∧ Hid (Xt w wr)) (fun s9 _ => 4 - (intOf s9).toNat)
        case atStart => exact ⟨0, by omega, rfl, HBM, HX⟩
        case round =>
          obtain ⟨i, hi4, rfl, HBi, HXi⟩ := hrel
          by_cases hlti : (i : Int) < 4
          · obtain ⟨M, F1, F2, hB⟩ := HBi.out
            have HBo := Lib.hid hB
            clear hB
            go_wp2_with fail
            refine (circle22_any (bm + 1) bm F1 M wr HBo.out.lk (fun b hb => (HBo.out.b1 b hb).2)).mono ?_
            rintro e w4 ⟨vc, rfl, hownc, hx4⟩
            have HSC := Lib.hid (OwnL.sl hownc adC_len)
            have HB4 : Hid (Both w w4 (bm + 1) bm px F1 F2 M) := HBo.out.xt hx4
            have HX4 : Hid (Xt w w4) := HXi.out.trans hx4
            have hrc : Calls Try.prog 23 #[.pointer (some ⟨px, 0, none⟩)] w4 (CircR w4 M) := by
              obtain ⟨v, R, hR⟩ := HB4.out.rf
              exact rcircle23_any px v M w4 hR.cell hR.rules HB4.out.sorted HB4.out.vm hR.many
            have HRC := Lib.hid hrc
            clear hownc hx4 hrc
            go_wp2_with fail
            refine (HRC.out).mono ?_
            rintro e w5 ⟨vd, rfl, hownd, hx5⟩
            have HSD := Lib.hid (OwnL.sl hownd adC_len)
            have HSC5 : Hid (SlOf w5 adC 2 vc (circleM M).1) := HSC.out.xt hx5
            have HB5 : Hid (Both w w5 (bm + 1) bm px F1 F2 M) := HB4.out.xt hx5
            have HX5 : Hid (Xt w w5) := HX4.out.trans hx5
            clear hownd hx5
            generalize (circleM M).2 = bb at *
            generalize (circleM M).1 = cl at *
            go_wp2_with fail
            refine (addrs_any vc vd cl cl w5 HSC5.out HSD.out).mono ?_
            rintro e w6 ⟨rfl, hg6⟩
            rw [decide_eq_true (rfl : cl = cl)]
            have HB6 : Hid (Both w w6 (bm + 1) bm px F1 F2 M) := HB5.out.xt hg6.xt
            have HX6 : Hid (Xt w w6) := HX5.out.trans hg6.xt
            have HSD6 : Hid (SlOf w6 adC 2 vd cl) := HSD.out.xt hg6.xt
            obtain ⟨ad, cd, rfl, _, _, hdc⟩ := HSD6.out
            have HDC := Lib.hid hdc
            clear hg6 hdc
            cases cl with
            | nil =>
              cases bb
              all_goals
                go_wp2_with fail
                go_roundw
                case rel => exact ⟨i + 1, by omega, by go_num, ⟨M, F1, F2, HB6.out⟩, HX6⟩
                case measure => simp [intOf]; omega
            | cons x cl =>
              obtain ⟨bd, od, rfl, hcd⟩ := HDC.out (by simp)
              obtain ⟨x0, x1⟩ := ad_cells (hcd 0 x rfl)
              simp only [Nat.zero_mul, Nat.add_zero] at x0 x1
              have hbd : bd < w6.heap.size := World.block_lt_of_cell? w6 _ x0
              rw [List.length_cons]
              clear hcd
              cases bb
              all_goals
                go_wp2_with fail
                refine (drop_any (bm + 1) bm F1 M x w6 HB6.out.lk (fun b hb => (HB6.out.b1 b hb).2)).mono ?_
                rintro e w7 hdr
                have HDR := Lib.hid hdr
                obtain ⟨rfl, _, hg7⟩ := hdr
                have hbmF := HB6.out.lk.inM
                have hbb : bd ≠ bm := by
                  rintro rfl
                  obtain ⟨E, hm, _⟩ := HB6.out.lk.map
                  rw [hm.nocell] at x0; cases x0
                have HX7 : Hid (Xt w w7) := HX6.out.grownBy hg7 (HB6.out.b1 bm hbmF).1
                have HR7 : Hid (Ref w7 px F2 M) := ref_grown HB6.out.rf (fun b hb => (HB6.out.b2 b hb).2) hbmF HB6.out.ap hg7
                have hb2 : ∀ b, F2 b → w.heap.size ≤ b ∧ b < w7.heap.size := fun b hb => ⟨(HB6.out.b2 b hb).1, Nat.lt_of_lt_of_le (HB6.out.b2 b hb).2 hg7.size⟩
                have HB2 := Lib.hid hb2
                have x07 := (cell_grown hg7 hbd hbb).trans x0
                have x17 := (cell_grown hg7 hbd hbb).trans x1
                have hrd := rdrop25_any px F2 M x w7 HR7.out (fun b hb => (HB2.out b hb).2)
                have HRD := Lib.hid hrd
                generalize (lkM x M).isSome = lb
                clear hg7 hb2 hrd hbmF x0 x1
                go_wp2_with fail
                refine (HRD.out).mono ?_
                rintro e w8 hdr2
                have HX8 : Hid (Xt w w8) := xt_chg HX7.out hdr2.2.2 (fun q hq => (HB2.out q hq).1)
                have HB8 : Hid (∃ M F1 F2, Both w w8 (bm + 1) bm px F1 F2 M) := ⟨_, HB6.out.drop HDR.out hdr2 HX6.out.sz⟩
                obtain ⟨rfl, _, _⟩ := hdr2
                generalize (lkM x M).isSome = lc
                clear x07 x17
                go_wp2_with fail
                go_roundw
                case rel => exact ⟨i + 1, by omega, by go_num, HB8, HX8⟩
                case measure => simp [intOf]; omega
          · go_wp2_with fail
            go_ret
            exact ⟨rfl, HXi.out⟩
end Go.Proofs.Ytagfgkcipomopaa
