import Derived.Test.YtagfgkcipomopaaL19
import Derived.Test.YtagfgkcipomopaaW33
import Derived.Test.YtagfgkcipomopaaW34
import Derived.Test.YtagfgkcipomopaaW22
import Derived.Deep.CutBlock
import Derived.Deep.CutRange
namespace Go.Proofs.Ytagfgkcipomopaa
open Go.RowKit Go.Sort

/-! ### LinksHang -/
theorem usesR_succ {l : List Ar} {j : Nat} {y : Ar} (h : l[j]? = some y) (t : Ad) : usesR (l.take (j + 1)) t = (usesR (l.take j) t || inR y t) := by
  unfold usesR
  rw [List.take_add_one, h, List.any_append]
  simp
theorem SlOf.ad {w : World} {s : Option Addr} {n c k : Nat} {l : List Ad} (h : SlOf w adC 2 (.slice s n c) l) (hk : k < l.length) : ∃ x b off, s = some ⟨b, off, none⟩ ∧ l[k]? = some x ∧ w.cell? ⟨b, off + k * 2, none⟩ = some (.int .i64 x.1) ∧ w.cell? ⟨b, off + k * 2 + 1, none⟩ = some (.int .i64 x.2) := by
  obtain ⟨_, _, e0, _, _, h6⟩ := h
  cases e0
  obtain ⟨b, off, e1, h7⟩ := h6 (by intro e; simp [e] at hk)
  have hx : l[k]? = some l[k] := List.getElem?_eq_getElem hk
  obtain ⟨d0, d1⟩ := ad_cells (h7 k _ hx)
  exact ⟨_, b, off, e1, hx, d0, d1⟩
set_option maxRecDepth 100000 in
set_option maxHeartbeats 8000000 in
theorem hang6_any (v0 : Value) (rs : Mp) (t : Ad) (w : World) (h0 : RulesOf w v0 rs) :
    Calls Try.prog 6 #[v0, .agg #[.int .i64 t.1, .int .i64 t.2]] w fun e w' => e = .returned (.bool true) ∧ Xt w w' := by
  obtain ⟨i0, hi, hz0, hz1, hz2⟩ := info_parts info34
  have H0 := Lib.hid h0
  have HALL := Lib.hid (all_said rs)
  obtain ⟨sa, ca, rfl, q1, q2, hcc⟩ := h0
  have HC := Lib.hid hcc
  obtain ⟨w0, hw0, hb0, hs0, c0, c1⟩ := box1 w t.1 t.2 34
  have HX0 : Hid (Xt w w0) := hb0
  clear hcc hb0
  go_enter Try.func6, Try.ntmps6
  go_wp2_with fail
  clear hw0
  refine (awake_any _).mono ?_
  rintro e w1 ⟨rfl, hx1⟩
  have HX1 : Hid (Xt w w1) := HX0.out.trans hx1
  rw [← (hx1.cells).1 _ _ (by omega)] at c0 c1
  have hs1 := hx1.sz
  clear hx1
  go_wp2_with fail
  refine (made_any _ rs w1 (H0.out.xt HX1.out)).mono ?_
  rintro e w2 ⟨rfl, hL, hx2⟩
  have HX2 : Hid (Xt w w2) := HX1.out.trans hx2
  rw [← (hx2.cells).1 _ _ (by omega)] at c0 c1
  have HLx := Lib.hid hL
  have hs2 := hx2.sz
  obtain ⟨bm, hbm⟩ : ∃ n, w1.heap.size = n := ⟨_, rfl⟩
  rw [hbm] at HLx hs1 hs2 ⊢
  obtain ⟨kt, hkt⟩ : ∃ n, w.heap.size = n := ⟨_, rfl⟩
  have hktb : kt < bm := by omega
  rw [hkt] at c0 c1 ⊢
  have HKT := Lib.hid hkt
  clear hL hx2 hbm hkt hs0 hs1
  go_upto_block 0 with fail
  go_cut [7, 8, 9, 10] from 41 to 76 (fun s7 s8 s9 s10 wx => Hid (OwnL wx w2.heap.size 34 2 adC s7 (allM rs)) ∧ Hid (Xt w2 wx))
  case first =>
    go_wp2_with fail
    go_loopw [7, 8] (fun v i wr => ∃ k : Nat, k ≤ rs.length ∧ k ≤ 300 ∧ i = .int .i64 k ∧ Hid (OwnL wr w2.heap.size 34 2 adC v (allK rs k)) ∧ Hid (Xt w2 wr)) (fun _ i _ => rs.length - (intOf i).toNat)
    case atStart => exact ⟨0, Nat.zero_le _, by omega, rfl, World.ownsRow_nil _ _ _ _, Xt.refl _⟩
    case round =>
      obtain ⟨k, hk, hk3, rfl, HO, HX⟩ := hrel
      have done : (rs.length ≤ k ∨ 300 ≤ k) → allK rs k = allM rs := by
        intro hd
        unfold allM
        congr 1
        omega
      have HD := Lib.hid done
      clear done
      have hz := HX.out.sz
      by_cases hlt : k < rs.length
      · by_cases h3 : (k : Int) < 300
        · obtain ⟨b', off, rfl, hcell⟩ := HC.out (by intro h; simp [h] at hlt)
          obtain ⟨r, hr⟩ : ∃ r, rs[k]? = some r := ⟨rs[k], by simp [hlt]⟩
          obtain ⟨d0, d1, u, d2, hu⟩ := hcell k r hr
          have hb' : b' < w.heap.size := World.block_lt_of_cell? w _ d0
          rw [← ((HX2.out.trans HX.out).cells).1 _ _ hb'] at d0 d1
          have z2 : b' < wr.heap.size := by have := HX2.out.sz; omega
          have HR := Lib.hid hr
          have hsucc := Lib.hid (allK_succ hr)
          have hfl : (allK rs k).length ≤ 300 := Nat.le_trans (allK_said rs k hk).1 hk3
          clear hcell hr hu hb' d2
          go_wp2_with fail
          refine (rvalid_any r.1.1 r.1.2 wr).mono ?_
          rintro e w3 ⟨rfl, hg3⟩
          have HX3 : Hid (Xt wr w3) := hg3.xt
          rw [← (hg3.xt.cells).1 _ _ z2] at d0 d1
          have z3 : b' < w3.heap.size := Nat.lt_of_lt_of_le z2 hg3.xt.sz
          clear hg3
          go_wp2_with fail
          refine (has_any _ (allK rs k) r.1 w3 ((HO.out.xt HX3.out).sl adC_len)).mono ?_
          rintro e w4 ⟨rfl, hg4⟩
          have HX4 : Hid (Xt wr w4) := HX3.out.trans hg4.xt
          have HX24 : Hid (Xt w2 w4) := HX.out.trans HX4.out
          rw [← (hg4.xt.cells).1 _ _ z3] at d0 d1
          have z4 : b' < w4.heap.size := Nat.lt_of_lt_of_le z3 hg4.xt.sz
          have hown2 : w4.ownsRow w2.heap.size 34 2 u7 (allK rs k).length ((allK rs k).flatMap adC) := HO.out.xt HX4.out
          have hz4 : w2.heap.size ≤ w4.heap.size := HX24.out.sz
          generalize hfe : allK rs k = fs at hfl hown2 hsucc
          have HFE := Lib.hid hfe
          clear hg4 hfe
          cases hv : validB r.1.1 r.1.2
          · go_wp2_with fail
            go_roundw
            case rel => exact ⟨k + 1, by omega, by omega, by go_num, by rw [hsucc.out, hv]; exact hown2, HX24⟩
            case measure => simp [intOf]; omega
          · cases hh : hasB fs r.1
            · go_wp2_with (at_builtin; refine wpList_append_own _ rfl _ _ 23 rfl w2.heap.size 34 i0 (.agg #[.int .i64 0, .int .i64 0]) 2 16 Try.underlying23 hi hz0 hz1 hz2 rfl (by decide) _ _ _ rfl (hown2.alloc _) ⟨w4.heap.size, 0, none⟩ 1 1 [.int .i64 r.1.1, .int .i64 r.1.2] rfl rfl (news_at _ [.int .i64 r.1.1, .int .i64 r.1.2] 34 (by simp)) (adC_one r.1) ?c4 ?c5 ?c6 ?_)
              case c4 => unfold maxLen; omega
              case c5 => omega
              case c6 => first | omega | (simp; omega)
              intro v' w5 hown5 hg5 _
              have hg6 : w4.grownBy w5 u7.ownBlock := (World.grownBy_alloc w4 _ _).trans hg5
              go_wp2_with fail
              go_roundw
              case rel =>
                refine ⟨k + 1, by omega, by omega, by go_num, ?_, ?_⟩
                · rw [hsucc.out, hv, hh]; exact OwnL.snoc hown5
                · exact Below.grown HX24.out hg6 hz4 (fun q hq => (World.ownsRow.lt hown2 q hq).1)
              case measure => simp [intOf]; omega
            · go_wp2_with fail
              go_roundw
              case rel => exact ⟨k + 1, by omega, by omega, by go_num, by rw [hsucc.out, hv, hh]; exact hown2, HX24⟩
              case measure => simp [intOf]; omega
        · have he := HD.out (Or.inr (by omega))
          rw [he] at HO
          clear he
          go_wp2_with fail
          go_meet
          exact ⟨HO, HX⟩
      · have he := HD.out (Or.inl (by omega))
        rw [he] at HO
        clear he
        go_wp2_with fail
        go_meet
        exact ⟨HO, HX⟩
  case rest =>
    obtain ⟨HO, HX⟩ := hcut
    obtain ⟨M, hM⟩ : ∃ M, madeM rs = M := ⟨_, rfl⟩
    have HMM := Lib.hid hM
    rw [hM] at HLx HALL
    generalize allM rs = all at HO HALL
    have HAL : Hid (∀ a b, onM M a b = true → a ∈ M.map (·.1)) := fun a b h => onM_key h
    have hz := HX.out.sz
    have HS : Hid (SlOf wc adC 2 u7 all) := HO.out.sl adC_len
    obtain ⟨sl, cl, rfl, r1, r2, hac⟩ := HS.out
    have HAC := Lib.hid hac
    have HLc : Hid (Lk wc (bm + 1) bm (fun b => bm ≤ b ∧ b < w2.heap.size) M) := HLx.out.xt (fun b hb => hb.2) HX.out
    have HFc : Hid (∀ b, (bm ≤ b ∧ b < w2.heap.size) → b < wc.heap.size) := fun b hb => Nat.lt_of_lt_of_le hb.2 hz
    rw [← (HX.out.cells).1 _ _ (by omega)] at c0 c1
    have hlen3 : all.length ≤ 300 := HALL.out.len
    clear hM hac HC
    go_wp2_with fail
    refine (users_any (bm + 1) bm _ M t wc HLc.out HFc.out).mono ?_
    rintro e w6 ⟨vU, rfl, hownU, hx6⟩
    have HX6 : Hid (Xt wc w6) := hx6
    have HU6 : Hid (SlOf w6 adC 2 vU ((M.map (·.1)).filter fun a => onM M a t)) := hownU.sl adC_len
    rw [← (hx6.cells).1 _ _ (by omega)] at c0 c1
    have hz6 := hx6.sz
    have HL6 : Hid (Lk w6 (bm + 1) bm (fun b => bm ≤ b ∧ b < w2.heap.size) M) := HLc.out.xt HFc.out hx6
    have HF6 : Hid (∀ b, (bm ≤ b ∧ b < w2.heap.size) → b < w6.heap.size) := fun b hb => Nat.lt_of_lt_of_le (HFc.out b hb) hz6
    have HS6 : Hid (SlOf w6 adC 2 (.slice sl all.length cl) all) := HS.out.xt hx6
    have HAC6 : Hid (all ≠ [] → ∃ b off, sl = some ⟨b, off, none⟩ ∧ ∀ k x, all[k]? = some x → w6.cell? ⟨b, off + k * 2, none⟩ = some (.int .i64 x.1) ∧ w6.cell? ⟨b, off + k * 2 + 1, none⟩ = some (.int .i64 x.2)) := by
      intro hne
      obtain ⟨_, _, e0, _, _, h6⟩ := HS6.out
      cases e0
      obtain ⟨b, off, e1, h7⟩ := h6 hne
      exact ⟨b, off, e1, fun k x hx => ad_cells (h7 k x hx)⟩
    clear hownU hx6
    go_upto_block 2 with fail
    go_cut [12, 13, 14, 15, 16, 17] from 80 to 116 (fun s12 s13 s14 s15 s16 s17 wx => Hid (Xt w6 wx))
    case first =>
      go_wp2_with fail
      go_loopw [12] (fun i wr => ∃ k : Nat, k ≤ all.length ∧ i = .int .i64 k ∧ Hid (Xt w6 wr)) (fun i _ => all.length - (intOf i).toNat)
      case atStart => exact ⟨0, Nat.zero_le _, rfl, Xt.refl _⟩
      case round =>
        obtain ⟨k, hk, rfl, HXr⟩ := hrel
        have hzr := HXr.out.sz
        by_cases hlt : k < all.length
        · obtain ⟨b', off, rfl, hcell⟩ := HAC6.out (by intro h; simp [h] at hlt)
          obtain ⟨x, hx⟩ : ∃ x, all[k]? = some x := ⟨all[k], by simp [hlt]⟩
          obtain ⟨d0, d1⟩ := hcell k x hx
          have hb' : b' < w6.heap.size := World.block_lt_of_cell? w6 _ d0
          rw [← (HXr.out.cells).1 _ _ hb'] at d0 d1
          have z2 : b' < wr.heap.size := by omega
          clear hcell hx hb'
          go_wp2_with fail
          refine (uses_any (bm + 1) bm _ M x wr (HL6.out.xt HF6.out HXr.out) (fun b hb => Nat.lt_of_lt_of_le (HF6.out b hb) HXr.out.sz)).mono ?_
          rintro e w7 ⟨vS, rfl, hownS, hx7⟩
          have HX7 : Hid (Xt w6 w7) := HXr.out.trans hx7
          rw [← (hx7.cells).1 _ _ z2] at d0 d1
          have z7 : b' < w7.heap.size := Nat.lt_of_lt_of_le z2 hx7.sz
          have hsaid := hang_uses HALL.out.vm x t
          generalize (lkM x M).getD [] = us at hownS hsaid
          have HSD := Lib.hid hsaid
          obtain ⟨su, cu, rfl, _, _, huc⟩ := hownS.sl arC_len
          have HUC := Lib.hid huc
          have hul : us.length ≤ cu := by assumption
          have hcu : cu ≤ 9223372036854775807 := by assumption
          have hz7 := HX7.out.sz
          clear hownS hx7 hsaid huc
          go_wp2_with fail
          obtain ⟨wq, hwq⟩ : ∃ wq, wq = w7 := ⟨_, rfl⟩
          subst hwq
          go_loopw [13, 15] (fun s13 i wr => ∃ j : Nat, j ≤ us.length ∧ i = .int .i64 j ∧ s13 = .bool (usesR (us.take j) t) ∧ Hid (Xt wq wr)) (fun _ i _ => us.length - (intOf i).toNat)
          case atStart => exact ⟨0, Nat.zero_le _, rfl, rfl, Xt.refl _⟩
          case round =>
            obtain ⟨j, hj, rfl, rfl, HXi⟩ := hrel
            have hzi := HXi.out.sz
            by_cases hltj : j < us.length
            · obtain ⟨bu, ou, rfl, hcu2⟩ := HUC.out (by intro h; simp [h] at hltj)
              obtain ⟨y, hy⟩ : ∃ y, us[j]? = some y := ⟨us[j], by simp [hltj]⟩
              obtain ⟨f0, f1, f2, f3⟩ := ar_cells (hcu2 j y hy)
              have hbu : bu < wq.heap.size := World.block_lt_of_cell? wq _ f0
              have hsuc := Lib.hid (usesR_succ hy t)
              have c0r := ((HXi.out.cells).1 _ _ (by omega)).trans (((HX7.out.cells).1 _ _ (by omega)).trans c0)
              have c1r := ((HXi.out.cells).1 _ _ (by omega)).trans (((HX7.out.cells).1 _ _ (by omega)).trans c1)
              rw [← (HXi.out.cells).1 _ _ hbu] at f0 f1 f2 f3
              clear hcu2 hy d0 d1
              cases hu : usesR (us.take j) t
              all_goals
                cases hin : inR y t
                all_goals
                  go_wp2_with fail
                  refine wp_region_still_tail 5 (by kernel_rfl) (by kernel_rfl) ?_
                  change wpStill _ _ (World.drew _) _ _ _
                  simp only [List.take_succ_cons, List.take_zero, List.drop_succ_cons, List.drop_zero]
                  iterate 5 still_step
                  refine wpStill_nil ?_
                  change wpList _ _ _ _ _ (World.drew _)
                  refine wpList_step (fun K hK => ?_)
                  go_simp
                  refine (rin_any y t _).mono ?_
                  rintro e w8 ⟨rfl, hg8⟩
                  rw [hin]
                  refine hK _ _ ?_
                  clear hK K
                  have HX8 : Hid (Xt wq w8) := HXi.out.drew.trans hg8.xt
                  clear hg8
                  go_wp2_with fail
                  go_roundw
                  case rel => exact ⟨j + 1, by omega, by go_num, by rw [hsuc.out, hu, hin]; rfl, HX8⟩
                  case measure => simp [intOf]; omega
            · have hjl : j = us.length := by omega
              subst hjl
              rw [List.take_length, HSD.out]
              have HXe : Hid (Xt w6 wr) := HX7.out.trans HXi.out
              rw [← (HXi.out.cells).1 _ _ z7] at d0 d1
              have hhas := hang_has HAL.out x t
              have HH := Lib.hid hhas
              clear hhas
              cases hon : onM M x t
              all_goals
                go_wp2_with fail
                refine (has_any _ _ x wr (HU6.out.xt HXe.out)).mono ?_
                rintro e w9 ⟨rfl, hg9⟩
                rw [HH.out, hon]
                have HX9 : Hid (Xt w6 w9) := HXe.out.trans hg9.xt
                clear hg9
                go_wp2_with fail
                go_roundw
                case rel => exact ⟨k + 1, by omega, by go_num, HX9⟩
                case measure => simp [intOf]; omega
        · go_wp2_with fail
          go_meet
          exact HXr
    case rest =>
      have HY : Hid (Xt w6 wc) := hcut
      clear hcut
      rw [← (HY.out.cells).1 _ _ (by omega)] at c0 c1
      have hzY := HY.out.sz
      obtain ⟨wR, hwR, HXR, HSR⟩ : ∃ wR, wc.alloc (.cells #[.int .i64 t.1, .int .i64 t.2] 34) = wR ∧ Hid (Xt wc wR) ∧ Hid (SlOf wR adC 2 (.slice (some ⟨wc.heap.size, 0, none⟩) 1 1) [t]) :=
        ⟨_, rfl, (Xt.refl _).alloc _, SlOf.newRow _ _ adC_len 34 rfl (by simp) rfl rfl rfl⟩
      have HXYR : Hid (Xt w6 wR) := HY.out.trans HXR.out
      have hzc : wc.heap.size < wR.heap.size := by rw [← hwR]; simp
      go_wp2_with fail
      refine (above29_any (bm + 1) bm _ M _ [t] wR (HL6.out.xt HF6.out HXYR.out) (fun b hb => Nat.lt_of_lt_of_le (HF6.out b hb) HXYR.out.sz) HSR.out).mono ?_
      rintro e w8 ⟨vA, rfl, hownA, hx8⟩
      have HX8 : Hid (Xt w6 w8) := HXYR.out.trans hx8
      have hz8 := HX8.out.sz
      have HL8 : Hid (Lk w8 (bm + 1) bm (fun b => bm ≤ b ∧ b < w2.heap.size) M) := HL6.out.xt HF6.out HX8.out
      have HF8 : Hid (∀ b, (bm ≤ b ∧ b < w2.heap.size) → b < w8.heap.size) := fun b hb => Nat.lt_of_lt_of_le (HF6.out b hb) hz8
      have HS8 : Hid (SlOf w8 adC 2 (.slice sl all.length cl) all) := HS6.out.xt HX8.out
      have HU8 : Hid (SlOf w8 adC 2 vU ((M.map (·.1)).filter fun a => onM M a t)) := HU6.out.xt HX8.out
      have HA8 : Hid (SlOf w8 adC 2 vA (aboveM M [t])) := hownA.sl adC_len
      have hsub : Hid (∀ u ∈ ((M.map (·.1)).filter fun a => onM M a t), u ∈ aboveM M [t]) := fun u hu => (mem_above HAL.out).2 (hangs_one (by simp) (List.mem_filter.1 hu).2)
      have hclo : Hid (∀ a ∈ aboveM M [t], ∀ b, onM M b a = true → b ∈ aboveM M [t]) := fun a ha b hb => (mem_above HAL.out).2 (hangs_step ((mem_above HAL.out).1 ha) hb)
      have HX28 : Hid (Xt w w8) := ((HX2.out.trans HX.out).trans HX6.out).trans HX8.out
      generalize aboveM M [t] = A at HA8 hsub hclo
      generalize ((M.map (·.1)).filter fun a => onM M a t) = U at HU8 hsub
      obtain ⟨sU, cU, rfl, hU1, hU2, _⟩ := HU8.out
      obtain ⟨sA, cA, rfl, hA1, hA2, _⟩ := HA8.out
      clear hownA hx8 hwR HAC6 HU6 HS6 HL6 HF6 HSR HXYR HXR HY HX HX6 HLc HFc HLx HO HS HAC c0 c1 hzc hzY hz6 hz8 hz hs2
      go_upto_block 6 with fail
      go_cut [19, 20] from 121 to 134 (fun s19 s20 wx => Hid (Xt w8 wx))
      case first =>
        go_wp2_with fail
        go_loopw [19] (fun i wr => ∃ k : Nat, k ≤ U.length ∧ i = .int .i64 k ∧ Hid (Xt w8 wr)) (fun i _ => U.length - (intOf i).toNat)
        case atStart => exact ⟨0, Nat.zero_le _, rfl, Xt.refl _⟩
        case round =>
          obtain ⟨k, hk, rfl, HXr⟩ := hrel
          by_cases hlt : k < U.length
          · obtain ⟨x, b', off, rfl, hx, d0, d1⟩ := HU8.out.ad hlt
            have hb' : b' < w8.heap.size := World.block_lt_of_cell? w8 _ d0
            rw [← (HXr.out.cells).1 _ _ hb'] at d0 d1
            have t1 : hasB A x = true := decide_eq_true (hsub.out x (List.mem_of_getElem? hx))
            have T1 := Lib.hid t1
            clear hx t1
            go_wp2_with fail
            refine (has_any _ A x wr (HA8.out.xt HXr.out)).mono ?_
            rintro e w9 ⟨rfl, hg9⟩
            rw [T1.out]
            have HX9 : Hid (Xt w8 w9) := HXr.out.trans hg9.xt
            clear hg9
            go_wp2_with fail
            go_roundw
            case rel => exact ⟨k + 1, by omega, by go_num, HX9⟩
            case measure => simp [intOf]; omega
          · go_wp2_with fail
            go_meet
            exact HXr
      case rest =>
        have HY := hcut
        clear hcut
        obtain ⟨w9, hw9⟩ : ∃ w9, w9 = wc := ⟨_, rfl⟩
        subst hw9
        go_upto_block 8 with fail
        go_cut [21, 22, 23, 24] from 135 to 160 (fun s21 s22 s23 s24 wx => Hid (Xt w8 wx))
        case first =>
          go_wp2_with fail
          go_loopw [21] (fun i wr => ∃ k : Nat, k ≤ A.length ∧ i = .int .i64 k ∧ Hid (Xt w8 wr)) (fun i _ => A.length - (intOf i).toNat)
          case atStart => exact ⟨0, Nat.zero_le _, rfl, HY⟩
          case round =>
            obtain ⟨k, hk, rfl, HXr⟩ := hrel
            by_cases hlt : k < A.length
            · obtain ⟨x, b', off, rfl, hx, d0, d1⟩ := HA8.out.ad hlt
              have hb' : b' < w8.heap.size := World.block_lt_of_cell? w8 _ d0
              rw [← (HXr.out.cells).1 _ _ hb'] at d0 d1
              have hin := Lib.hid (hclo.out x (List.mem_of_getElem? hx))
              clear hx
              go_wp2_with fail
              refine (users_any (bm + 1) bm _ M x wr (HL8.out.xt HF8.out HXr.out) (fun b hb => Nat.lt_of_lt_of_le (HF8.out b hb) HXr.out.sz)).mono ?_
              rintro e w10 ⟨vM, rfl, hownM, hx10⟩
              have HX10 : Hid (Xt w8 w10) := HXr.out.trans hx10
              have HM10 : Hid (SlOf w10 adC 2 vM ((M.map (·.1)).filter fun a => onM M a x)) := hownM.sl adC_len
              have hmem : Hid (∀ y ∈ ((M.map (·.1)).filter fun a => onM M a x), y ∈ A) := fun y hy => hin.out y (List.mem_filter.1 hy).2
              generalize ((M.map (·.1)).filter fun a => onM M a x) = V at HM10 hmem
              obtain ⟨sV, cV, rfl, hV1, hV2, _⟩ := HM10.out
              clear hownM hx10 d0 d1
              go_wp2_with fail
              obtain ⟨wq, hwq⟩ : ∃ wq, wq = w10 := ⟨_, rfl⟩
              subst hwq
              go_loopw [23] (fun i wr => ∃ j : Nat, j ≤ V.length ∧ i = .int .i64 j ∧ Hid (Xt wq wr)) (fun i _ => V.length - (intOf i).toNat)
              case atStart => exact ⟨0, Nat.zero_le _, rfl, Xt.refl _⟩
              case round =>
                obtain ⟨j, hj, rfl, HXi⟩ := hrel
                by_cases hltj : j < V.length
                · obtain ⟨y, b2, off2, rfl, hy, f0, f1⟩ := HM10.out.ad hltj
                  have hb2 : b2 < wq.heap.size := World.block_lt_of_cell? wq _ f0
                  rw [← (HXi.out.cells).1 _ _ hb2] at f0 f1
                  have t1 : hasB A y = true := decide_eq_true (hmem.out y (List.mem_of_getElem? hy))
                  have T1 := Lib.hid t1
                  clear hy t1
                  go_wp2_with fail
                  refine (has_any _ A y wr (HA8.out.xt (HX10.out.trans HXi.out))).mono ?_
                  rintro e w11 ⟨rfl, hg11⟩
                  rw [T1.out]
                  have HX11 : Hid (Xt wq w11) := HXi.out.trans hg11.xt
                  clear hg11
                  go_wp2_with fail
                  go_roundw
                  case rel => exact ⟨j + 1, by omega, by go_num, HX11⟩
                  case measure => simp [intOf]; omega
                · have HXe : Hid (Xt w8 wr) := HX10.out.trans HXi.out
                  go_wp2_with fail
                  go_roundw
                  case rel => exact ⟨k + 1, by omega, by go_num, HXe⟩
                  case measure => simp [intOf]; omega
            · go_wp2_with fail
              go_meet
              exact HXr
        case rest =>
          have HZ : Hid (Xt w8 wc) := hcut
          clear hcut HY
          have hcirc := circle22_any (bm + 1) bm _ M wc (HL8.out.xt HF8.out HZ.out) (fun b hb => Nat.lt_of_lt_of_le (HF8.out b hb) HZ.out.sz)
          have hmany : M.length ≤ 4096 := HL8.out.many
          have HNO := Lib.hid (HALL.out.no HAL.out)
          have HYE := Lib.hid (HALL.out.yes HAL.out)
          unfold CircR at hcirc
          have HCR := Lib.hid hcirc
          clear hcirc
          generalize circleM M = cM at HNO HYE HCR
          obtain ⟨c, yes⟩ := cM
          go_wp2_with fail
          refine HCR.out.mono ?_
          rintro e w9 ⟨vc, rfl, hownc, hx9⟩
          have HX9 : Hid (Xt w8 w9) := HZ.out.trans hx9
          have HC9 : Hid (SlOf w9 adC 2 vc c) := hownc.sl adC_len
          clear hownc hx9
          go_wp2_with fail
          refine (order12_any (bm + 1) bm _ M (.slice sl all.length cl) all w9 (HL8.out.xt HF8.out HX9.out) (fun b hb => Nat.lt_of_lt_of_le (HF8.out b hb) HX9.out.sz) (HS8.out.xt HX9.out) (by omega)).mono ?_
          rintro e w10 ⟨vo, rfl, hown10, hx10⟩
          have HX10 : Hid (Xt w8 w10) := HX9.out.trans hx10
          have HC10 : Hid (SlOf w10 adC 2 vc c) := HC9.out.xt hx10
          have HS10 : Hid (SlOf w10 adC 2 (.slice sl all.length cl) all) := HS8.out.xt HX10.out
          have hz10 := HX10.out.sz
          have HL10 : Hid (Lk w10 (bm + 1) bm (fun b => bm ≤ b ∧ b < w2.heap.size) M) := HL8.out.xt HF8.out HX10.out
          have HF10 : Hid (∀ b, (bm ≤ b ∧ b < w2.heap.size) → b < w10.heap.size) := fun b hb => Nat.lt_of_lt_of_le (HF8.out b hb) hz10
          obtain ⟨E10, hm10, _⟩ := HL10.out.map
          have HM10 := Lib.hid hm10
          have hbm10 : bm < w10.heap.size := hm10.lt
          have HXW : Hid (Xt w w10) := HX28.out.trans HX10.out
          have hwbm : w.heap.size ≤ bm := by have := HKT.out; omega
          generalize (readyS M all []).1 = er at HNO HYE ⊢
          obtain ⟨sc, cc, rfl, hc1, hc2, _⟩ := HC10.out
          clear hown10 hx10 hm10 HCR
          go_upto_block 12 with fail
          go_cut [29, 30, 31] from 172 to 191 (fun s29 s30 s31 wx => ∃ S : List Ad, S.length ≤ all.length ∧ Hid (OwnL wx w10.heap.size 34 2 adC s29 S) ∧ Hid (Lk wx (bm + 1) bm (fun b => bm ≤ b ∧ b < w2.heap.size) (delK M all all.length)) ∧ Hid (w10.grownBy wx (some bm)))
          case first =>
            go_wp2_with fail
            go_loopw [29, 30] (fun s29 i wr => ∃ (k : Nat) (S : List Ad), k ≤ all.length ∧ i = .int .i64 k ∧ S.length ≤ k ∧ Hid (OwnL wr w10.heap.size 34 2 adC s29 S) ∧ Hid (Lk wr (bm + 1) bm (fun b => bm ≤ b ∧ b < w2.heap.size) (delK M all k)) ∧ Hid (w10.grownBy wr (some bm))) (fun _ i _ => all.length - (intOf i).toNat)
            case atStart => exact ⟨0, [], Nat.zero_le _, rfl, Nat.le_refl _, World.ownsRow_nil _ _ _ _, HL10, ⟨rfl, rfl, rfl, Nat.le_refl _, fun _ _ _ => rfl⟩⟩
            case round =>
              obtain ⟨k, S, hk, rfl, hS, HO, HL, HG⟩ := hrel
              have hzr := HG.out.size
              by_cases hlt : k < all.length
              · obtain ⟨x, b', off, rfl, hx, d0, d1⟩ := HS10.out.ad hlt
                have hb' : b' < w10.heap.size := World.block_lt_of_cell? w10 _ d0
                have hne : b' ≠ bm := fun e => by rw [e, HM10.out.nocell] at d0; cases d0
                rw [← cell_grown HG.out hb' hne] at d0 d1
                have hsucc := Lib.hid (delK_succ (M := M) hx)
                have z2 : b' < wr.heap.size := by omega
                clear hx
                go_wp2_with fail
                refine (drop_any (bm + 1) bm _ (delK M all k) x wr HL.out (fun b hb => Nat.lt_of_lt_of_le (HF10.out b hb) hzr)).mono ?_
                rintro e w11 ⟨rfl, hL11, hg11⟩
                have HL11 : Hid (Lk w11 (bm + 1) bm (fun b => bm ≤ b ∧ b < w2.heap.size) (delK M all (k + 1))) := by rw [hsucc.out]; exact hL11
                have HG11 : Hid (w10.grownBy w11 (some bm)) := gb_trans HG.out hg11
                rw [← cell_grown hg11 z2 hne] at d0 d1
                have z3 : b' < w11.heap.size := Nat.lt_of_lt_of_le z2 hg11.size
                have hown2 : w11.ownsRow w10.heap.size 34 2 u29 S.length (S.flatMap adC) := World.ownsRow.kept HO.out hg11 (own_ne HO.out hbm10)
                have hz11 : w10.heap.size ≤ w11.heap.size := HG11.out.size
                clear hL11 hg11
                cases hl : (lkM x (delK M all k)).isSome
                · go_wp2_with fail
                  go_roundw
                  case rel => exact ⟨k + 1, S, by omega, by go_num, by omega, hown2, HL11, HG11⟩
                  case measure => simp [intOf]; omega
                · go_wp2_with (at_builtin; refine wpList_append_own _ rfl _ _ 23 rfl w10.heap.size 34 i0 (.agg #[.int .i64 0, .int .i64 0]) 2 16 Try.underlying23 hi hz0 hz1 hz2 rfl (by decide) _ _ _ rfl (hown2.alloc _) ⟨w11.heap.size, 0, none⟩ 1 1 [.int .i64 x.1, .int .i64 x.2] rfl rfl (news_at _ [.int .i64 x.1, .int .i64 x.2] 34 (by simp)) (adC_one x) ?c4 ?c5 ?c6 ?_)
                  case c4 => unfold maxLen; omega
                  case c5 => omega
                  case c6 => first | omega | (simp; omega)
                  intro v' w12 hown12 hg12 _
                  have hg13 : w11.grownBy w12 u29.ownBlock := (World.grownBy_alloc w11 _ _).trans hg12
                  have HG13 := Lib.hid hg13
                  clear hg12 hg13
                  go_wp2_with fail
                  go_roundw
                  case rel =>
                    have hneb : u29.ownBlock ≠ some bm := fun e => by have := (World.ownsRow.lt hown2 _ e).1; omega
                    refine ⟨k + 1, S ++ [x], by omega, by go_num, by simp; omega, OwnL.snoc hown12, ?_, grownBy_old HG11.out HG13.out (fun g hg => (World.ownsRow.lt hown2 g hg).1)⟩
                    exact HL11.out.keep (fun b hb => HG13.out.block b (Nat.lt_of_lt_of_le (HF10.out b hb) hz11) (fun e => by have h1 := (World.ownsRow.lt hown2 _ e.symm).1; have h2 := HF10.out b hb; omega)) (fun _ h => h)
                  case measure => simp [intOf]; omega
              · have hkl : k = all.length := by omega
                subst hkl
                go_wp2_with fail
                go_meet
                exact ⟨S, hS, HO, HL, HG⟩
          case rest =>
            obtain ⟨S, hS, HO, HL, HG⟩ := hcut
            rw [HALL.out.gone] at HL
            obtain ⟨sS, cS, rfl, _, _, _⟩ := HO.out.sl adC_len
            have HXF : Hid (Xt w wc) := HXW.out.grownBy HG.out hwbm
            have HCf : Hid (SlOf wc adC 2 (.slice sc c.length cc) c) := sl_grown HC10.out HM10.out HG.out
            clear HO HG
            go_wp2_with fail
            refine (len_any (bm + 1) bm _ [] wc HL.out).mono ?_
            rintro e w13 ⟨rfl, rfl⟩
            cases yes
            · obtain ⟨n1, n2⟩ := HNO.out rfl
              have n1' : c = [] := n1
              have n2' : er = 0 := n2
              clear n1 n2
              subst n1'
              subst n2'
              clear HNO HYE
              go_wp2_with fail
              go_ret
              exact ⟨rfl, HXF.out⟩
            · obtain ⟨n1, n2, n3⟩ := HYE.out rfl
              have hpos : 0 < c.length := List.length_pos_iff.2 n1.ne
              have hposI : (0 : Int) < (c.length : Int) := by omega
              have n3' : c.length ≤ M.length := n3
              have n2' : er = 40 := n2
              clear n2
              subst n2'
              have N1 : Hid (IsCirc M c) := n1
              clear HNO HYE n1 n3
              go_wp2_with fail
              refine (circle30_any _ _ rs c wc (H0.out.xt HXF.out) HCf.out (by rw [HMM.out]; exact N1.out) (by rw [HMM.out]; exact HAL.out) (by omega)).mono ?_
              rintro e w14 ⟨rfl, hx14⟩
              have HX14 : Hid (Xt w w14) := HXF.out.trans hx14
              clear hx14
              go_wp2_with fail
              go_ret
              exact ⟨rfl, HX14.out⟩
end Go.Proofs.Ytagfgkcipomopaa
