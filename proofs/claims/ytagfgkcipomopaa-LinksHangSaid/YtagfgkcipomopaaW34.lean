import Derived.Test.YtagfgkcipomopaaW19
import Derived.Test.YtagfgkcipomopaaL11
import Derived.Deep.RegionHeld3
namespace Go.Proofs.Ytagfgkcipomopaa
open Go.RowKit Go.Sort

/-! ### is a list a circle? -/
theorem users_keep {w0 w : World} {p q p' q' : Nat} {u0 u1 v0 v1 : Value} {pb bm : Nat} {F : Nat → Prop} {M : Mp} (t : Ad) (HL : Hid (Lk w0 pb bm F M)) (HF : Hid (∀ b, F b → b < w0.heap.size)) (h0 : w.cell? ⟨p, q, none⟩ = some u0) (h1 : w.cell? ⟨p, q + 1, none⟩ = some u1)
    (k0 : w.cell? ⟨p', q', none⟩ = some v0) (k1 : w.cell? ⟨p', q' + 1, none⟩ = some v1) (hx : Hid (Xt w0 w)) :
    Calls Try.prog 14 #[.pointer (some ⟨pb, 0, none⟩), .agg #[.int .i64 t.1, .int .i64 t.2]] w fun e w' => ∃ v, e = .returned v ∧ w'.cell? ⟨p, q, none⟩ = some u0 ∧ w'.cell? ⟨p, q + 1, none⟩ = some u1 ∧ w'.cell? ⟨p', q', none⟩ = some v0 ∧ w'.cell? ⟨p', q' + 1, none⟩ = some v1 ∧ Hid (SlOf w' adC 2 v ((M.map (·.1)).filter fun a => onM M a t)) ∧ Hid (Xt w0 w') :=
  (users_any pb bm F M t w (HL.out.xt HF.out hx.out) (fun b hb => Nat.lt_of_lt_of_le (HF.out b hb) hx.out.sz)).mono fun e w' ⟨v, he, ho, hg⟩ => by
    have hp := World.block_lt_of_cell? w _ h0
    have hp' := World.block_lt_of_cell? w _ k0
    have hc := (hg.cells).1
    exact ⟨v, he, (hc _ _ hp).trans h0, (hc _ _ hp).trans h1, (hc _ _ hp').trans k0, (hc _ _ hp').trans k1, ho.sl adC_len, hx.out.trans hg⟩
theorem has_keep {w0 w : World} {p q p' q' : Nat} {u0 u1 v0 v1 : Value} {v : Value} {l : List Ad} (a : Ad) {t : Bool} (ht : hasB l a = t) (HV : Hid (SlOf w adC 2 v l)) (h0 : w.cell? ⟨p, q, none⟩ = some u0) (h1 : w.cell? ⟨p, q + 1, none⟩ = some u1)
    (k0 : w.cell? ⟨p', q', none⟩ = some v0) (k1 : w.cell? ⟨p', q' + 1, none⟩ = some v1) (hx : Hid (Xt w0 w)) :
    Calls Try.prog 13 #[v, .agg #[.int .i64 a.1, .int .i64 a.2]] w fun e w' => e = .returned (.bool t) ∧ w'.cell? ⟨p, q, none⟩ = some u0 ∧ w'.cell? ⟨p, q + 1, none⟩ = some u1 ∧ w'.cell? ⟨p', q', none⟩ = some v0 ∧ w'.cell? ⟨p', q' + 1, none⟩ = some v1 ∧ Hid (Xt w0 w') :=
  (has_any v l a w HV.out).mono fun e w' ⟨he, hg⟩ => by
    have hp := World.block_lt_of_cell? w _ h0
    have hp' := World.block_lt_of_cell? w _ k0
    have hc := (hg.xt.cells).1
    exact ⟨by rw [he, ht], (hc _ _ hp).trans h0, (hc _ _ hp).trans h1, (hc _ _ hp').trans k0, (hc _ _ hp').trans k1, hx.out.trans hg.xt⟩
set_option maxRecDepth 100000 in
set_option maxHeartbeats 4000000 in
theorem circle30_any (v0 v : Value) (rs : Mp) (c : List Ad) (w : World) (h0 : RulesOf w v0 rs) (h1 : SlOf w adC 2 v c) (hc : IsCirc (madeM rs) c) (hall : ∀ a b, onM (madeM rs) a b = true → a ∈ (madeM rs).map (·.1)) (hlen : c.length ≤ 8796093022208) :
    Calls Try.prog 30 #[v0, v] w fun e w' => e = .returned (.bool true) ∧ Xt w w' := by
  have H0 := Lib.hid h0
  have H1 := Lib.hid h1
  have HCI := Lib.hid hc
  have HAL := Lib.hid hall
  obtain ⟨sa, ca, rfl, q1, q2, hcc⟩ := h1
  have HC := Lib.hid hcc
  clear h0 hcc hc hall
  go_enter Try.func30, Try.ntmps30
  go_wp2_with fail
  refine (made_any v0 rs w H0.out).mono ?_
  rintro e w2 ⟨rfl, hL, hx2⟩
  have HX2 : Hid (Xt w w2) := hx2
  have HL2 := Lib.hid hL
  clear hL hx2
  obtain ⟨bm, hbm⟩ : ∃ n, w.heap.size = n := ⟨_, rfl⟩
  have HBM := Lib.hid hbm
  rw [hbm] at HL2 ⊢
  have HLx : Hid (Lk w2 (bm + 1) bm (fun b => b < w2.heap.size) (madeM rs)) := HL2.out.keep (fun _ _ => rfl) (fun b hb => hb.2)
  generalize madeM rs = M at HLx HCI HAL
  clear HL2 hbm
  go_wp2_with fail
  go_loopw [6] (fun i wr => ∃ k : Nat, k ≤ c.length ∧ i = .int .i64 k ∧ Hid (Xt w2 wr)) (fun i _ => c.length - (intOf i).toNat)
  case atStart => exact ⟨0, Nat.zero_le _, rfl, Xt.refl _⟩
  case round =>
    obtain ⟨k, hk, rfl, HX⟩ := hrel
    have hz := HX.out.sz
    by_cases hlt : k < c.length
    · obtain ⟨b', off, rfl, hcell⟩ := HC.out (by intro h; simp [h] at hlt)
      obtain ⟨x, hx⟩ : ∃ x, c[k]? = some x := ⟨c[k], by simp [hlt]⟩
      obtain ⟨K, hK⟩ : ∃ K, K = (k + 1) % c.length := ⟨_, rfl⟩
      have hKl : K < c.length := by rw [hK]; exact Nat.mod_lt _ (by omega)
      obtain ⟨y, hy⟩ : ∃ y, c[K]? = some y := ⟨c[K], by simp [hKl]⟩
      obtain ⟨d0, d1⟩ := ad_cells (hcell k x hx)
      obtain ⟨f0, f1⟩ := ad_cells (hcell K y hy)
      have hb' : b' < w.heap.size := World.block_lt_of_cell? w _ d0
      have hb2 : b' < w2.heap.size := Nat.lt_of_lt_of_le hb' HX2.out.sz
      rw [← ((HX2.out.trans HX.out).cells).1 _ _ hb'] at d0 d1 f0 f1
      have z2 : b' < wr.heap.size := by omega
      have e1 : IntKind.i64.wrap ((k : Int) + 1) = (k : Int) + 1 := wrap_succ (by omega)
      have e2 : ((k : Int) + 1).tmod (c.length : Int) = (K : Int) := by rw [hK, Int.tmod_eq_emod_of_nonneg (by omega)]; simp
      have e3 : ((c.length : Int) == 0) = false := by rw [beq_eq_false_iff_ne]; omega
      have e4 : (c.length : Int) ≠ 0 := by omega
      have HXk := Lib.hid hx
      have HYk := Lib.hid hy
      have HKK := Lib.hid hK
      have HCC := Lib.hid hcell
      obtain ⟨wB, hwB, hbB, hsB, b0, b1⟩ := box1 wr y.1 y.2 34
      have HXB : Hid (Xt w2 wB) := HX.out.trans hbB
      have HLB : Hid (Lk wB (bm + 1) bm (fun b => b < w2.heap.size) M) := HLx.out.xt (fun _ h => h) HXB.out
      have HFB : Hid (∀ b, b < w2.heap.size → b < wB.heap.size) := fun b hb => Nat.lt_of_lt_of_le hb HXB.out.sz
      have hXX : Hid (Xt wB wB) := Xt.refl _
      have hXD : Hid (Xt wB wB.drew) := (Xt.refl _).drew
      have hon : onM M x y = true := HCI.out.on k x y hx (by rw [← hK]; exact hy)
      have t1 : hasB ((M.map (·.1)).filter fun a => onM M a y) x = true := decide_eq_true (List.mem_filter.2 ⟨HAL.out x y hon, hon⟩)
      have t2 : hasB (c.drop (k + 1)) x = false := nodup_drop HCI.out.nodup hx
      have T1 := Lib.hid t1
      have T2 := Lib.hid t2
      have d0B := ((Xt.cells hbB).1 _ _ z2).trans d0
      have d1B := ((Xt.cells hbB).1 _ _ z2).trans d1
      obtain ⟨nb, hnb⟩ : ∃ n, wr.heap.size = n := ⟨_, rfl⟩
      rw [hnb] at hsB b0 b1 hz z2
      have HNB := Lib.hid hnb
      clear hcell hx hy hK hb' hon t1 t2 hbB
      go_upto_region 8 with fail
      clear d0 d1 f0 f1
      go_region_held3 (fun w' => w'.cell? ⟨b', off + k * 2, none⟩ = some (.int .i64 x.1) ∧ w'.cell? ⟨b', off + k * 2 + 1, none⟩ = some (.int .i64 x.2) ∧ w'.cell? ⟨nb, 0, none⟩ = some (.int .i64 y.1) ∧ w'.cell? ⟨nb, 1, none⟩ = some (.int .i64 y.2)) (first | exact ⟨by assumption, by assumption, by assumption, by assumption⟩) (first
        | (go_at_call 14; refine (users_keep (w0 := wB) (p := b') (q := off + k * 2) (p' := nb) (q' := 0) y (by assumption) (by assumption) (by assumption) (by assumption) (by assumption) (by assumption) (by assumption)).mono ?_; rintro e w' ⟨v, rfl, g0, g1, g2, g3, HV, KX⟩)
        | (go_at_call 13; refine (has_keep (w0 := wB) (p := b') (q := off + k * 2) (p' := nb) (q' := 0) x T1.out (by assumption) (by assumption) (by assumption) (by assumption) (by assumption) (by assumption)).mono ?_; rintro e w' ⟨rfl, g0, g1, g2, g3, KX⟩))
      have HXW : Hid (Xt w w') := (HX2.out.trans HXB.out).trans KX.out
      have HX2W : Hid (Xt w2 w') := HXB.out.trans KX.out
      have zw' : b' < w'.heap.size := World.block_lt_of_cell? w' _ g0
      clear g2 g3 HV d0B d1B b0 b1 hXX hXD
      go_wp2_with fail
      have e2' : ((k : Int) + 1).toNat = k + 1 := by omega
      have e3' : (0 : Int) ≤ (k : Int) + 1 := by omega
      have e4' : (k : Int) + 1 ≤ (c.length : Int) := by omega
      have HSO : Hid (SlOf w'.drew adC 2 (.slice (some ⟨b', off, none⟩) c.length ca) c) := H1.out.xt HXW.out.drew
      obtain ⟨vd, hvd, hsd⟩ := from_any (T := 23) (E := 34) Try.underlying23 rfl (fun w => by kernel_rfl) HSO.out (k + 1) (by omega)
      rw [show ((k + 1 : Nat) : Int) = (k : Int) + 1 by omega] at hvd
      have HSD := Lib.hid hsd
      clear hsd
      all_goals
        refine wp_region_still_tail 8 (by kernel_rfl) (by kernel_rfl) ?_
        change wpStill _ _ (World.drew _) _ _ _
        simp only [List.take_succ_cons, List.take_zero, List.drop_succ_cons, List.drop_zero]
        iterate 8 still_step
        refine wpStill_nil ?_
        change wpList _ _ _ _ _ (World.drew _)
        refine wpList_step (fun K hK => ?_)
        go_simp
        refine (has_any _ (c.drop (k + 1)) x _ HSD.out).mono ?_
        rintro e wD ⟨rfl, hgD⟩
        rw [T2.out]
        refine hK _ _ ?_
        clear hK K e1 e2 e3 e4 e2' e3' e4' hvd
        have HXD : Hid (Xt w2 wD) := HX2W.out.drew.trans hgD.xt
        clear hgD
        go_wp2_with fail
        go_roundw
        case rel => exact ⟨k + 1, by omega, by go_num, HXD⟩
        case measure => simp [intOf]; omega
    · go_wp2_with fail
      go_ret
      exact ⟨rfl, HX2.out.trans HX.out⟩
end Go.Proofs.Ytagfgkcipomopaa
