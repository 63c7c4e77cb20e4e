import Derived.Test.YtagfgkcipomopaaL14
import Derived.Test.YtagfgkcipomopaaW22
import Derived.Deep.RegionHeld3
import Derived.Deep.DeepCutAuto
namespace Go.Proofs.Ytagfgkcipomopaa
open Go.RowKit Go.Sort

/-! ### Sorted -/
theorem before_keep {w0 w : World} {p q p' q' : Nat} {u0 u1 u2 u3 v0 v1 v2 v3 : Value} (a b : Ad) {t : Bool} (ht : adLt a b = t) (h0 : w.cell? ⟨p, q, none⟩ = some u0) (h1 : w.cell? ⟨p, q + 1, none⟩ = some u1) (h2 : w.cell? ⟨p, q + 2, none⟩ = some u2) (h3 : w.cell? ⟨p, q + 3, none⟩ = some u3)
    (k0 : w.cell? ⟨p', q', none⟩ = some v0) (k1 : w.cell? ⟨p', q' + 1, none⟩ = some v1) (k2 : w.cell? ⟨p', q' + 2, none⟩ = some v2) (k3 : w.cell? ⟨p', q' + 3, none⟩ = some v3) (hx : Hid (Xt w0 w)) :
    Calls Try.prog 69 #[.agg #[.int .i64 a.1, .int .i64 a.2], .agg #[.int .i64 b.1, .int .i64 b.2]] w fun e w' => e = .returned (.bool t) ∧ w'.cell? ⟨p, q, none⟩ = some u0 ∧ w'.cell? ⟨p, q + 1, none⟩ = some u1 ∧ w'.cell? ⟨p, q + 2, none⟩ = some u2 ∧ w'.cell? ⟨p, q + 3, none⟩ = some u3 ∧
      w'.cell? ⟨p', q', none⟩ = some v0 ∧ w'.cell? ⟨p', q' + 1, none⟩ = some v1 ∧ w'.cell? ⟨p', q' + 2, none⟩ = some v2 ∧ w'.cell? ⟨p', q' + 3, none⟩ = some v3 ∧ Hid (Xt w0 w') :=
  (before_any a b w).mono fun e w' ⟨he, hg⟩ => by
    have hp := World.block_lt_of_cell? w _ h0
    have hp' := World.block_lt_of_cell? w _ k0
    have hc := (hg.xt.cells).1
    exact ⟨by rw [he, ht], (hc _ _ hp).trans h0, (hc _ _ hp).trans h1, (hc _ _ hp).trans h2, (hc _ _ hp).trans h3, (hc _ _ hp').trans k0, (hc _ _ hp').trans k1, (hc _ _ hp').trans k2, (hc _ _ hp').trans k3, hx.out.trans hg.xt⟩
def RetA (w : World) (l : List Ar) (e : Ending) (w' : World) : Prop := ∃ v, e = .returned v ∧ OwnL w' w.heap.size 41 4 arC v l ∧ Xt w w'
def zAr : Ar := ((0, 0), (0, 0))
theorem sortD_len (u : List Ar) : (sortD arLt u).length ≤ u.length := by
  rw [sortD_ar]; exact normL_len u
theorem ahead_take {α : Type} {lt : α → α → Bool} {o : List α} {x y : α} {k : Nat} (hy : o[k]? = some y) (h : ∀ z ∈ o.take k, lt z x = true) (hlt : lt y x = true) : ∀ z ∈ o.take (k + 1), lt z x = true := by
  intro z hz
  rw [List.take_add_one, hy] at hz
  rcases List.mem_append.1 hz with h1 | h1
  · exact h z h1
  · simp at h1; rw [h1]; exact hlt
set_option maxRecDepth 100000 in
set_option maxHeartbeats 16000000 in
theorem sorted50_any (v : Value) (u : List Ar) (w : World) (h : SlOf w arC 4 v u) (hb : u.length ≤ 4096) : Calls Try.prog 50 #[v] w (RetA w (normL u)) := by
  obtain ⟨i0, hi, hz0, hz1, hz2⟩ := info_parts info41
  have HV := Lib.hid h
  obtain ⟨sa, cap, rfl, q1, q2, hcc⟩ := h
  have HC := Lib.hid hcc
  clear hcc
  go_enter Try.func50, Try.ntmps50
  go_wp2_with fail
  go_loopw [3, 4] (fun s3 s4 wr => ∃ i : Nat, i ≤ u.length ∧ s4 = .int .i64 i ∧ s3 = .slice (slAt s3) (sortD arLt (u.take i)).length (slCap s3) ∧ Hid (OwnL wr w.heap.size 41 4 arC s3 (sortD arLt (u.take i))) ∧ Hid (Xt w wr)) (fun _ s4 _ => u.length - (intOf s4).toNat)
  case atStart => exact ⟨0, Nat.zero_le _, rfl, rfl, World.ownsRow_nil _ _ _ _, Xt.refl _⟩
  case round =>
    obtain ⟨i, hik, rfl, hv3, HO, HX⟩ := hrel
    generalize slAt u3 = a3 at *
    generalize slCap u3 = c3 at *
    subst hv3
    by_cases hlt : i < u.length
    · obtain ⟨bx, ox, rfl, hcell⟩ := HC.out (by intro h; simp [h] at hlt)
      obtain ⟨x, hx⟩ : ∃ x, u[i]? = some x := ⟨u[i], by simp [hlt]⟩
      obtain ⟨d0, d1, d2, d3⟩ := ar_cells (hcell i x hx)
      have hbx : bx < w.heap.size := World.block_lt_of_cell? w _ d0
      rw [← (HX.out.cells).1 _ _ hbx] at d0 d1 d2 d3
      have HSX : Hid (sortD arLt (u.take (i + 1)) = insD arLt x (sortD arLt (u.take i))) := sortD_take hx
      have hol : (sortD arLt (u.take i)).length ≤ 4096 := Nat.le_trans (sortD_len _) (by rw [List.length_take]; omega)
      generalize sortD arLt (u.take i) = out at *
      clear hcell hx
      go_wp2_with fail
      obtain ⟨wq, hwq⟩ : ∃ wq, wq = wr := ⟨_, rfl⟩
      subst hwq
      go_loopw [5] (fun s5 wr => ∃ k : Nat, k ≤ out.length ∧ s5 = .int .i64 k ∧ Hid (∀ y ∈ out.take k, arLt y x = true) ∧ Hid (Xt wq wr)) (fun s5 _ => out.length - (intOf s5).toNat)
      case atStart => exact ⟨0, Nat.zero_le _, rfl, (by intro y hy; simp at hy), Xt.refl _⟩
      case round =>
        obtain ⟨k, hk, rfl, HK, HXk⟩ := hrel
        have hbq : bx < wq.heap.size := by have := HX.out.sz; omega
        have d0q := d0
        have d1q := d1
        have d2q := d2
        have d3q := d3
        have D : Hid (wq.cell? ⟨bx, ox + i * 4, none⟩ = some (.int .i64 x.1.1) ∧ wq.cell? ⟨bx, ox + i * 4 + 1, none⟩ = some (.int .i64 x.1.2) ∧ wq.cell? ⟨bx, ox + i * 4 + 2, none⟩ = some (.int .i64 x.2.1) ∧ wq.cell? ⟨bx, ox + i * 4 + 3, none⟩ = some (.int .i64 x.2.2)) := ⟨d0, d1, d2, d3⟩
        clear d0q d1q d2q d3q
        rw [← (HXk.out.cells).1 _ _ hbq] at d0 d1 d2 d3
        go_upto_region 6 with fail
        go_cut [54] (fun s54 wx => ∃ b : Bool, s54 = .bool b ∧ Hid (b = true → ∃ y, out[k]? = some y ∧ arLt y x = true) ∧ Hid (b = false → ∀ y, out[k]? = some y → arLt y x = false) ∧ Hid (Xt wq wx))
        case first =>
          by_cases hlt2 : k < out.length
          · obtain ⟨g, cg, hvg, hgb, hgc, hrow⟩ := RowL.of_own (HO.out.xt HXk.out) arC_len (by intro h; simp [h] at hlt2)
            cases hvg
            obtain ⟨y, hy⟩ : ∃ y, out[k]? = some y := ⟨out[k], by simp [hlt2]⟩
            obtain ⟨e0, e1, e2, e3⟩ := ar_cells (hrow.cell hy)
            have HY := Lib.hid hy
            have HXd : Hid (Xt wq wr.drew) := HXk.out.drew
            have hki : (k : Int) < (out.length : Int) := by omega
            clear hrow hy
            cases hb1 : adLt y.1 x.1
            · by_cases he1 : y.1 = x.1
              · have heq : ∀ W, (binOp .eql 34 (.agg #[.int .i64 y.1.1, .int .i64 y.1.2]) (.agg #[.int .i64 x.1.1, .int .i64 x.1.2])).run Try.prog W = .ok (.bool true) W := fun W => by rw [eql34]; simp [he1]
                have HE1 := Lib.hid he1
                have hv : arLt y x = adLt y.2 x.2 := by unfold arLt; rw [hb1, he1]; simp
                have HV1 := Lib.hid hv
                clear he1 hv
                cases hb2 : adLt y.2 x.2
                all_goals
                  go_region_held3 (fun w' => w'.cell? ⟨g, k * 4, none⟩ = some (.int .i64 y.1.1) ∧ w'.cell? ⟨g, k * 4 + 1, none⟩ = some (.int .i64 y.1.2) ∧ w'.cell? ⟨g, k * 4 + 2, none⟩ = some (.int .i64 y.2.1) ∧ w'.cell? ⟨g, k * 4 + 3, none⟩ = some (.int .i64 y.2.2) ∧
                      w'.cell? ⟨bx, ox + i * 4, none⟩ = some (.int .i64 x.1.1) ∧ w'.cell? ⟨bx, ox + i * 4 + 1, none⟩ = some (.int .i64 x.1.2) ∧ w'.cell? ⟨bx, ox + i * 4 + 2, none⟩ = some (.int .i64 x.2.1) ∧ w'.cell? ⟨bx, ox + i * 4 + 3, none⟩ = some (.int .i64 x.2.2))
                    (first | exact ⟨by assumption, by assumption, by assumption, by assumption, by assumption, by assumption, by assumption, by assumption⟩) (first
                    | (go_at_call_of 69 (Value.agg #[.int .i64 y.1.1, .int .i64 y.1.2]); refine (before_keep (w0 := wq) (p := g) (q := k * 4) (p' := bx) (q' := ox + i * 4) y.1 x.1 hb1 (by assumption) (by assumption) (by assumption) (by assumption) (by assumption) (by assumption) (by assumption) (by assumption) (by assumption)).mono ?_; rintro e w' ⟨rfl, f0, f1, f2, f3, f4, f5, f6, f7, KX⟩)
                    | (go_at_call_of 69 (Value.agg #[.int .i64 y.2.1, .int .i64 y.2.2]); refine (before_keep (w0 := wq) (p := g) (q := k * 4) (p' := bx) (q' := ox + i * 4) y.2 x.2 hb2 (by assumption) (by assumption) (by assumption) (by assumption) (by assumption) (by assumption) (by assumption) (by assumption) (by assumption)).mono ?_; rintro e w' ⟨rfl, f0, f1, f2, f3, f4, f5, f6, f7, KX⟩))
                · all_goals (go_wp2_with fail; go_meet; exact ⟨false, rfl, (fun h => by cases h), (fun _ z hz => by rw [HY.out] at hz; cases hz; rw [HV1.out, hb2]), by assumption⟩)
                · all_goals (go_wp2_with fail; go_meet; exact ⟨true, rfl, (fun _ => ⟨y, HY.out, by rw [HV1.out, hb2]⟩), (fun h => by cases h), by assumption⟩)
              · have heq : ∀ W, (binOp .eql 34 (.agg #[.int .i64 y.1.1, .int .i64 y.1.2]) (.agg #[.int .i64 x.1.1, .int .i64 x.1.2])).run Try.prog W = .ok (.bool false) W := fun W => by rw [eql34, decide_eq_false (show ¬ ((y.1.1, y.1.2) = (x.1.1, x.1.2)) from he1)]
                have hv : arLt y x = false := by unfold arLt; rw [hb1]; simp [he1]
                have HV1 := Lib.hid hv
                clear he1 hv
                refine wp_region_held_drew (S := fun w' => w'.cell? ⟨g, k * 4, none⟩ = some (.int .i64 y.1.1) ∧ w'.cell? ⟨g, k * 4 + 1, none⟩ = some (.int .i64 y.1.2) ∧ w'.cell? ⟨g, k * 4 + 2, none⟩ = some (.int .i64 y.2.1) ∧ w'.cell? ⟨g, k * 4 + 3, none⟩ = some (.int .i64 y.2.2) ∧ w'.cell? ⟨bx, ox + i * 4, none⟩ = some (.int .i64 x.1.1) ∧ w'.cell? ⟨bx, ox + i * 4 + 1, none⟩ = some (.int .i64 x.1.2) ∧ w'.cell? ⟨bx, ox + i * 4 + 2, none⟩ = some (.int .i64 x.2.1) ∧ w'.cell? ⟨bx, ox + i * 4 + 3, none⟩ = some (.int .i64 x.2.2)) (by kernel_rfl) (⟨e0, e1, e2, e3, d0, d1, d2, d3⟩) (fun hHeld => ?_)
                refine wpAnyH_take (i := 0) (oi := _) (v := ?_) rfl (by kernel_rfl) (by kernel_rfl) (by kernel_rfl) (fun _ _ _ h => h) (Or.inl ⟨by rfl, ?_⟩) (by assumption) ?_
                rotate_left
                · intro w hSw; (try dsimp only at hSw); go_simp; first | done | with_reducible rfl
                try simp only [Act.put, List.getElem_toArray, List.getElem_cons_zero, List.getElem_cons_succ, List.setIfInBounds_toArray, List.set_cons_zero, List.set_cons_succ]
                refine wpAnyH_take (i := 1) (oi := _) (v := ?_) rfl (by kernel_rfl) (by kernel_rfl) (by kernel_rfl) (fun _ _ _ h => h) (Or.inl ⟨by rfl, ?_⟩) (by assumption) ?_
                rotate_left
                · intro w hSw; (try dsimp only at hSw); go_simp; first | done | with_reducible rfl
                try simp only [Act.put, List.getElem_toArray, List.getElem_cons_zero, List.getElem_cons_succ, List.setIfInBounds_toArray, List.set_cons_zero, List.set_cons_succ]
                refine wpAnyH_take (i := 2) (oi := _) (v := ?_) rfl (by kernel_rfl) (by kernel_rfl) (by kernel_rfl) (fun _ _ _ h => h) (Or.inl ⟨by rfl, ?_⟩) (by assumption) ?_
                rotate_left
                · intro w hSw; (try dsimp only at hSw); go_simp; first | done | with_reducible rfl
                try simp only [Act.put, List.getElem_toArray, List.getElem_cons_zero, List.getElem_cons_succ, List.setIfInBounds_toArray, List.set_cons_zero, List.set_cons_succ]
                refine wpAnyH_take (i := 3) (oi := _) (v := ?_) rfl (by kernel_rfl) (by kernel_rfl) (by kernel_rfl) (fun _ _ _ h => h) (Or.inl ⟨by rfl, ?_⟩) (by assumption) ?_
                rotate_left
                · intro w hSw; (try dsimp only at hSw); go_simp; first | done | with_reducible rfl
                try simp only [Act.put, List.getElem_toArray, List.getElem_cons_zero, List.getElem_cons_succ, List.setIfInBounds_toArray, List.set_cons_zero, List.set_cons_succ]
                refine wpAnyH_take (i := 4) (oi := _) (v := ?_) rfl (by kernel_rfl) (by kernel_rfl) (by kernel_rfl) (fun _ _ _ h => h) (Or.inl ⟨by rfl, ?_⟩) (by assumption) ?_
                rotate_left
                · intro w hSw; (try dsimp only at hSw); go_simp; first | done | with_reducible rfl
                try simp only [Act.put, List.getElem_toArray, List.getElem_cons_zero, List.getElem_cons_succ, List.setIfInBounds_toArray, List.set_cons_zero, List.set_cons_succ]
                refine wpAnyH_take (i := 5) (oi := _) (v := ?_) rfl (by kernel_rfl) (by kernel_rfl) (by kernel_rfl) (fun _ _ _ h => h) (Or.inl ⟨by rfl, ?_⟩) (by assumption) ?_
                rotate_left
                · intro w hSw; (try dsimp only at hSw); go_simp; first | done | with_reducible rfl
                try simp only [Act.put, List.getElem_toArray, List.getElem_cons_zero, List.getElem_cons_succ, List.setIfInBounds_toArray, List.set_cons_zero, List.set_cons_succ]
                refine wpAnyH_take (i := 6) (oi := _) (v := ?_) rfl (by kernel_rfl) (by kernel_rfl) (by kernel_rfl) (fun _ _ _ h => h) (Or.inl ⟨by rfl, ?_⟩) (by assumption) ?_
                rotate_left
                · intro w hSw; (try dsimp only at hSw); go_simp; first | done | with_reducible rfl
                try simp only [Act.put, List.getElem_toArray, List.getElem_cons_zero, List.getElem_cons_succ, List.setIfInBounds_toArray, List.set_cons_zero, List.set_cons_succ]
                refine wpAnyH_take (i := 7) (oi := _) (v := ?_) rfl (by kernel_rfl) (by kernel_rfl) (by kernel_rfl) (fun _ _ _ h => h) (Or.inl ⟨by rfl, ?_⟩) (by assumption) ?_
                rotate_left
                · intro w hSw; (try dsimp only at hSw); go_simp; first | done | with_reducible rfl
                try simp only [Act.put, List.getElem_toArray, List.getElem_cons_zero, List.getElem_cons_succ, List.setIfInBounds_toArray, List.set_cons_zero, List.set_cons_succ]
                refine wpAnyH_take (i := 8) (oi := _) (v := ?_) rfl (by kernel_rfl) (by kernel_rfl) (by kernel_rfl) (fun _ _ _ h => h) (Or.inl ⟨by rfl, ?_⟩) (by assumption) ?_
                rotate_left
                · intro w hSw; (try dsimp only at hSw); go_simp; first | done | with_reducible rfl
                try simp only [Act.put, List.getElem_toArray, List.getElem_cons_zero, List.getElem_cons_succ, List.setIfInBounds_toArray, List.set_cons_zero, List.set_cons_succ]
                refine wpAnyH_take (i := 9) (oi := _) (v := ?_) rfl (by kernel_rfl) (by kernel_rfl) (by kernel_rfl) (fun _ _ _ h => h) (Or.inl ⟨by rfl, ?_⟩) (by assumption) ?_
                rotate_left
                · intro w hSw; (try dsimp only at hSw); go_simp; first | done | with_reducible rfl
                try simp only [Act.put, List.getElem_toArray, List.getElem_cons_zero, List.getElem_cons_succ, List.setIfInBounds_toArray, List.set_cons_zero, List.set_cons_succ]
                refine wpAnyH_take (i := 10) (oi := _) (v := ?_) rfl (by kernel_rfl) (by kernel_rfl) (by kernel_rfl) (fun _ _ _ h => h) (Or.inl ⟨by rfl, ?_⟩) (by assumption) ?_
                rotate_left
                · intro w hSw; (try dsimp only at hSw); go_simp; first | done | with_reducible rfl
                try simp only [Act.put, List.getElem_toArray, List.getElem_cons_zero, List.getElem_cons_succ, List.setIfInBounds_toArray, List.set_cons_zero, List.set_cons_succ]
                refine wpAnyH_take (i := 11) (oi := _) (v := ?_) rfl (by kernel_rfl) (by kernel_rfl) (by kernel_rfl) (fun _ _ _ h => h) (Or.inl ⟨by rfl, ?_⟩) (by assumption) ?_
                rotate_left
                · intro w hSw; (try dsimp only at hSw); go_simp; first | done | with_reducible rfl
                try simp only [Act.put, List.getElem_toArray, List.getElem_cons_zero, List.getElem_cons_succ, List.setIfInBounds_toArray, List.set_cons_zero, List.set_cons_succ]
                refine wpAnyH_take (i := 12) (oi := _) (v := ?_) rfl (by kernel_rfl) (by kernel_rfl) (by kernel_rfl) (fun _ _ _ h => h) (Or.inl ⟨by rfl, ?_⟩) (by assumption) ?_
                rotate_left
                · intro w hSw; (try dsimp only at hSw); go_simp; first | done | with_reducible rfl
                try simp only [Act.put, List.getElem_toArray, List.getElem_cons_zero, List.getElem_cons_succ, List.setIfInBounds_toArray, List.set_cons_zero, List.set_cons_succ]
                refine wpAnyH_take (i := 13) (oi := _) (v := ?_) rfl (by kernel_rfl) (by kernel_rfl) (by kernel_rfl) (fun _ _ _ h => h) (Or.inl ⟨by rfl, ?_⟩) (by assumption) ?_
                rotate_left
                · intro w hSw; (try dsimp only at hSw); go_simp; first | done | with_reducible rfl
                try simp only [Act.put, List.getElem_toArray, List.getElem_cons_zero, List.getElem_cons_succ, List.setIfInBounds_toArray, List.set_cons_zero, List.set_cons_succ]
                refine wpAnyH_take (i := 14) (oi := _) (v := ?_) rfl (by kernel_rfl) (by kernel_rfl) (by kernel_rfl) (fun _ _ _ h => h) (Or.inl ⟨by rfl, ?_⟩) (by assumption) ?_
                rotate_left
                · intro w hSw; (try dsimp only at hSw); go_simp; first | done | with_reducible rfl
                try simp only [Act.put, List.getElem_toArray, List.getElem_cons_zero, List.getElem_cons_succ, List.setIfInBounds_toArray, List.set_cons_zero, List.set_cons_succ]
                refine wpAnyH_ready (rs := [15]) (by kernel_rfl) (by simp) ?_
                refine AllReadyH.cons (o := _) rfl (fun K hK => ?_) AllReadyH.nil
                go_simp
                refine (before_keep (w0 := wq) (w := wr.drew) (p := g) (q := k * 4) (p' := bx) (q' := ox + i * 4) y.1 x.1 hb1 e0 e1 e2 e3 d0 d1 d2 d3 HXd).mono ?_
                rintro e w' ⟨rfl, f0, f1, f2, f3, f4, f5, f6, f7, KX⟩
                refine hK.out _ _ ⟨f0, f1, f2, f3, f4, f5, f6, f7⟩ (fun hHeld2 => ?_)
                clear hK K hHeld e0 e1 e2 e3 d0 d1 d2 d3
                refine wpAnyH_take (i := 16) (oi := _) (v := ?_) rfl (by kernel_rfl) (by kernel_rfl) (by kernel_rfl) (fun _ _ _ h => h) (Or.inl ⟨by rfl, ?_⟩) (by assumption) ?_
                rotate_left
                · intro w hSw; (try dsimp only at hSw); go_simp; first | done | with_reducible rfl
                try simp only [Act.put, List.getElem_toArray, List.getElem_cons_zero, List.getElem_cons_succ, List.setIfInBounds_toArray, List.set_cons_zero, List.set_cons_succ]
                refine wpAnyH_take (i := 17) (oi := _) (v := ?_) rfl (by kernel_rfl) (by kernel_rfl) (by kernel_rfl) (fun _ _ _ h => h) (Or.inl ⟨by rfl, ?_⟩) (by assumption) ?_
                rotate_left
                · intro w hSw; (try dsimp only at hSw); go_simp; first | done | with_reducible rfl
                try simp only [Act.put, List.getElem_toArray, List.getElem_cons_zero, List.getElem_cons_succ, List.setIfInBounds_toArray, List.set_cons_zero, List.set_cons_succ]
                refine wpAnyH_take (i := 18) (oi := _) (v := ?_) rfl (by kernel_rfl) (by kernel_rfl) (by kernel_rfl) (fun _ _ _ h => h) (Or.inl ⟨by rfl, ?_⟩) (by assumption) ?_
                rotate_left
                · intro w hSw; (try dsimp only at hSw); go_simp; first | done | with_reducible rfl
                try simp only [Act.put, List.getElem_toArray, List.getElem_cons_zero, List.getElem_cons_succ, List.setIfInBounds_toArray, List.set_cons_zero, List.set_cons_succ]
                refine wpAnyH_take (i := 19) (oi := _) (v := ?_) rfl (by kernel_rfl) (by kernel_rfl) (by kernel_rfl) (fun _ _ _ h => h) (Or.inl ⟨by rfl, ?_⟩) (by assumption) ?_
                rotate_left
                · intro w hSw; (try dsimp only at hSw); go_simp; first | done | with_reducible rfl
                try simp only [Act.put, List.getElem_toArray, List.getElem_cons_zero, List.getElem_cons_succ, List.setIfInBounds_toArray, List.set_cons_zero, List.set_cons_succ]
                refine wpAnyH_take (i := 20) (oi := _) (v := ?_) rfl (by kernel_rfl) (by kernel_rfl) (by kernel_rfl) (fun _ _ _ h => h) (Or.inl ⟨by rfl, ?_⟩) (by assumption) ?_
                rotate_left
                · intro w hSw; (try dsimp only at hSw); go_simp; first | done | with_reducible rfl
                try simp only [Act.put, List.getElem_toArray, List.getElem_cons_zero, List.getElem_cons_succ, List.setIfInBounds_toArray, List.set_cons_zero, List.set_cons_succ]
                refine wpAnyH_take (i := 21) (oi := _) (v := ?_) rfl (by kernel_rfl) (by kernel_rfl) (by kernel_rfl) (fun _ _ _ h => h) (Or.inl ⟨by rfl, ?_⟩) (by assumption) ?_
                rotate_left
                · intro w hSw; (try dsimp only at hSw); go_simp; first | done | with_reducible rfl
                try simp only [Act.put, List.getElem_toArray, List.getElem_cons_zero, List.getElem_cons_succ, List.setIfInBounds_toArray, List.set_cons_zero, List.set_cons_succ]
                refine wpAnyH_take (i := 22) (oi := _) (v := ?_) rfl (by kernel_rfl) (by kernel_rfl) (by kernel_rfl) (fun _ _ _ h => h) (Or.inl ⟨by rfl, ?_⟩) (by assumption) ?_
                rotate_left
                · intro w hSw; (try dsimp only at hSw); go_simp; first | done | with_reducible rfl
                try simp only [Act.put, List.getElem_toArray, List.getElem_cons_zero, List.getElem_cons_succ, List.setIfInBounds_toArray, List.set_cons_zero, List.set_cons_succ]
                refine wpAnyH_take (i := 23) (oi := _) (v := ?_) rfl (by kernel_rfl) (by kernel_rfl) (by kernel_rfl) (fun _ _ _ h => h) (Or.inl ⟨by rfl, ?_⟩) (by assumption) ?_
                rotate_left
                · intro w hSw; (try dsimp only at hSw); go_simp; first | done | with_reducible rfl
                try simp only [Act.put, List.getElem_toArray, List.getElem_cons_zero, List.getElem_cons_succ, List.setIfInBounds_toArray, List.set_cons_zero, List.set_cons_succ]
                refine wpAnyH_take (i := 24) (oi := _) (v := ?_) rfl (by kernel_rfl) (by kernel_rfl) (by kernel_rfl) (fun _ _ _ h => h) (Or.inl ⟨by rfl, ?_⟩) (by assumption) ?_
                rotate_left
                · intro w hSw; (try dsimp only at hSw); go_simp; first | done | with_reducible rfl
                try simp only [Act.put, List.getElem_toArray, List.getElem_cons_zero, List.getElem_cons_succ, List.setIfInBounds_toArray, List.set_cons_zero, List.set_cons_succ]
                refine wpAnyH_take (i := 25) (oi := _) (v := ?_) rfl (by kernel_rfl) (by kernel_rfl) (by kernel_rfl) (fun _ _ _ h => h) (Or.inl ⟨by rfl, ?_⟩) (by assumption) ?_
                rotate_left
                · intro w hSw; (try dsimp only at hSw); go_simp; first | done | with_reducible rfl
                try simp only [Act.put, List.getElem_toArray, List.getElem_cons_zero, List.getElem_cons_succ, List.setIfInBounds_toArray, List.set_cons_zero, List.set_cons_succ]
                refine wpAnyH_take (i := 26) (oi := _) (v := ?_) rfl (by kernel_rfl) (by kernel_rfl) (by kernel_rfl) (fun _ _ _ h => h) (Or.inl ⟨by rfl, ?_⟩) (by assumption) ?_
                rotate_left
                · intro w hSw; (try dsimp only at hSw); go_simp; first | done | with_reducible rfl
                try simp only [Act.put, List.getElem_toArray, List.getElem_cons_zero, List.getElem_cons_succ, List.setIfInBounds_toArray, List.set_cons_zero, List.set_cons_succ]
                refine wpAnyH_take (i := 27) (oi := _) (v := ?_) rfl (by kernel_rfl) (by kernel_rfl) (by kernel_rfl) (fun _ _ _ h => h) (Or.inl ⟨by rfl, ?_⟩) (by assumption) ?_
                rotate_left
                · intro w hSw; (try dsimp only at hSw); go_simp; first | done | with_reducible rfl
                try simp only [Act.put, List.getElem_toArray, List.getElem_cons_zero, List.getElem_cons_succ, List.setIfInBounds_toArray, List.set_cons_zero, List.set_cons_succ]
                refine wpAnyH_take (i := 28) (oi := _) (v := ?_) rfl (by kernel_rfl) (by kernel_rfl) (by kernel_rfl) (fun _ _ _ h => h) (Or.inl ⟨by rfl, ?_⟩) (by assumption) ?_
                rotate_left
                · intro w hSw; (try dsimp only at hSw); go_simp; first | done | with_reducible rfl
                try simp only [Act.put, List.getElem_toArray, List.getElem_cons_zero, List.getElem_cons_succ, List.setIfInBounds_toArray, List.set_cons_zero, List.set_cons_succ]
                refine wpAnyH_take (i := 29) (oi := _) (v := undef) rfl (by kernel_rfl) (by kernel_rfl) (by kernel_rfl) (fun _ _ _ h => h) (Or.inr ⟨by rfl, rfl⟩) (by assumption) ?_
                try simp only [Act.put, List.getElem_toArray, List.getElem_cons_zero, List.getElem_cons_succ, List.setIfInBounds_toArray, List.set_cons_zero, List.set_cons_succ]
                refine wpAnyH_take (i := 30) (oi := _) (v := undef) rfl (by kernel_rfl) (by kernel_rfl) (by kernel_rfl) (fun _ _ _ h => h) (Or.inr ⟨by rfl, rfl⟩) (by assumption) ?_
                try simp only [Act.put, List.getElem_toArray, List.getElem_cons_zero, List.getElem_cons_succ, List.setIfInBounds_toArray, List.set_cons_zero, List.set_cons_succ]
                refine wpAnyH_take (i := 31) (oi := _) (v := undef) rfl (by kernel_rfl) (by kernel_rfl) (by kernel_rfl) (fun _ _ _ h => h) (Or.inr ⟨by rfl, rfl⟩) (by assumption) ?_
                try simp only [Act.put, List.getElem_toArray, List.getElem_cons_zero, List.getElem_cons_succ, List.setIfInBounds_toArray, List.set_cons_zero, List.set_cons_succ]
                refine wpAnyH_take (i := 32) (oi := _) (v := undef) rfl (by kernel_rfl) (by kernel_rfl) (by kernel_rfl) (fun _ _ _ h => h) (Or.inr ⟨by rfl, rfl⟩) (by assumption) ?_
                try simp only [Act.put, List.getElem_toArray, List.getElem_cons_zero, List.getElem_cons_succ, List.setIfInBounds_toArray, List.set_cons_zero, List.set_cons_succ]
                refine wpAnyH_take (i := 33) (oi := _) (v := undef) rfl (by kernel_rfl) (by kernel_rfl) (by kernel_rfl) (fun _ _ _ h => h) (Or.inr ⟨by rfl, rfl⟩) (by assumption) ?_
                try simp only [Act.put, List.getElem_toArray, List.getElem_cons_zero, List.getElem_cons_succ, List.setIfInBounds_toArray, List.set_cons_zero, List.set_cons_succ]
                refine wpAnyH_take (i := 34) (oi := _) (v := undef) rfl (by kernel_rfl) (by kernel_rfl) (by kernel_rfl) (fun _ _ _ h => h) (Or.inr ⟨by rfl, rfl⟩) (by assumption) ?_
                try simp only [Act.put, List.getElem_toArray, List.getElem_cons_zero, List.getElem_cons_succ, List.setIfInBounds_toArray, List.set_cons_zero, List.set_cons_succ]
                refine wpAnyH_take (i := 35) (oi := _) (v := undef) rfl (by kernel_rfl) (by kernel_rfl) (by kernel_rfl) (fun _ _ _ h => h) (Or.inr ⟨by rfl, rfl⟩) (by assumption) ?_
                try simp only [Act.put, List.getElem_toArray, List.getElem_cons_zero, List.getElem_cons_succ, List.setIfInBounds_toArray, List.set_cons_zero, List.set_cons_succ]
                refine wpAnyH_take (i := 36) (oi := _) (v := undef) rfl (by kernel_rfl) (by kernel_rfl) (by kernel_rfl) (fun _ _ _ h => h) (Or.inr ⟨by rfl, rfl⟩) (by assumption) ?_
                try simp only [Act.put, List.getElem_toArray, List.getElem_cons_zero, List.getElem_cons_succ, List.setIfInBounds_toArray, List.set_cons_zero, List.set_cons_succ]
                refine wpAnyH_take (i := 37) (oi := _) (v := undef) rfl (by kernel_rfl) (by kernel_rfl) (by kernel_rfl) (fun _ _ _ h => h) (Or.inr ⟨by rfl, rfl⟩) (by assumption) ?_
                try simp only [Act.put, List.getElem_toArray, List.getElem_cons_zero, List.getElem_cons_succ, List.setIfInBounds_toArray, List.set_cons_zero, List.set_cons_succ]
                refine wpAnyH_take (i := 38) (oi := _) (v := undef) rfl (by kernel_rfl) (by kernel_rfl) (by kernel_rfl) (fun _ _ _ h => h) (Or.inr ⟨by rfl, rfl⟩) (by assumption) ?_
                try simp only [Act.put, List.getElem_toArray, List.getElem_cons_zero, List.getElem_cons_succ, List.setIfInBounds_toArray, List.set_cons_zero, List.set_cons_succ]
                refine wpAnyH_take (i := 39) (oi := _) (v := undef) rfl (by kernel_rfl) (by kernel_rfl) (by kernel_rfl) (fun _ _ _ h => h) (Or.inr ⟨by rfl, rfl⟩) (by assumption) ?_
                try simp only [Act.put, List.getElem_toArray, List.getElem_cons_zero, List.getElem_cons_succ, List.setIfInBounds_toArray, List.set_cons_zero, List.set_cons_succ]
                refine wpAnyH_take (i := 40) (oi := _) (v := ?_) rfl (by kernel_rfl) (by kernel_rfl) (by kernel_rfl) (fun _ _ _ h => h) (Or.inl ⟨by rfl, ?_⟩) (by assumption) ?_
                rotate_left
                · intro w hSw; (try dsimp only at hSw); go_simp; first | done | with_reducible rfl
                try simp only [Act.put, List.getElem_toArray, List.getElem_cons_zero, List.getElem_cons_succ, List.setIfInBounds_toArray, List.set_cons_zero, List.set_cons_succ]
                refine wpAnyH_take (i := 41) (oi := _) (v := ?_) rfl (by kernel_rfl) (by kernel_rfl) (by kernel_rfl) (fun _ _ _ h => h) (Or.inl ⟨by rfl, ?_⟩) (by assumption) ?_
                rotate_left
                · intro w hSw; (try dsimp only at hSw); go_simp; first | done | with_reducible rfl
                try simp only [Act.put, List.getElem_toArray, List.getElem_cons_zero, List.getElem_cons_succ, List.setIfInBounds_toArray, List.set_cons_zero, List.set_cons_succ]
                refine wpAnyH_take (i := 42) (oi := _) (v := ?_) rfl (by kernel_rfl) (by kernel_rfl) (by kernel_rfl) (fun _ _ _ h => h) (Or.inl ⟨by rfl, ?_⟩) (by assumption) ?_
                rotate_left
                · intro w hSw; (try dsimp only at hSw); go_simp; first | done | with_reducible rfl
                try simp only [Act.put, List.getElem_toArray, List.getElem_cons_zero, List.getElem_cons_succ, List.setIfInBounds_toArray, List.set_cons_zero, List.set_cons_succ]
                refine wpAnyH_done (by kernel_rfl) ?_ _
                all_goals (go_wp2_with fail; go_meet; exact ⟨false, rfl, (fun h => by cases h), (fun _ z hz => by rw [HY.out] at hz; cases hz; exact HV1.out), by assumption⟩)
            · have hv : arLt y x = true := by unfold arLt; rw [hb1]; rfl
              have HV1 := Lib.hid hv
              clear hv
              refine wp_region_held_drew (S := fun w' => w'.cell? ⟨g, k * 4, none⟩ = some (.int .i64 y.1.1) ∧ w'.cell? ⟨g, k * 4 + 1, none⟩ = some (.int .i64 y.1.2) ∧ w'.cell? ⟨g, k * 4 + 2, none⟩ = some (.int .i64 y.2.1) ∧ w'.cell? ⟨g, k * 4 + 3, none⟩ = some (.int .i64 y.2.2) ∧ w'.cell? ⟨bx, ox + i * 4, none⟩ = some (.int .i64 x.1.1) ∧ w'.cell? ⟨bx, ox + i * 4 + 1, none⟩ = some (.int .i64 x.1.2) ∧ w'.cell? ⟨bx, ox + i * 4 + 2, none⟩ = some (.int .i64 x.2.1) ∧ w'.cell? ⟨bx, ox + i * 4 + 3, none⟩ = some (.int .i64 x.2.2)) (by kernel_rfl) (⟨e0, e1, e2, e3, d0, d1, d2, d3⟩) (fun hHeld => ?_)
              refine wpAnyH_take (i := 0) (oi := _) (v := ?_) rfl (by kernel_rfl) (by kernel_rfl) (by kernel_rfl) (fun _ _ _ h => h) (Or.inl ⟨by rfl, ?_⟩) (by assumption) ?_
              rotate_left
              · intro w hSw; (try dsimp only at hSw); go_simp; first | done | with_reducible rfl
              try simp only [Act.put, List.getElem_toArray, List.getElem_cons_zero, List.getElem_cons_succ, List.setIfInBounds_toArray, List.set_cons_zero, List.set_cons_succ]
              refine wpAnyH_take (i := 1) (oi := _) (v := ?_) rfl (by kernel_rfl) (by kernel_rfl) (by kernel_rfl) (fun _ _ _ h => h) (Or.inl ⟨by rfl, ?_⟩) (by assumption) ?_
              rotate_left
              · intro w hSw; (try dsimp only at hSw); go_simp; first | done | with_reducible rfl
              try simp only [Act.put, List.getElem_toArray, List.getElem_cons_zero, List.getElem_cons_succ, List.setIfInBounds_toArray, List.set_cons_zero, List.set_cons_succ]
              refine wpAnyH_take (i := 2) (oi := _) (v := ?_) rfl (by kernel_rfl) (by kernel_rfl) (by kernel_rfl) (fun _ _ _ h => h) (Or.inl ⟨by rfl, ?_⟩) (by assumption) ?_
              rotate_left
              · intro w hSw; (try dsimp only at hSw); go_simp; first | done | with_reducible rfl
              try simp only [Act.put, List.getElem_toArray, List.getElem_cons_zero, List.getElem_cons_succ, List.setIfInBounds_toArray, List.set_cons_zero, List.set_cons_succ]
              refine wpAnyH_take (i := 3) (oi := _) (v := ?_) rfl (by kernel_rfl) (by kernel_rfl) (by kernel_rfl) (fun _ _ _ h => h) (Or.inl ⟨by rfl, ?_⟩) (by assumption) ?_
              rotate_left
              · intro w hSw; (try dsimp only at hSw); go_simp; first | done | with_reducible rfl
              try simp only [Act.put, List.getElem_toArray, List.getElem_cons_zero, List.getElem_cons_succ, List.setIfInBounds_toArray, List.set_cons_zero, List.set_cons_succ]
              refine wpAnyH_take (i := 4) (oi := _) (v := ?_) rfl (by kernel_rfl) (by kernel_rfl) (by kernel_rfl) (fun _ _ _ h => h) (Or.inl ⟨by rfl, ?_⟩) (by assumption) ?_
              rotate_left
              · intro w hSw; (try dsimp only at hSw); go_simp; first | done | with_reducible rfl
              try simp only [Act.put, List.getElem_toArray, List.getElem_cons_zero, List.getElem_cons_succ, List.setIfInBounds_toArray, List.set_cons_zero, List.set_cons_succ]
              refine wpAnyH_take (i := 5) (oi := _) (v := ?_) rfl (by kernel_rfl) (by kernel_rfl) (by kernel_rfl) (fun _ _ _ h => h) (Or.inl ⟨by rfl, ?_⟩) (by assumption) ?_
              rotate_left
              · intro w hSw; (try dsimp only at hSw); go_simp; first | done | with_reducible rfl
              try simp only [Act.put, List.getElem_toArray, List.getElem_cons_zero, List.getElem_cons_succ, List.setIfInBounds_toArray, List.set_cons_zero, List.set_cons_succ]
              refine wpAnyH_take (i := 6) (oi := _) (v := ?_) rfl (by kernel_rfl) (by kernel_rfl) (by kernel_rfl) (fun _ _ _ h => h) (Or.inl ⟨by rfl, ?_⟩) (by assumption) ?_
              rotate_left
              · intro w hSw; (try dsimp only at hSw); go_simp; first | done | with_reducible rfl
              try simp only [Act.put, List.getElem_toArray, List.getElem_cons_zero, List.getElem_cons_succ, List.setIfInBounds_toArray, List.set_cons_zero, List.set_cons_succ]
              refine wpAnyH_take (i := 7) (oi := _) (v := ?_) rfl (by kernel_rfl) (by kernel_rfl) (by kernel_rfl) (fun _ _ _ h => h) (Or.inl ⟨by rfl, ?_⟩) (by assumption) ?_
              rotate_left
              · intro w hSw; (try dsimp only at hSw); go_simp; first | done | with_reducible rfl
              try simp only [Act.put, List.getElem_toArray, List.getElem_cons_zero, List.getElem_cons_succ, List.setIfInBounds_toArray, List.set_cons_zero, List.set_cons_succ]
              refine wpAnyH_take (i := 8) (oi := _) (v := ?_) rfl (by kernel_rfl) (by kernel_rfl) (by kernel_rfl) (fun _ _ _ h => h) (Or.inl ⟨by rfl, ?_⟩) (by assumption) ?_
              rotate_left
              · intro w hSw; (try dsimp only at hSw); go_simp; first | done | with_reducible rfl
              try simp only [Act.put, List.getElem_toArray, List.getElem_cons_zero, List.getElem_cons_succ, List.setIfInBounds_toArray, List.set_cons_zero, List.set_cons_succ]
              refine wpAnyH_take (i := 9) (oi := _) (v := ?_) rfl (by kernel_rfl) (by kernel_rfl) (by kernel_rfl) (fun _ _ _ h => h) (Or.inl ⟨by rfl, ?_⟩) (by assumption) ?_
              rotate_left
              · intro w hSw; (try dsimp only at hSw); go_simp; first | done | with_reducible rfl
              try simp only [Act.put, List.getElem_toArray, List.getElem_cons_zero, List.getElem_cons_succ, List.setIfInBounds_toArray, List.set_cons_zero, List.set_cons_succ]
              refine wpAnyH_take (i := 10) (oi := _) (v := ?_) rfl (by kernel_rfl) (by kernel_rfl) (by kernel_rfl) (fun _ _ _ h => h) (Or.inl ⟨by rfl, ?_⟩) (by assumption) ?_
              rotate_left
              · intro w hSw; (try dsimp only at hSw); go_simp; first | done | with_reducible rfl
              try simp only [Act.put, List.getElem_toArray, List.getElem_cons_zero, List.getElem_cons_succ, List.setIfInBounds_toArray, List.set_cons_zero, List.set_cons_succ]
              refine wpAnyH_take (i := 11) (oi := _) (v := ?_) rfl (by kernel_rfl) (by kernel_rfl) (by kernel_rfl) (fun _ _ _ h => h) (Or.inl ⟨by rfl, ?_⟩) (by assumption) ?_
              rotate_left
              · intro w hSw; (try dsimp only at hSw); go_simp; first | done | with_reducible rfl
              try simp only [Act.put, List.getElem_toArray, List.getElem_cons_zero, List.getElem_cons_succ, List.setIfInBounds_toArray, List.set_cons_zero, List.set_cons_succ]
              refine wpAnyH_take (i := 12) (oi := _) (v := ?_) rfl (by kernel_rfl) (by kernel_rfl) (by kernel_rfl) (fun _ _ _ h => h) (Or.inl ⟨by rfl, ?_⟩) (by assumption) ?_
              rotate_left
              · intro w hSw; (try dsimp only at hSw); go_simp; first | done | with_reducible rfl
              try simp only [Act.put, List.getElem_toArray, List.getElem_cons_zero, List.getElem_cons_succ, List.setIfInBounds_toArray, List.set_cons_zero, List.set_cons_succ]
              refine wpAnyH_take (i := 13) (oi := _) (v := ?_) rfl (by kernel_rfl) (by kernel_rfl) (by kernel_rfl) (fun _ _ _ h => h) (Or.inl ⟨by rfl, ?_⟩) (by assumption) ?_
              rotate_left
              · intro w hSw; (try dsimp only at hSw); go_simp; first | done | with_reducible rfl
              try simp only [Act.put, List.getElem_toArray, List.getElem_cons_zero, List.getElem_cons_succ, List.setIfInBounds_toArray, List.set_cons_zero, List.set_cons_succ]
              refine wpAnyH_take (i := 14) (oi := _) (v := ?_) rfl (by kernel_rfl) (by kernel_rfl) (by kernel_rfl) (fun _ _ _ h => h) (Or.inl ⟨by rfl, ?_⟩) (by assumption) ?_
              rotate_left
              · intro w hSw; (try dsimp only at hSw); go_simp; first | done | with_reducible rfl
              try simp only [Act.put, List.getElem_toArray, List.getElem_cons_zero, List.getElem_cons_succ, List.setIfInBounds_toArray, List.set_cons_zero, List.set_cons_succ]
              refine wpAnyH_ready (rs := [15]) (by kernel_rfl) (by simp) ?_
              refine AllReadyH.cons (o := _) rfl (fun K hK => ?_) AllReadyH.nil
              go_simp
              refine (before_keep (w0 := wq) (w := wr.drew) (p := g) (q := k * 4) (p' := bx) (q' := ox + i * 4) y.1 x.1 hb1 e0 e1 e2 e3 d0 d1 d2 d3 HXd).mono ?_
              rintro e w' ⟨rfl, f0, f1, f2, f3, f4, f5, f6, f7, KX⟩
              refine hK.out _ _ ⟨f0, f1, f2, f3, f4, f5, f6, f7⟩ (fun hHeld2 => ?_)
              clear hK K hHeld e0 e1 e2 e3 d0 d1 d2 d3
              refine wpAnyH_take (i := 16) (oi := _) (v := ?_) rfl (by kernel_rfl) (by kernel_rfl) (by kernel_rfl) (fun _ _ _ h => h) (Or.inl ⟨by rfl, ?_⟩) (by assumption) ?_
              rotate_left
              · intro w hSw; (try dsimp only at hSw); go_simp; first | done | with_reducible rfl
              try simp only [Act.put, List.getElem_toArray, List.getElem_cons_zero, List.getElem_cons_succ, List.setIfInBounds_toArray, List.set_cons_zero, List.set_cons_succ]
              refine wpAnyH_take (i := 17) (oi := _) (v := undef) rfl (by kernel_rfl) (by kernel_rfl) (by kernel_rfl) (fun _ _ _ h => h) (Or.inr ⟨by rfl, rfl⟩) (by assumption) ?_
              try simp only [Act.put, List.getElem_toArray, List.getElem_cons_zero, List.getElem_cons_succ, List.setIfInBounds_toArray, List.set_cons_zero, List.set_cons_succ]
              refine wpAnyH_take (i := 18) (oi := _) (v := undef) rfl (by kernel_rfl) (by kernel_rfl) (by kernel_rfl) (fun _ _ _ h => h) (Or.inr ⟨by rfl, rfl⟩) (by assumption) ?_
              try simp only [Act.put, List.getElem_toArray, List.getElem_cons_zero, List.getElem_cons_succ, List.setIfInBounds_toArray, List.set_cons_zero, List.set_cons_succ]
              refine wpAnyH_take (i := 19) (oi := _) (v := undef) rfl (by kernel_rfl) (by kernel_rfl) (by kernel_rfl) (fun _ _ _ h => h) (Or.inr ⟨by rfl, rfl⟩) (by assumption) ?_
              try simp only [Act.put, List.getElem_toArray, List.getElem_cons_zero, List.getElem_cons_succ, List.setIfInBounds_toArray, List.set_cons_zero, List.set_cons_succ]
              refine wpAnyH_take (i := 20) (oi := _) (v := undef) rfl (by kernel_rfl) (by kernel_rfl) (by kernel_rfl) (fun _ _ _ h => h) (Or.inr ⟨by rfl, rfl⟩) (by assumption) ?_
              try simp only [Act.put, List.getElem_toArray, List.getElem_cons_zero, List.getElem_cons_succ, List.setIfInBounds_toArray, List.set_cons_zero, List.set_cons_succ]
              refine wpAnyH_take (i := 21) (oi := _) (v := undef) rfl (by kernel_rfl) (by kernel_rfl) (by kernel_rfl) (fun _ _ _ h => h) (Or.inr ⟨by rfl, rfl⟩) (by assumption) ?_
              try simp only [Act.put, List.getElem_toArray, List.getElem_cons_zero, List.getElem_cons_succ, List.setIfInBounds_toArray, List.set_cons_zero, List.set_cons_succ]
              refine wpAnyH_take (i := 22) (oi := _) (v := undef) rfl (by kernel_rfl) (by kernel_rfl) (by kernel_rfl) (fun _ _ _ h => h) (Or.inr ⟨by rfl, rfl⟩) (by assumption) ?_
              try simp only [Act.put, List.getElem_toArray, List.getElem_cons_zero, List.getElem_cons_succ, List.setIfInBounds_toArray, List.set_cons_zero, List.set_cons_succ]
              refine wpAnyH_take (i := 23) (oi := _) (v := undef) rfl (by kernel_rfl) (by kernel_rfl) (by kernel_rfl) (fun _ _ _ h => h) (Or.inr ⟨by rfl, rfl⟩) (by assumption) ?_
              try simp only [Act.put, List.getElem_toArray, List.getElem_cons_zero, List.getElem_cons_succ, List.setIfInBounds_toArray, List.set_cons_zero, List.set_cons_succ]
              refine wpAnyH_take (i := 24) (oi := _) (v := undef) rfl (by kernel_rfl) (by kernel_rfl) (by kernel_rfl) (fun _ _ _ h => h) (Or.inr ⟨by rfl, rfl⟩) (by assumption) ?_
              try simp only [Act.put, List.getElem_toArray, List.getElem_cons_zero, List.getElem_cons_succ, List.setIfInBounds_toArray, List.set_cons_zero, List.set_cons_succ]
              refine wpAnyH_take (i := 25) (oi := _) (v := undef) rfl (by kernel_rfl) (by kernel_rfl) (by kernel_rfl) (fun _ _ _ h => h) (Or.inr ⟨by rfl, rfl⟩) (by assumption) ?_
              try simp only [Act.put, List.getElem_toArray, List.getElem_cons_zero, List.getElem_cons_succ, List.setIfInBounds_toArray, List.set_cons_zero, List.set_cons_succ]
              refine wpAnyH_take (i := 26) (oi := _) (v := undef) rfl (by kernel_rfl) (by kernel_rfl) (by kernel_rfl) (fun _ _ _ h => h) (Or.inr ⟨by rfl, rfl⟩) (by assumption) ?_
              try simp only [Act.put, List.getElem_toArray, List.getElem_cons_zero, List.getElem_cons_succ, List.setIfInBounds_toArray, List.set_cons_zero, List.set_cons_succ]
              refine wpAnyH_take (i := 27) (oi := _) (v := undef) rfl (by kernel_rfl) (by kernel_rfl) (by kernel_rfl) (fun _ _ _ h => h) (Or.inr ⟨by rfl, rfl⟩) (by assumption) ?_
              try simp only [Act.put, List.getElem_toArray, List.getElem_cons_zero, List.getElem_cons_succ, List.setIfInBounds_toArray, List.set_cons_zero, List.set_cons_succ]
              refine wpAnyH_take (i := 28) (oi := _) (v := undef) rfl (by kernel_rfl) (by kernel_rfl) (by kernel_rfl) (fun _ _ _ h => h) (Or.inr ⟨by rfl, rfl⟩) (by assumption) ?_
              try simp only [Act.put, List.getElem_toArray, List.getElem_cons_zero, List.getElem_cons_succ, List.setIfInBounds_toArray, List.set_cons_zero, List.set_cons_succ]
              refine wpAnyH_take (i := 29) (oi := _) (v := undef) rfl (by kernel_rfl) (by kernel_rfl) (by kernel_rfl) (fun _ _ _ h => h) (Or.inr ⟨by rfl, rfl⟩) (by assumption) ?_
              try simp only [Act.put, List.getElem_toArray, List.getElem_cons_zero, List.getElem_cons_succ, List.setIfInBounds_toArray, List.set_cons_zero, List.set_cons_succ]
              refine wpAnyH_take (i := 30) (oi := _) (v := undef) rfl (by kernel_rfl) (by kernel_rfl) (by kernel_rfl) (fun _ _ _ h => h) (Or.inr ⟨by rfl, rfl⟩) (by assumption) ?_
              try simp only [Act.put, List.getElem_toArray, List.getElem_cons_zero, List.getElem_cons_succ, List.setIfInBounds_toArray, List.set_cons_zero, List.set_cons_succ]
              refine wpAnyH_take (i := 31) (oi := _) (v := undef) rfl (by kernel_rfl) (by kernel_rfl) (by kernel_rfl) (fun _ _ _ h => h) (Or.inr ⟨by rfl, rfl⟩) (by assumption) ?_
              try simp only [Act.put, List.getElem_toArray, List.getElem_cons_zero, List.getElem_cons_succ, List.setIfInBounds_toArray, List.set_cons_zero, List.set_cons_succ]
              refine wpAnyH_take (i := 32) (oi := _) (v := undef) rfl (by kernel_rfl) (by kernel_rfl) (by kernel_rfl) (fun _ _ _ h => h) (Or.inr ⟨by rfl, rfl⟩) (by assumption) ?_
              try simp only [Act.put, List.getElem_toArray, List.getElem_cons_zero, List.getElem_cons_succ, List.setIfInBounds_toArray, List.set_cons_zero, List.set_cons_succ]
              refine wpAnyH_take (i := 33) (oi := _) (v := undef) rfl (by kernel_rfl) (by kernel_rfl) (by kernel_rfl) (fun _ _ _ h => h) (Or.inr ⟨by rfl, rfl⟩) (by assumption) ?_
              try simp only [Act.put, List.getElem_toArray, List.getElem_cons_zero, List.getElem_cons_succ, List.setIfInBounds_toArray, List.set_cons_zero, List.set_cons_succ]
              refine wpAnyH_take (i := 34) (oi := _) (v := undef) rfl (by kernel_rfl) (by kernel_rfl) (by kernel_rfl) (fun _ _ _ h => h) (Or.inr ⟨by rfl, rfl⟩) (by assumption) ?_
              try simp only [Act.put, List.getElem_toArray, List.getElem_cons_zero, List.getElem_cons_succ, List.setIfInBounds_toArray, List.set_cons_zero, List.set_cons_succ]
              refine wpAnyH_take (i := 35) (oi := _) (v := undef) rfl (by kernel_rfl) (by kernel_rfl) (by kernel_rfl) (fun _ _ _ h => h) (Or.inr ⟨by rfl, rfl⟩) (by assumption) ?_
              try simp only [Act.put, List.getElem_toArray, List.getElem_cons_zero, List.getElem_cons_succ, List.setIfInBounds_toArray, List.set_cons_zero, List.set_cons_succ]
              refine wpAnyH_take (i := 36) (oi := _) (v := undef) rfl (by kernel_rfl) (by kernel_rfl) (by kernel_rfl) (fun _ _ _ h => h) (Or.inr ⟨by rfl, rfl⟩) (by assumption) ?_
              try simp only [Act.put, List.getElem_toArray, List.getElem_cons_zero, List.getElem_cons_succ, List.setIfInBounds_toArray, List.set_cons_zero, List.set_cons_succ]
              refine wpAnyH_take (i := 37) (oi := _) (v := undef) rfl (by kernel_rfl) (by kernel_rfl) (by kernel_rfl) (fun _ _ _ h => h) (Or.inr ⟨by rfl, rfl⟩) (by assumption) ?_
              try simp only [Act.put, List.getElem_toArray, List.getElem_cons_zero, List.getElem_cons_succ, List.setIfInBounds_toArray, List.set_cons_zero, List.set_cons_succ]
              refine wpAnyH_take (i := 38) (oi := _) (v := undef) rfl (by kernel_rfl) (by kernel_rfl) (by kernel_rfl) (fun _ _ _ h => h) (Or.inr ⟨by rfl, rfl⟩) (by assumption) ?_
              try simp only [Act.put, List.getElem_toArray, List.getElem_cons_zero, List.getElem_cons_succ, List.setIfInBounds_toArray, List.set_cons_zero, List.set_cons_succ]
              refine wpAnyH_take (i := 39) (oi := _) (v := undef) rfl (by kernel_rfl) (by kernel_rfl) (by kernel_rfl) (fun _ _ _ h => h) (Or.inr ⟨by rfl, rfl⟩) (by assumption) ?_
              try simp only [Act.put, List.getElem_toArray, List.getElem_cons_zero, List.getElem_cons_succ, List.setIfInBounds_toArray, List.set_cons_zero, List.set_cons_succ]
              refine wpAnyH_take (i := 40) (oi := _) (v := undef) rfl (by kernel_rfl) (by kernel_rfl) (by kernel_rfl) (fun _ _ _ h => h) (Or.inr ⟨by rfl, rfl⟩) (by assumption) ?_
              try simp only [Act.put, List.getElem_toArray, List.getElem_cons_zero, List.getElem_cons_succ, List.setIfInBounds_toArray, List.set_cons_zero, List.set_cons_succ]
              refine wpAnyH_take (i := 41) (oi := _) (v := ?_) rfl (by kernel_rfl) (by kernel_rfl) (by kernel_rfl) (fun _ _ _ h => h) (Or.inl ⟨by rfl, ?_⟩) (by assumption) ?_
              rotate_left
              · intro w hSw; (try dsimp only at hSw); go_simp; first | done | with_reducible rfl
              try simp only [Act.put, List.getElem_toArray, List.getElem_cons_zero, List.getElem_cons_succ, List.setIfInBounds_toArray, List.set_cons_zero, List.set_cons_succ]
              refine wpAnyH_take (i := 42) (oi := _) (v := ?_) rfl (by kernel_rfl) (by kernel_rfl) (by kernel_rfl) (fun _ _ _ h => h) (Or.inl ⟨by rfl, ?_⟩) (by assumption) ?_
              rotate_left
              · intro w hSw; (try dsimp only at hSw); go_simp; first | done | with_reducible rfl
              try simp only [Act.put, List.getElem_toArray, List.getElem_cons_zero, List.getElem_cons_succ, List.setIfInBounds_toArray, List.set_cons_zero, List.set_cons_succ]
              refine wpAnyH_done (by kernel_rfl) ?_ _
              all_goals (go_wp2_with fail; go_meet; exact ⟨true, rfl, (fun _ => ⟨y, HY.out, HV1.out⟩), (fun h => by cases h), by assumption⟩)
          · have hki : decide ((k : Int) < (out.length : Int)) = false := by simp; omega
            go_quiet (fail)
            go_wp2_with fail
            go_meet
            exact ⟨false, rfl, (fun h => by cases h), (fun _ z hz => by have := (List.getElem?_eq_some_iff.1 hz).1; omega), HXk.out.trans (Gr.xt ((Gr.refl _).drewN _))⟩
        case rest =>
          obtain ⟨b, rfl, HT, HF, HXc⟩ := hcut
          obtain ⟨g0, g1, g2, g3⟩ := D.out
          rw [← (HXc.out.cells).1 _ _ hbq] at g0 g1 g2 g3
          clear d0 d1 d2 d3
          cases b
          · -- the place is found
            have HB : Hid (∀ y, out[k]? = some y → arLt y x = false) := HF.out rfl
            go_upto_region 8 with fail
            go_cut [71] (fun s71 wx => ∃ b : Bool, s71 = .bool b ∧ Hid (b = true → out[k]? = some x) ∧ Hid (b = false → out[k]? ≠ some x) ∧ Hid (Xt wq wx))
            case first =>
              by_cases hlt2 : k < out.length
              · obtain ⟨g, cg, hvg, hgb, hgc, hrow⟩ := RowL.of_own (HO.out.xt HXc.out) arC_len (by intro h; simp [h] at hlt2)
                cases hvg
                obtain ⟨y, hy⟩ : ∃ y, out[k]? = some y := ⟨out[k], by simp [hlt2]⟩
                obtain ⟨e0, e1, e2, e3⟩ := ar_cells (hrow.cell hy)
                have HY := Lib.hid hy
                have hki : (k : Int) < (out.length : Int) := by omega
                clear hrow hy
                by_cases hxy : y = x
                · have heq : ∀ W, (binOp .eql 41 (.agg #[.int .i64 y.1.1, .int .i64 y.1.2, .int .i64 y.2.1, .int .i64 y.2.2]) (.agg #[.int .i64 x.1.1, .int .i64 x.1.2, .int .i64 x.2.1, .int .i64 x.2.2])).run Try.prog W = .ok (.bool true) W := fun W => by rw [eql41]; simp [hxy]
                  have HE := Lib.hid hxy
                  clear hxy
                  go_quiet (fail)
                  go_wp2_with fail
                  go_meet
                  exact ⟨true, rfl, (fun _ => by rw [HY.out, HE.out]), (fun h => by cases h), HXc.out.trans (Gr.xt ((Gr.refl _).drewN _))⟩
                · have heq : ∀ W, (binOp .eql 41 (.agg #[.int .i64 y.1.1, .int .i64 y.1.2, .int .i64 y.2.1, .int .i64 y.2.2]) (.agg #[.int .i64 x.1.1, .int .i64 x.1.2, .int .i64 x.2.1, .int .i64 x.2.2])).run Try.prog W = .ok (.bool false) W := fun W => by rw [eql41, decide_eq_false (show ¬ (((y.1.1, y.1.2), (y.2.1, y.2.2)) = ((x.1.1, x.1.2), (x.2.1, x.2.2))) from hxy)]
                  have HE := Lib.hid hxy
                  clear hxy
                  go_quiet (fail)
                  go_wp2_with fail
                  go_meet
                  exact ⟨false, rfl, (fun h => by cases h), (fun _ e => by rw [HY.out] at e; cases e; exact HE.out rfl), HXc.out.trans (Gr.xt ((Gr.refl _).drewN _))⟩
              · have hki : decide ((k : Int) < (out.length : Int)) = false := by simp; omega
                go_quiet (fail)
                go_wp2_with fail
                go_meet
                exact ⟨false, rfl, (fun h => by cases h), (fun _ e => by have := (List.getElem?_eq_some_iff.1 e).1; omega), HXc.out.trans (Gr.xt ((Gr.refl _).drewN _))⟩
            case rest =>
              obtain ⟨b, rfl, HT8, HF8, HX8⟩ := hcut
              obtain ⟨g0, g1, g2, g3⟩ := D.out
              rw [← (HX8.out.cells).1 _ _ hbq] at g0 g1 g2 g3
              cases b
              · -- it goes in
                have hno : ∀ y, out[k]? = some y → arLt y x = false ∧ y ≠ x := fun y hy => ⟨HB.out y hy, fun e => HF8.out rfl (by rw [hy, e])⟩
                have hins : insD arLt x out = out.take k ++ x :: out.drop k := insD_at HK.out hk hno
                have HIN := Lib.hid hins
                have hown : wc.ownsRow w.heap.size 41 4 (.slice a3 out.length c3) out.length (out.flatMap arC) := HO.out.xt HX8.out
                have HOWN : Hid (OwnL wc w.heap.size 41 4 arC (.slice a3 out.length c3) out) := hown
                have hbc : bx < wc.heap.size := by have := HX8.out.sz; omega
                have hwb : w.heap.size ≤ wc.heap.size := by have := HX8.out.sz; have := HX.out.sz; omega
                clear hno hins
                go_wp2_with (at_builtin; refine wpList_append_own _ rfl _ _ 42 rfl w.heap.size 41 i0 (.agg #[.int .i64 0, .int .i64 0, .int .i64 0, .int .i64 0]) 4 32 Try.underlying42 hi hz0 hz1 hz2 rfl (by decide) _ _ _ rfl (hown.alloc _) ⟨wc.heap.size, 0, none⟩ 1 1 [.int .i64 0, .int .i64 0, .int .i64 0, .int .i64 0] rfl rfl (news_at _ [.int .i64 0, .int .i64 0, .int .i64 0, .int .i64 0] 41 (by simp)) (arC_one ((0, 0), (0, 0))) ?c4 ?c5 ?c6 ?_)
                case c4 => unfold maxLen; omega
                case c5 => omega
                case c6 => first | omega | (simp; omega)
                intro v1 w1 hown1 hg1 _
                have hg1' : wc.grownBy w1 (Value.slice a3 out.length c3).ownBlock := (World.grownBy_alloc wc _ _).trans hg1
                have HO1 : Hid (OwnL w1 w.heap.size 41 4 arC v1 (out ++ [zAr])) := OwnL.snoc hown1
                have HX1 : Hid (Xt w w1) := Below.grown (HX.out.trans HX8.out) hg1' hwb (fun q hq => (World.ownsRow.lt hown q hq).1)
                have hc1 : ∀ o, w1.cell? ⟨bx, o, none⟩ = wc.cell? ⟨bx, o, none⟩ := fun o => World.cell?_of_block (w := wc) (a := ⟨bx, o, none⟩) (hg1'.block bx hbc (fun e => by have := (World.ownsRow.lt hown bx e.symm).1; omega))
                have hs1 := hg1'.size
                obtain ⟨g, cg, hvg, hgb, hgc, hrow⟩ := RowL.of_own HO1.out arC_len (by simp)
                rw [List.length_append] at hvg
                simp only [List.length_cons, List.length_nil, Nat.zero_add] at hvg
                have hcg : cg ≤ 9223372036854775807 := by unfold maxLen at hgc; omega
                have hrd : RowL w1.drew g 41 cg 4 arC (out ++ [zAr]) := hrow
                obtain ⟨vd, vs, w2, hsh⟩ := shift_run (T := 42) (n := out.length) (k := k) Try.underlying42 rfl (fun w => by kernel_rfl) hi hz1 (by omega) arC_len (fun x => arC_one x) hrd (by simp) hk hcg
                have sd := hsh.hd
                have ss := hsh.hs
                have sr := hsh.run
                have HSH := Lib.hid hsh
                rw [← hc1] at g0 g1 g2 g3
                have hgx : g ≠ bx := by omega
                have hb1 : bx < w1.heap.size := by omega
                have hg2 : w1.drew.grownBy w2 (some g) := hsh.row.out.2
                have hc2 : ∀ o, w2.cell? ⟨bx, o, none⟩ = w1.cell? ⟨bx, o, none⟩ := fun o => World.cell?_of_block (w := w1) (a := ⟨bx, o, none⟩) (hg2.block bx hb1 (fun e => by cases e; exact hgx rfl))
                subst hvg
                have e1 : IntKind.i64.wrap ((k : Int) + 1) = (k : Int) + 1 := wrap_succ (by omega)
                have HC2 := Lib.hid hc2
                have HG1 := Lib.hid hg1'
                clear hown1 hg1 hg1' hc1 hrow hrd hsh hown hc2 hg2
                go_wp2_with fail
                refine wp_region_still_tail 7 (by kernel_rfl) (by kernel_rfl) ?_
                change wpStill _ _ (World.drew _) _ _ _
                simp only [List.take_succ_cons, List.take_zero, List.drop_succ_cons, List.drop_zero]
                iterate 7 still_step
                refine wpStill_nil ?_
                change wpList _ _ _ _ _ (World.drew _)
                refine wpList_step (fun K hK => ?_)
                go_simp
                refine hK _ _ ?_
                clear hK K sd ss sr e1
                have hL2 : ((out ++ [zAr]).take (k + 1) ++ ((out ++ [zAr]).drop k).take (out.length - k)).length = out.length + 1 := by
                  rw [List.length_append, List.length_take, List.length_take, List.length_drop, List.length_append]; simp; omega
                have HSL : Hid (((out ++ [zAr]).take (k + 1) ++ ((out ++ [zAr]).drop k).take (out.length - k)).set k x = out.take k ++ x :: out.drop k) := shift_list rfl hk
                have hR2 := HSH.out.row.out.1
                have HGR2 : Hid (w1.drew.grownBy w2 (some g)) := HSH.out.row.out.2
                generalize (out ++ [zAr]).take (k + 1) ++ ((out ++ [zAr]).drop k).take (out.length - k) = L2 at *
                obtain ⟨z, hz⟩ : ∃ z, L2[k]? = some z := ⟨L2[k]'(by omega), by simp⟩
                obtain ⟨z0, z1, z2, z3⟩ := ar_cells (hR2.cell hz)
                have f0 := hR2.froz (k * 4)
                have f1 := hR2.froz (k * 4 + 1)
                have f2 := hR2.froz (k * 4 + 2)
                have f3 := hR2.froz (k * 4 + 3)
                rw [← HC2.out] at g0 g1 g2 g3
                have HR2 := Lib.hid hR2
                have hkn1 : k < out.length + 1 := by omega
                have HL2 := Lib.hid hL2
                clear hR2 hz hL2
                go_wp2_with fail
                go_roundw
                case rel =>
                  have hll : (sortD arLt (u.take (i + 1))).length = out.length + 1 := by
                    rw [HSX.out, HIN.out, List.length_append, List.length_cons, List.length_take, List.length_drop]; omega
                  refine ⟨i + 1, by omega, by go_num, by rw [hll]; rfl, ?_, ?_⟩
                  · have hRs := HR2.out.set arC_len (j := k) (by rw [HL2.out]; exact hkn1) x
                    rw [HSL.out] at hRs
                    have := hRs.own arC_len hgc hgb (out.length + 1) (by rw [List.length_append, List.length_cons, List.length_take, List.length_drop]; omega)
                    rw [List.take_of_length_le (by rw [List.length_append, List.length_cons, List.length_take, List.length_drop]; omega)] at this
                    rw [HSX.out, HIN.out]
                    exact this
                  · exact Xt.grownBy (Xt.grownBy HX1.out.drew HGR2.out hgb) (setCells_grown g (arC x) (k * 4) w2) hgb
                case measure => simp [intOf]; omega
              · go_wp2_with fail
                go_roundw
                case rel =>
                  have hins := insD_in arLt_irrefl HK.out (HT8.out rfl)
                  refine ⟨i + 1, by omega, by go_num, by rw [HSX.out, hins]; rfl, ?_, HX.out.trans HX8.out⟩
                  rw [HSX.out, hins]
                  exact HO.out.xt HX8.out
                case measure => simp [intOf]; omega
          · -- the next place
            obtain ⟨y, hy, hlt3⟩ := HT.out rfl
            have hk1 : k < out.length := (List.getElem?_eq_some_iff.1 hy).1
            have HK1 : Hid (∀ z ∈ out.take (k + 1), arLt z x = true) := ahead_take hy HK.out hlt3
            clear hy hlt3
            go_wp2_with fail
            go_roundw
            case rel => exact ⟨k + 1, by omega, by go_num, HK1, HXc.out⟩
            case measure => simp [intOf]; omega
    · have hil : i = u.length := by omega
      subst hil
      go_wp2_with fail
      go_ret
      refine ⟨.slice a3 (sortD arLt (u.take u.length)).length c3, rfl, ?_, HX.out⟩
      have := HO.out
      rw [← sortD_ar u]
      rw [List.take_length] at this ⊢
      exact this
end Go.Proofs.Ytagfgkcipomopaa
