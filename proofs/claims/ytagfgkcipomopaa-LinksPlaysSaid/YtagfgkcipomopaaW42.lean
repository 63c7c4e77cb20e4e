import Derived.Test.YtagfgkcipomopaaL21
import Derived.Deep.DeepCutAuto
namespace Go.Proofs.Ytagfgkcipomopaa
open Go.RowKit Go.Sort

/-! ### the document's Ready -/
theorem before_lf {w0 w : World} {p q p' q' : Nat} {u0 u1 v0 v1 : Value} (a b : Ad) {t : Bool} (ht : adLt a b = t) (h0 : w.cell? ⟨p, q, none⟩ = some u0) (h1 : w.cell? ⟨p, q + 1, none⟩ = some u1)
    (k0 : w.cell? ⟨p', q', none⟩ = some v0) (k1 : w.cell? ⟨p', q' + 1, none⟩ = some v1) (hx : Hid (Xt w0 w)) :
    Calls Try.prog 69 #[.agg #[.int .i64 a.1, .int .i64 a.2], .agg #[.int .i64 b.1, .int .i64 b.2]] w fun e w' => e = .returned (.bool t) ∧ w'.cell? ⟨p, q, none⟩ = some u0 ∧ w'.cell? ⟨p, q + 1, none⟩ = some u1 ∧
      w'.cell? ⟨p', q', none⟩ = some v0 ∧ w'.cell? ⟨p', q' + 1, none⟩ = some v1 ∧ Hid (Xt w0 w') :=
  (before_any a b w).mono fun e w' ⟨he, hg⟩ => by
    have hp := World.block_lt_of_cell? w _ h0
    have hp' := World.block_lt_of_cell? w _ k0
    have hc := (hg.xt.cells).1
    exact ⟨by rw [he, ht], (hc _ _ hp).trans h0, (hc _ _ hp).trans h1, (hc _ _ hp').trans k0, (hc _ _ hp').trans k1, hx.out.trans hg.xt⟩
theorem sub11 {a b : Nat} : a + 1 - (b + 1) = a - b := by omega
set_option maxRecDepth 100000 in
set_option maxHeartbeats 16000000 in
theorem rready62_any (px : Nat) (vx v u : Value) (M : Mp) (l : List Ad) (picks : List Int) (w : World) (hp : w.cell? ⟨px, 0, none⟩ = some vx) (hR : RulesOf w vx M) (hs : SortedM M) (hv : VM M) (hm : M.length ≤ 4096) (hl : SlOf w adC 2 v l) (hu : SlOf w inC 1 u picks) :
    Calls Try.prog 62 #[.pointer (some ⟨px, 0, none⟩), v, u] w (ReadyR w (readyS M l picks)) := by
  obtain ⟨i0, hi, hz0, hz1, hz2⟩ := info_parts info49
  obtain ⟨j0, hj, hy0, hy1, hy2⟩ := info_parts info3
  obtain ⟨k9, hk, hx0, hx1, hx2⟩ := info_parts info34
  have HP := Lib.hid hp
  have HR := Lib.hid hR
  have HS := Lib.hid hs
  have HV := Lib.hid hv
  obtain ⟨sa, cap, rfl, q1, q2, hcc⟩ := hl
  have HC := Lib.hid hcc
  obtain ⟨su, cu, rfl, p1, p2, hpc⟩ := hu
  have HPC := Lib.hid hpc
  clear hcc hpc hp hR hs hv
  go_enter Try.func62, Try.ntmps62
  go_wp2_with fail
  go_loopw [9] (fun s9 wr => ∃ i : Nat, i ≤ l.length ∧ s9 = .int .i64 i ∧ Hid ((l.take i).all (fun a => validB a.1 a.2) = true) ∧ Hid (Xt w wr)) (fun s9 _ => l.length - (intOf s9).toNat)
  case atStart => exact ⟨0, Nat.zero_le _, rfl, (by unfold Hid; simp), Xt.refl _⟩
  case round =>
    obtain ⟨i, hik, rfl, HA, HX⟩ := hrel
    by_cases hlt : i < l.length
    · obtain ⟨bx, ox, rfl, hcell⟩ := HC.out (by intro h; simp [h] at hlt)
      obtain ⟨x, hx⟩ : ∃ x, l[i]? = some x := ⟨l[i], by simp [hlt]⟩
      obtain ⟨d0, d1⟩ := ad_cells (hcell i x hx)
      have hbx : bx < w.heap.size := World.block_lt_of_cell? w _ d0
      rw [← (HX.out.cells).1 _ _ hbx] at d0 d1
      have hii : (i : Int) < (l.length : Int) := by omega
      have HXi := Lib.hid hx
      clear hcell hx
      cases hvx : validB x.1 x.2
      all_goals
        go_wp2_with fail
        refine (rvalid_any x.1 x.2 _).mono ?_
        rintro e w2 ⟨rfl, hg2⟩
        rw [hvx]
        have HX2 : Hid (Xt w w2) := HX.out.trans hg2.xt
        clear hg2 d0 d1
        go_wp2_with fail
      · go_ret2
        have : readyS M l picks = (20, []) := by
          unfold readyS
          rw [if_pos (all_no (f := fun a => validB a.1 a.2) HXi.out hvx)]
        rw [this]
        exact ⟨_, rfl, World.ownsRow_nil _ _ _ _, HX2.out⟩
      · go_roundw
        case rel => exact ⟨i + 1, by omega, by go_num, all_at HXi.out HA.out hvx, HX2.out⟩
        case measure => simp [intOf]; omega
    · have hil : i = l.length := by omega
      subst hil
      have HALL : Hid ((l.all fun a => validB a.1 a.2) = true) := by
        have := HA.out
        rw [List.take_length] at this
        exact this
      clear HA
      go_wp2_with fail
      go_loopw [8, 11] (fun s8 s11 wr => ∃ i : Nat, i ≤ l.length ∧ s11 = .int .i64 i ∧ s8 = .slice (slAt s8) (sortD adLt (l.take i)).length (slCap s8) ∧ Hid (∃ R, LfIs w wr M s8 (sortD adLt (l.take i)) R) ∧ Hid (Xt w wr)) (fun _ s11 _ => l.length - (intOf s11).toNat)
      case atStart => exact ⟨0, Nat.zero_le _, rfl, rfl, ⟨[], rfl, (fun r hr => by cases hr), World.ownsRow_nil _ _ _ _⟩, HX⟩
      case round =>
        clear HX
        obtain ⟨i, hik, rfl, hv8, HO, HX⟩ := hrel
        generalize slAt u8 = a8 at *
        generalize slCap u8 = c8 at *
        subst hv8
        by_cases hlt : i < l.length
        · obtain ⟨bx, ox, rfl, hcell⟩ := HC.out (by intro h; simp [h] at hlt)
          obtain ⟨x, hx⟩ : ∃ x, l[i]? = some x := ⟨l[i], by simp [hlt]⟩
          obtain ⟨d0, d1⟩ := ad_cells (hcell i x hx)
          have hbx : bx < w.heap.size := World.block_lt_of_cell? w _ d0
          have D0 : Hid (w.cell? ⟨bx, ox + i * 2, none⟩ = some (.int .i64 x.1) ∧ w.cell? ⟨bx, ox + i * 2 + 1, none⟩ = some (.int .i64 x.2)) := ⟨d0, d1⟩
          have hii : (i : Int) < (l.length : Int) := by omega
          have HSX : Hid (sortD adLt (l.take (i + 1)) = insD adLt x (sortD adLt (l.take i))) := sortD_take hx
          have hol : (sortD adLt (l.take i)).length ≤ 1048576 := sortD_few HALL.out i
          obtain ⟨R, HLF0⟩ := HO.out
          have HLF := Lib.hid HLF0
          generalize sortD adLt (l.take i) = A at *
          have hRA := HLF.out.len
          clear hcell hx HO HLF0 d0 d1
          go_wp2_with fail
          obtain ⟨wq, hwq⟩ : ∃ wq, wq = wr := ⟨_, rfl⟩
          subst hwq
          go_loopw [12] (fun s12 wr => ∃ k : Nat, k ≤ A.length ∧ s12 = .int .i64 k ∧ Hid (∀ y ∈ A.take k, adLt y x = true) ∧ Hid (Xt wq wr)) (fun s12 _ => A.length - (intOf s12).toNat)
          case atStart => exact ⟨0, Nat.zero_le _, rfl, (by intro y hy; simp at hy), Xt.refl _⟩
          case round =>
            obtain ⟨k, hk', rfl, HK, HXk⟩ := hrel
            have hbq : bx < wq.heap.size := by have := HX.out.sz; omega
            have hxw : Xt w wr := HX.out.trans HXk.out
            obtain ⟨d0, d1⟩ := D0.out
            rw [← (hxw.cells).1 _ _ hbx] at d0 d1
            clear hxw
            go_upto_region 12 with fail
            go_cut [56] (fun s56 wx => ∃ b : Bool, s56 = .bool b ∧ Hid (b = true → ∃ y, A[k]? = some y ∧ adLt y x = true) ∧ Hid (b = false → ∀ y, A[k]? = some y → adLt y x = false) ∧ Hid (Xt wq wx))
            case first =>
              by_cases hlt2 : k < A.length
              · obtain ⟨g, cg, hvg, hgb, hgc, hrow⟩ := RowL.of_own (HLF.out.own.xt HXk.out) rlC_len (by intro h; simp [h] at hRA; omega)
                rw [hRA] at hvg
                cases hvg
                obtain ⟨r, hr⟩ : ∃ r, R[k]? = some r := ⟨R[k]'(by omega), by simp⟩
                have hy := HLF.out.at hr
                have e0 := hrow.cell hr 0 _ rfl
                have e1 := hrow.cell hr 1 _ rfl
                try simp only [Nat.add_zero] at e0
                have HY := Lib.hid hy
                have HXd : Hid (Xt wq wr.drew) := HXk.out.drew
                have hki : (k : Int) < (A.length : Int) := by omega
                clear hrow hy hr
                cases hb1 : adLt r.1 x
                all_goals
                  go_region_held3 (fun w' => w'.cell? ⟨g, k * 3, none⟩ = some (.int .i64 r.1.1) ∧ w'.cell? ⟨g, k * 3 + 1, none⟩ = some (.int .i64 r.1.2) ∧ w'.cell? ⟨bx, ox + i * 2, none⟩ = some (.int .i64 x.1) ∧ w'.cell? ⟨bx, ox + i * 2 + 1, none⟩ = some (.int .i64 x.2))
                    (first | exact ⟨by assumption, by assumption, by assumption, by assumption⟩)
                    (first | (go_at_call 69; refine (before_lf (w0 := wq) (p := g) (q := k * 3) (p' := bx) (q' := ox + i * 2) r.1 x hb1 (by assumption) (by assumption) (by assumption) (by assumption) (by assumption)).mono ?_; rintro e w' ⟨rfl, f0, f1, f2, f3, KX⟩))
                · all_goals (go_wp2_with fail; go_meet; exact ⟨false, rfl, (fun h => by cases h), (fun _ z hz => by rw [HY.out] at hz; cases hz; exact hb1), by assumption⟩)
                · all_goals (go_wp2_with fail; go_meet; exact ⟨true, rfl, (fun _ => ⟨r.1, HY.out, hb1⟩), (fun h => by cases h), by assumption⟩)
              · have hki : decide ((k : Int) < (A.length : Int)) = false := by simp; omega
                go_quiet (fail)
                go_wp2_with fail
                go_meet
                exact ⟨false, rfl, (fun h => by cases h), (fun _ z hz => by have := (List.getElem?_eq_some_iff.1 hz).1; omega), HXk.out.trans (Gr.xt ((Gr.refl _).drewN _))⟩
            case rest =>
              obtain ⟨b, rfl, HT, HF, HXc⟩ := hcut
              have hxc : Xt w wc := HX.out.trans HXc.out
              have hbc0 : bx < wc.heap.size := by have := hxc.sz; omega
              clear d0 d1
              cases b
              · have HB : Hid (∀ y, A[k]? = some y → adLt y x = false) := HF.out rfl
                obtain ⟨d0, d1⟩ := D0.out
                rw [← (hxc.cells).1 _ _ hbx] at d0 d1
                go_upto_region 14 with fail
                go_cut [74] (fun s74 wx => ∃ b : Bool, s74 = .bool b ∧ Hid (b = true → A[k]? = some x) ∧ Hid (b = false → A[k]? ≠ some x) ∧ Hid (Xt wq wx))
                case first =>
                  by_cases hlt2 : k < A.length
                  · obtain ⟨g, cg, hvg, hgb, hgc, hrow⟩ := RowL.of_own (HLF.out.own.xt HXc.out) rlC_len (by intro h; simp [h] at hRA; omega)
                    rw [hRA] at hvg
                    cases hvg
                    obtain ⟨r, hr⟩ : ∃ r, R[k]? = some r := ⟨R[k]'(by omega), by simp⟩
                    have hy := HLF.out.at hr
                    have e0 := hrow.cell hr 0 _ rfl
                    have e1 := hrow.cell hr 1 _ rfl
                    try simp only [Nat.add_zero] at e0
                    have HY := Lib.hid hy
                    have hki : (k : Int) < (A.length : Int) := by omega
                    clear hrow hy hr
                    by_cases hxy : r.1 = x
                    · have heq : ∀ W, (binOp .eql 34 (.agg #[.int .i64 r.1.1, .int .i64 r.1.2]) (.agg #[.int .i64 x.1, .int .i64 x.2])).run Try.prog W = .ok (.bool true) W := fun W => by rw [eql34]; simp [hxy]
                      have HE := Lib.hid hxy
                      clear hxy
                      go_quiet (fail)
                      go_wp2_with fail
                      go_meet
                      exact ⟨true, rfl, (fun _ => by rw [HY.out, HE.out]), (fun h => by cases h), HXc.out.trans (Gr.xt ((Gr.refl _).drewN _))⟩
                    · have heq : ∀ W, (binOp .eql 34 (.agg #[.int .i64 r.1.1, .int .i64 r.1.2]) (.agg #[.int .i64 x.1, .int .i64 x.2])).run Try.prog W = .ok (.bool false) W := fun W => by rw [eql34, decide_eq_false (show ¬ ((r.1.1, r.1.2) = (x.1, x.2)) from hxy)]
                      have HE := Lib.hid hxy
                      clear hxy
                      go_quiet (fail)
                      go_wp2_with fail
                      go_meet
                      exact ⟨false, rfl, (fun h => by cases h), (fun _ e => by rw [HY.out] at e; cases e; exact HE.out rfl), HXc.out.trans (Gr.xt ((Gr.refl _).drewN _))⟩
                  · have hki : decide ((k : Int) < (A.length : Int)) = false := by simp; omega
                    go_quiet (fail)
                    go_wp2_with fail
                    go_meet
                    exact ⟨false, rfl, (fun h => by cases h), (fun _ e => by have := (List.getElem?_eq_some_iff.1 e).1; omega), HXc.out.trans (Gr.xt ((Gr.refl _).drewN _))⟩
                case rest =>
                  obtain ⟨b, rfl, HT8, HF8, HX8⟩ := hcut
                  clear d0 d1 hxc hbc0 HXc
                  have hxc : Xt w wc := HX.out.trans HX8.out
                  have hbc : bx < wc.heap.size := by have := hxc.sz; omega
                  obtain ⟨d0, d1⟩ := D0.out
                  rw [← (hxc.cells).1 _ _ hbx] at d0 d1
                  cases b
                  · -- it goes in
                    have hno : ∀ y, A[k]? = some y → adLt y x = false ∧ y ≠ x := fun y hy => ⟨HB.out y hy, fun e => HF8.out rfl (by rw [hy, e])⟩
                    have hins : insD adLt x A = A.take k ++ x :: A.drop k := insD_at HK.out hk' hno
                    have HIN := Lib.hid hins
                    have hown : wc.ownsRow w.heap.size 49 3 (.slice a8 A.length c8) R.length (R.flatMap rlC) := HLF.out.own.xt HX8.out
                    rw [hRA] at hown
                    have hwb : w.heap.size ≤ wc.heap.size := hxc.sz
                    have HXC := Lib.hid hxc
                    clear hno hins hxc
                    go_wp2_with (at_builtin; refine wpList_append_own _ rfl _ _ 22 rfl w.heap.size 49 i0 (.agg #[.int .i64 0, .int .i64 0, .slice none 0 0]) 3 40 Try.underlying22 hi hz0 hz1 hz2 rfl (by decide) _ _ _ rfl (hown.alloc _) ⟨wc.heap.size, 0, none⟩ 1 1 [.int .i64 0, .int .i64 0, .slice none 0 0] rfl rfl (news_at _ [.int .i64 0, .int .i64 0, .slice none 0 0] 49 (by simp)) (rlC_one ((0, 0), (none, 0, 0))) ?c4 ?c5 ?c6 ?_)
                    case c4 => unfold maxLen; omega
                    case c5 => omega
                    case c6 => first | omega | (simp; omega)
                    intro v1 w1 hown1 hg1 _
                    have hg1' : wc.grownBy w1 (Value.slice a8 A.length c8).ownBlock := (World.grownBy_alloc wc _ _).trans hg1
                    have HO1 : Hid (OwnL w1 w.heap.size 49 3 rlC v1 (R ++ [((0, 0), (none, 0, 0))])) := OwnL.snoc (by rw [hRA]; exact hown1)
                    have HX1 : Hid (Xt w w1) := Below.grown HXC.out hg1' hwb (fun q hq => (World.ownsRow.lt hown q hq).1)
                    have hc1 : ∀ o, w1.cell? ⟨bx, o, none⟩ = wc.cell? ⟨bx, o, none⟩ := fun o => World.cell?_of_block (w := wc) (a := ⟨bx, o, none⟩) (hg1'.block bx hbc (fun e => by have := (World.ownsRow.lt hown bx e.symm).1; omega))
                    have hs1 := hg1'.size
                    obtain ⟨g, cg, hvg, hgb, hgc, hrow⟩ := RowL.of_own HO1.out rlC_len (by simp)
                    rw [List.length_append, hRA] at hvg
                    simp only [List.length_cons, List.length_nil, Nat.zero_add] at hvg
                    have hcg : cg ≤ 9223372036854775807 := by unfold maxLen at hgc; omega
                    have hrd : RowL w1.drew g 49 cg 3 rlC (R ++ [((0, 0), (none, 0, 0))]) := hrow
                    obtain ⟨vd, vs, w2, hsh⟩ := shift_run (T := 22) (n := A.length) (k := k) Try.underlying22 rfl (fun w => by kernel_rfl) hi hz1 (by omega) rlC_len (fun x => rlC_one x) hrd (by simp [hRA]) hk' hcg
                    have sd := hsh.hd
                    have ss := hsh.hs
                    have sr := hsh.run
                    have HSH := Lib.hid hsh
                    rw [← hc1] at d0 d1
                    have hgx : g ≠ bx := by omega
                    have hb1 : bx < w1.heap.size := by omega
                    have hg2 : w1.drew.grownBy w2 (some g) := hsh.row.out.2
                    have hc2 : ∀ o, w2.cell? ⟨bx, o, none⟩ = w1.cell? ⟨bx, o, none⟩ := fun o => World.cell?_of_block (w := w1) (a := ⟨bx, o, none⟩) (hg2.block bx hb1 (fun e => by cases e; exact hgx rfl))
                    subst hvg
                    have e1 : IntKind.i64.wrap ((k : Int) + 1) = (k : Int) + 1 := wrap_succ (by omega)
                    have HC2 := Lib.hid hc2
                    have HX2 : Hid (Xt w w2) := Xt.grownBy HX1.out.drew hg2 hgb
                    have HRA := Lib.hid hRA
                    clear hown1 hg1 hg1' hc1 hrow hrd hsh hown hc2 hg2
                    go_wp2_with fail
                    refine wp_region_still_tail 7 (by kernel_rfl) (by kernel_rfl) ?_
                    change wpStill _ _ (World.drew _) _ _ _
                    simp only [List.take_succ_cons, List.take_zero, List.drop_succ_cons, List.drop_zero]
                    iterate 7 still_step
                    refine wpStill_nil ?_
                    change wpList _ _ _ _ _ (World.drew _)
                    refine wpList_step (fun K hK => ?_)
                    go_simp
                    refine hK _ _ ?_
                    clear hK K sd ss sr e1
                    have hL2 : ((R ++ [((0, 0), (none, 0, 0))]).take (k + 1) ++ ((R ++ [((0, 0), (none, 0, 0))]).drop k).take (A.length - k) : List (Ad × SV)).length = A.length + 1 := by
                      rw [List.length_append, List.length_take, List.length_take, List.length_drop, List.length_append, HRA.out]; simp; omega
                    have HSL : Hid (∀ r : Ad × SV, ((R ++ [((0, 0), (none, 0, 0))]).take (k + 1) ++ ((R ++ [((0, 0), (none, 0, 0))]).drop k).take (A.length - k) : List (Ad × SV)).set k r = R.take k ++ r :: R.drop k) := fun r => shift_list HRA.out hk'
                    have hR2 := HSH.out.row.out.1
                    generalize (R ++ [((0, 0), (none, 0, 0))]).take (k + 1) ++ ((R ++ [((0, 0), (none, 0, 0))]).drop k).take (A.length - k) = L2 at *
                    obtain ⟨z, hz⟩ : ∃ z, L2[k]? = some z := ⟨L2[k]'(by omega), by simp⟩
                    rw [← HC2.out] at d0 d1
                    have hus := uses_for HP.out HR.out HS.out hm HX2.out hR2 hz d0 d1
                    have HUS := Lib.hid hus
                    have HR2 := Lib.hid hR2
                    have hkn1 : k < A.length + 1 := by omega
                    have hki1 : (k : Int) < (A.length : Int) + 1 := by omega
                    have HL2 := Lib.hid hL2
                    have hii2 : (i : Int) < (l.length : Int) := by omega
                    clear hR2 hz hL2 hus
                    go_wp2_with fail
                    go_region_with (go_at_call 56; refine (HUS.out).mono ?_; rintro e w4 ⟨s, rfl, k0, k1, k2, k3, k4, f0, f1, f2, HH⟩)
                    all_goals
                      go_wp2_with fail
                      go_roundw
                      case rel =>
                        have hll : (sortD adLt (l.take (i + 1))).length = A.length + 1 := by
                          rw [HSX.out, HIN.out, List.length_append, List.length_cons, List.length_take, List.length_drop]; omega
                        obtain ⟨hx4, hsl4⟩ := HH.out
                        have hz4 := hx4.sz
                        have hrow4 : RowL w4 g 49 cg 3 rlC L2 := HR2.out.of_heap (RowKit.Below.block hx4 g (World.block_lt_of_cell? w2 _ (HR2.out.cell (List.getElem?_eq_getElem (show k < L2.length by rw [HL2.out]; exact hkn1)) 0 _ rfl)))
                        have hRs := hrow4.set rlC_len (j := k) (by rw [HL2.out]; exact hkn1) (x, s)
                        rw [HSL.out] at hRs
                        have hlen : (R.take k ++ (x, s) :: R.drop k).length = A.length + 1 := by
                          rw [List.length_append, List.length_cons, List.length_take, List.length_drop, HRA.out]; omega
                        have ho := hRs.own rlC_len hgc hgb (A.length + 1) (by rw [hlen]; exact Nat.le_refl _)
                        rw [List.take_of_length_le (by rw [hlen]; exact Nat.le_refl _)] at ho
                        refine ⟨i + 1, by omega, by go_num, by rw [hll]; rfl, ⟨R.take k ++ (x, s) :: R.drop k, ?_, HLF.out.each.ins k hsl4, ho⟩, ?_⟩
                        · rw [HSX.out, HIN.out, keys_ins, HLF.out.keys]
                        · exact (HX2.out.trans hx4).grownBy (setCells_grown g (rlC (x, s)) (k * 3) w4) hgb
                      case measure => simp [intOf]; omega
                  · have HXC := Lib.hid hxc
                    clear hxc d0 d1
                    go_wp2_with fail
                    go_roundw
                    case rel =>
                      have hins := insD_in adLt_irrefl HK.out (HT8.out rfl)
                      refine ⟨i + 1, by omega, by go_num, by rw [HSX.out, hins]; rfl, ⟨R, ?_⟩, HXC.out⟩
                      rw [HSX.out, hins]
                      exact HLF.out.xt HX8.out
                    case measure => simp [intOf]; omega
              · -- the next place
                obtain ⟨y, hy, hlt3⟩ := HT.out rfl
                have hk1 : k < A.length := (List.getElem?_eq_some_iff.1 hy).1
                have HK1 : Hid (∀ z ∈ A.take (k + 1), adLt z x = true) := ahead_take hy HK.out hlt3
                clear hy hlt3 hxc
                go_wp2_with fail
                go_roundw
                case rel => exact ⟨k + 1, by omega, by go_num, HK1, HXc.out⟩
                case measure => simp [intOf]; omega
        · have hil : i = l.length := by omega
          subst hil
          have hSA : sortD adLt (l.take l.length) = setA l := by rw [List.take_length, sortD_ad]
          have hSf := setA_few HALL.out
          rw [hSA] at HO ⊢
          have HRS : Hid (∀ o, readyGo M picks (setA l).length (setA l) [] = some o → readyS M l picks = (0, o)) := fun o h => readyS_ok HALL.out h
          have HRN : Hid (readyGo M picks (setA l).length (setA l) [] = none → readyS M l picks = (40, [])) := fun h => readyS_no HALL.out h
          clear hSA hlt hik
          generalize setA l = S at *
          obtain ⟨R0, hR0⟩ := HO.out
          have HL0 := Lib.hid hR0
          clear hR0 HO
          go_wp2_with fail
          go_loopw [8, 13] (fun s8 s13 wr => ∃ (A out : List Ad) (R : List (Ad × SV)), s8 = .slice (slAt s8) A.length (slCap s8) ∧ s13 = .slice (slAt s13) out.length (slCap s13) ∧ Hid (LfIs w wr M s8 A R) ∧ Hid (OwnL wr w.heap.size 34 2 adC s13 out) ∧ Hid (∀ g, s13.ownBlock = some g → s8.ownBlock ≠ some g) ∧ Hid (readyGo M picks A.length A out = readyGo M picks S.length S []) ∧ Hid (A.length + out.length = S.length) ∧ Hid (Xt w wr)) (fun s8 _ _ => slLen s8)
          case atStart => exact ⟨S, [], R0, rfl, rfl, HL0, World.ownsRow_nil _ _ _ _, (fun g h => by cases h), rfl, (by unfold Hid; simp), HX⟩
          case round =>
            clear HX HL0
            obtain ⟨A, out, R, hv8, hv13, HLF, HOO, HDJ, HGO, HMANY, HX⟩ := hrel
            generalize slAt u8 = a8 at *
            generalize slCap u8 = c8 at *
            generalize slAt u13 = ao at *
            generalize slCap u13 = co at *
            subst hv8 hv13
            have hRA := HLF.out.len
            by_cases hne : A = []
            · subst hne
              go_wp2_with fail
              go_ret2
              have hgo := HGO.out
              have hS : readyS M l picks = (0, out) := HRS.out out (by rw [← hgo]; simp [readyGo])
              rw [hS]
              exact ⟨_, rfl, HOO.out, HX.out⟩
            · obtain ⟨n1, hn1⟩ : ∃ n1, A.length = n1 + 1 := ⟨A.length - 1, by have := List.length_pos_iff.2 hne; omega⟩
              obtain ⟨g, cg, hvg, hgb, hgc, hrow⟩ := RowL.of_own HLF.out.own rlC_len (by intro e; rw [e] at hRA; simp at hRA; omega)
              rw [hRA] at hvg
              have hgq : g < wr.heap.size := by obtain ⟨cur, hgc, _⟩ := hrow; exact (Array.getElem?_eq_some_iff.1 hgc).1
              have hcgR : R.length ≤ cg := by obtain ⟨_, _, _, q, _⟩ := hrow; exact q
              cases hvg
              have HROW := Lib.hid hrow
              have HN1 := Lib.hid hn1
              have hmany : n1 + 1 + out.length ≤ 1048576 := by have := HMANY.out; omega
              have hRn : R.length = n1 + 1 := by omega
              rw [hn1]
              clear hn1 hrow
              go_wp2_with fail
              obtain ⟨wq, hwq⟩ : ∃ wq, wq = wr := ⟨_, rfl⟩
              subst hwq
              go_loopw [14, 15] (fun s14 s15 wr' => ∃ j : Nat, j ≤ n1 + 1 ∧ s15 = .int .i64 j ∧ Hid (OwnL wr' wq.heap.size 3 1 inC s14 (mayL (freeM M A) (A.take j) 0)) ∧ Hid (Xt wq wr')) (fun _ s15 _ => n1 + 1 - (intOf s15).toNat)
              case atStart => exact ⟨0, Nat.zero_le _, rfl, World.ownsRow_nil _ _ _ _, Xt.refl _⟩
              case round =>
                obtain ⟨j, hj', rfl, HO5, HX5⟩ := hrel
                by_cases hlt5 : j < n1 + 1
                · obtain ⟨r, hr⟩ : ∃ r, R[j]? = some r := ⟨R[j]'(by omega), by simp⟩
                  have hxr := HLF.out.at hr
                  have HXR := Lib.hid hxr
                  have hmt := mayL_take (f := freeM M A) hxr
                  have HMT := Lib.hid hmt
                  have hml := mayL_len (freeM M A) (A.take j) 0
                  have hml2 : (mayL (freeM M A) (A.take j) 0).length ≤ 1048576 := by rw [List.length_take] at hml; omega
                  have HRj : Hid (R[j]? = some r) := hr
                  have hji : (j : Int) < (n1 : Int) + 1 := by omega
                  clear hr hxr hmt hml
                  go_wp2_with fail
                  obtain ⟨w6, hw6⟩ : ∃ w6, w6 = wr := ⟨_, rfl⟩
                  subst hw6
                  go_loopw [16, 17] (fun s16 s17 wr' => ∃ (k : Nat) (f : Bool), k ≤ n1 + 1 ∧ s17 = .int .i64 k ∧ s16 = .bool f ∧ Hid (f = (A.take k).all fun b => !onM M r.1 b) ∧ Hid (Xt w6 wr')) (fun _ s17 _ => n1 + 1 - (intOf s17).toNat)
                  case atStart => exact ⟨0, true, Nat.zero_le _, rfl, rfl, (by unfold Hid; simp), Xt.refl _⟩
                  case round =>
                    obtain ⟨k, f, hk', rfl, rfl, HF, HX6⟩ := hrel
                    by_cases hgo : k < n1 + 1 ∧ f = true
                    · obtain ⟨hlt6, rfl⟩ := hgo
                      obtain ⟨rk, hrk⟩ : ∃ rk, R[k]? = some rk := ⟨R[k]'(by omega), by simp⟩
                      have hxk := HLF.out.at hrk
                      have HXK := Lib.hid hxk
                      have hx5 : Xt wq wr := HX5.out.trans HX6.out
                      have e0 := ((hx5.cells).1 _ _ hgq).trans (HROW.out.cell HRj.out 0 _ rfl)
                      have e1 := ((hx5.cells).1 _ _ hgq).trans (HROW.out.cell HRj.out 1 _ rfl)
                      have e2 := ((hx5.cells).1 _ _ hgq).trans (HROW.out.cell HRj.out 2 _ rfl)
                      have t0 := ((hx5.cells).1 _ _ hgq).trans (HROW.out.cell hrk 0 _ rfl)
                      have t1 := ((hx5.cells).1 _ _ hgq).trans (HROW.out.cell hrk 1 _ rfl)
                      simp only [Nat.add_zero] at e0 t0
                      simp only [slV] at e2
                      have hki : (k : Int) < (n1 : Int) + 1 := by omega
                      have hsl : SlOf wr.drew arC 4 (.slice r.2.1 r.2.2.1 r.2.2.2) ((lkM r.1 M).getD []) := (HLF.out.each r (List.mem_of_getElem? HRj.out)).xt ((HX.out.trans hx5).drew)
                      have HSL := Lib.hid hsl
                      have huse := usesR_lk HV.out r.1 rk.1
                      have HUSE := Lib.hid huse
                      clear hrk hxk hx5 hsl huse
                      go_wp2_with fail
                      refine wp_region_still_tail 9 (by kernel_rfl) (by kernel_rfl) ?_
                      change wpStill _ _ (World.drew _) _ _ _
                      simp only [List.take_succ_cons, List.take_zero, List.drop_succ_cons, List.drop_zero]
                      iterate 9 still_step
                      refine wpStill_nil ?_
                      change wpList _ _ _ _ _ (World.drew _)
                      refine wpList_step (fun K hK => ?_)
                      go_simp
                      refine (ruses_any r.1 rk.1 _ _ _ HSL.out).mono ?_
                      rintro e w2 ⟨rfl, hg2⟩
                      rw [HUSE.out]
                      refine hK _ _ ?_
                      clear hK K e0 e1 e2 t0 t1
                      have HX2 : Hid (Xt wr w2) := xt_drew hg2.xt
                      clear hg2
                      have HF2 : Hid ((!onM M r.1 rk.1) = (A.take (k + 1)).all fun b => !onM M r.1 b) := by
                        have h := HF.out
                        show _ = _
                        rw [List.take_add_one, HXK.out, List.all_append, ← h]
                        simp
                      generalize onM M r.1 rk.1 = on at HF2 ⊢
                      go_wp2_with fail
                      go_roundw
                      case rel => exact ⟨k + 1, !on, by omega, by go_num, rfl, HF2, HX6.out.trans HX2.out⟩
                      case measure => simp [intOf]; omega
                    · have HFR : Hid (f = freeM M A r.1) := free_take HF.out (by
                        have := HN1.out
                        by_cases h : k < n1 + 1
                        · exact Or.inr (by simpa [h] using hgo)
                        · exact Or.inl (by omega))
                      have hcase : (k < n1 + 1 ∧ f = false) ∨ (¬ k < n1 + 1 ∧ f = false) ∨ (¬ k < n1 + 1 ∧ f = true) := by
                        by_cases h : k < n1 + 1
                        · exact Or.inl ⟨h, by simpa [h] using hgo⟩
                        · cases f
                          · exact Or.inr (Or.inl ⟨h, rfl⟩)
                          · exact Or.inr (Or.inr ⟨h, rfl⟩)
                      have HX56 : Hid (Xt wq wr) := HX5.out.trans HX6.out
                      have HO6 : Hid (OwnL wr wq.heap.size 3 1 inC u14 (mayL (freeM M A) (A.take j) 0)) := HO5.out.xt HX6.out
                      clear hgo HF
                      rcases hcase with ⟨hk6, rfl⟩ | ⟨hk6, rfl⟩ | ⟨hk6, rfl⟩
                      · have hki : (k : Int) < (n1 : Int) + 1 := by omega
                        go_wp2_with fail
                        go_roundw
                        case rel =>
                          refine ⟨j + 1, by omega, by go_num, ?_, HX56⟩
                          rw [HMT.out, ← HFR.out, if_neg (by simp), List.append_nil]
                          exact HO6.out
                        case measure => simp [intOf]; omega
                      · have hki : ¬ (k : Int) < (n1 : Int) + 1 := by omega
                        go_wp2_with fail
                        go_roundw
                        case rel =>
                          refine ⟨j + 1, by omega, by go_num, ?_, HX56⟩
                          rw [HMT.out, ← HFR.out, if_neg (by simp), List.append_nil]
                          exact HO6.out
                        case measure => simp [intOf]; omega
                      · have hki : ¬ (k : Int) < (n1 : Int) + 1 := by omega
                        have hown5 : wr.ownsRow wq.heap.size 3 1 u14 (mayL (freeM M A) (A.take j) 0).length ((mayL (freeM M A) (A.take j) 0).flatMap inC) := HO6.out
                        generalize hfe : mayL (freeM M A) (A.take j) 0 = fs at hown5 hml2
                        have HFE := Lib.hid hfe
                        have HO7 := Lib.hid hown5
                        have hqr : wq.heap.size ≤ wr.heap.size := HX56.out.sz
                        clear hfe
                        go_wp2_with (at_builtin; refine wpList_append_own _ rfl _ _ 24 rfl wq.heap.size 3 j0 (.int .i64 0) 1 8 Try.underlying24 hj hy0 hy1 hy2 rfl (by decide) _ _ _ rfl (hown5.alloc _) ⟨wr.heap.size, 0, none⟩ 1 1 [.int .i64 j] rfl rfl (news_at _ [.int .i64 j] 3 (by simp)) (inC_one j) ?c4 ?c5 ?c6 ?_)
                        case c4 => unfold maxLen; omega
                        case c5 => omega
                        case c6 => first | omega | (simp; omega)
                        intro v' w3 hown3 hg3 _
                        have hgA : wr.grownBy w3 u14.ownBlock := (World.grownBy_alloc _ _ _).trans hg3
                        go_wp2_with fail
                        go_roundw
                        case rel =>
                          refine ⟨j + 1, by omega, by go_num, ?_, HX56.out.ownG HO7.out (Nat.le_refl _) hgA⟩
                          rw [HMT.out, ← HFR.out, HFE.out]; exact OwnL.snoc hown3
                        case measure => simp [intOf]; omega
                · have hjl : j = n1 + 1 := by omega
                  subst hjl
                  have hto : (A.take (n1 + 1)) = A := by rw [← HN1.out, List.take_length]
                  rw [hto] at HO5
                  have hml := mayL_len (freeM M A) A 0
                  rw [HN1.out] at hml
                  clear hlt5 hj' hto
                  by_cases hmz : mayL (freeM M A) A 0 = []
                  · obtain ⟨am, cm, rfl, _⟩ := HO5.out.sl inC_len
                    rw [hmz]
                    go_wp2_with fail
                    go_ret2
                    have hgo := HGO.out
                    rw [HN1.out, readyGo_none hne hmz] at hgo
                    rw [HRN.out hgo.symm]
                    exact ⟨_, rfl, World.ownsRow_nil _ _ _ _, HX.out.trans HX5.out⟩
                  · obtain ⟨gm, capm, hgm, hgmb, hgmc, hrowm⟩ := RowL.of_own HO5.out inC_len hmz
                    cases hgm
                    have HRM := Lib.hid hrowm
                    have HMZ := Lib.hid hmz
                    have hm1 : 0 < (mayL (freeM M A) A 0).length := List.length_pos_iff.2 hmz
                    generalize hmay : mayL (freeM M A) A 0 = may at *
                    have HMay := Lib.hid hmay
                    have hmi : (0 : Int) < (may.length : Int) := by omega
                    have hmi0 : ((may.length : Int) == 0) = false := by rw [beq_eq_false_iff_ne]; omega
                    have hmn : ¬ (may.length : Int) = 0 := by omega
                    clear hmay hrowm hmz
                    go_upto_if 143 with fail
                    go_cut [19] (fun s19 wx => ∃ K : Nat, s19 = .int .i64 K ∧ Hid (pickK picks out.length may.length = (K : Int)) ∧ K < may.length ∧ wx = wr)
                    case first =>
                      by_cases hpl : out.length < picks.length
                      · obtain ⟨bu, ou, rfl, hcu⟩ := HPC.out (by intro h; simp [h] at hpl)
                        obtain ⟨p, hpp⟩ : ∃ p, picks[out.length]? = some p := ⟨picks[out.length], by simp [hpl]⟩
                        have pc0 := hcu _ _ hpp 0 (.int .i64 p) rfl
                        rw [Nat.mul_one, Nat.add_zero] at pc0
                        have hbu : bu < w.heap.size := World.block_lt_of_cell? w _ pc0
                        have pc1 : wr.cell? ⟨bu, ou + out.length, none⟩ = some (.int .i64 p) := (((HX.out.trans HX5.out).cells).1 _ _ hbu).trans pc0
                        have hpi : (out.length : Int) < (picks.length : Int) := by omega
                        have HPE : Hid (picks[out.length] = p) := (List.getElem?_eq_some_iff.1 hpp).2
                        clear hcu hpp pc0
                        rcases pick_ref (p := p) hmi (by omega) with ⟨hq, K, hK, hKm, hKp⟩ | ⟨hq, K, hK, hKm, hKp⟩
                        · have HPK : Hid (pickK picks out.length may.length = (K : Int)) := by
                            show _ = _
                            unfold pickK; rw [dif_pos hpl, HPE.out, hKp]
                          clear hKp
                          go_wp2_with fail
                          go_meet
                          exact ⟨K, (by rw [hK]), HPK, by omega, rfl⟩
                        · have HPK : Hid (pickK picks out.length may.length = (K : Int)) := by
                            show _ = _
                            unfold pickK; rw [dif_pos hpl, HPE.out, hKp]
                          have hKn : ¬ ((K : Int) < 0) := by omega
                          clear hKp hq
                          go_wp2_with fail
                          go_meet
                          exact ⟨K, rfl, HPK, by omega, rfl⟩
                      · have hpi : ¬ (out.length : Int) < (picks.length : Int) := by omega
                        go_wp2_with fail
                        go_meet
                        exact ⟨0, rfl, (by show _ = _; unfold pickK; rw [dif_neg hpl]; rfl), by omega, rfl⟩
                    case rest =>
                      obtain ⟨K, rfl, HPK, hKm, rfl⟩ := hcut
                      obtain ⟨ii, hii, hiin⟩ : ∃ ii : Nat, may[K]? = some (ii : Int) ∧ ii < n1 + 1 := by
                        obtain ⟨a, ha⟩ : ∃ a, may[K]? = some a := ⟨may[K]'hKm, by simp⟩
                        obtain ⟨ii, rfl, h2⟩ := mayL_mem (i := 0) (l := A) (f := freeM M A) (by rw [HMay.out]; exact List.mem_of_getElem? ha)
                        exact ⟨ii, by rw [ha]; simp, by rw [← HN1.out]; exact h2⟩
                      obtain ⟨r, hr⟩ : ∃ r, R[ii]? = some r := ⟨R[ii]'(by omega), by simp⟩
                      have hxr := HLF.out.at hr
                      have HII := Lib.hid hii
                      have HXR := Lib.hid hxr
                      have k0 := HRM.out.cell hii 0 (.int .i64 ii) rfl
                      rw [Nat.mul_one, Nat.add_zero] at k0
                      have d0 := ((HX5.out.cells).1 _ _ hgq).trans (HROW.out.cell hr 0 _ rfl)
                      have d1 := ((HX5.out.cells).1 _ _ hgq).trans (HROW.out.cell hr 1 _ rfl)
                      simp only [Nat.add_zero] at d0
                      have hKi : (K : Int) < (may.length : Int) := by omega
                      have hii2 : (ii : Int) < (n1 : Int) + 1 := by omega
                      have hzq := HX5.out.sz
                      have hown5 : wc.ownsRow w.heap.size 34 2 (.slice ao out.length co) out.length (out.flatMap adC) := HOO.out.xt HX5.out
                      have HO6 := Lib.hid hown5
                      have hww : w.heap.size ≤ wc.heap.size := (HX.out.trans HX5.out).sz
                      clear hii hr hxr
                      go_wp2_with (at_builtin; refine wpList_append_own _ rfl _ _ 23 rfl w.heap.size 34 k9 (.agg #[.int .i64 0, .int .i64 0]) 2 16 Try.underlying23 hk hx0 hx1 hx2 rfl (by decide) _ _ _ rfl (hown5.alloc _) ⟨wc.heap.size, 0, none⟩ 1 1 [.int .i64 r.1.1, .int .i64 r.1.2] rfl rfl (news_at _ [.int .i64 r.1.1, .int .i64 r.1.2] 34 (by simp)) (adC_one r.1) ?c4 ?c5 ?c6 ?_)
                      case c4 => unfold maxLen; omega
                      case c5 => omega
                      case c6 => first | omega | (simp; omega)
                      intro v' w3 hown3 hg3 _
                      have hgO : wc.grownBy w3 (Value.slice ao out.length co).ownBlock := (World.grownBy_alloc _ _ _).trans hg3
                      have HO3 : Hid (OwnL w3 w.heap.size 34 2 adC v' (out ++ [r.1])) := OwnL.snoc hown3
                      have HX3 : Hid (Xt w w3) := (HX.out.trans HX5.out).ownG HO6.out (Nat.le_refl _) hgO
                      have hs3 : wc.heap.size ≤ w3.heap.size := hgO.size
                      have hrow3 : RowL w3 g 49 c8 3 rlC R := HROW.out.of_heap ((hgO.block g (by omega) (fun e => HDJ.out g e.symm rfl)).trans (RowKit.Below.block HX5.out g hgq))
                      obtain ⟨av, cv, hv', _, _, _⟩ := HO3.out.sl adC_len
                      rw [List.length_append, List.length_singleton] at hv'
                      subst hv'
                      -- the others
                      have st := to_addr (g := g) (cap := c8) (n := n1 + 1) (T := 22) (E := 49) (K := 3) Try.underlying22 rfl (fun w => by kernel_rfl) ii (by omega)
                      have hn1' : ∀ (t : Nat) (u : Value), ((R.take ii).flatMap rlC)[t]? = some u → w3.cell? ((⟨g, 0, none⟩ : Addr).add t) = some u := by
                        have hq : ∀ (j : Nat) (x : Ad × SV), (R.take ii)[j]? = some x → R[0 + j]? = some x := by
                          intro j x hx
                          rw [List.getElem?_take] at hx
                          rw [Nat.zero_add]
                          split at hx
                          · exact hx
                          · cases hx
                        have := row_news (s := 0) rlC_len hrow3 (R.take ii) hq
                        simpa using this
                      have htl : (R.take ii).length = ii := by rw [List.length_take]; omega
                      have hfl1 : ((R.take ii).flatMap rlC).length = ii * 3 := by rw [flat_len rlC_len, htl]
                      have hcg : c8 ≤ 9223372036854775807 := by unfold maxLen at hgc; omega
                      have HROW3 := Lib.hid hrow3
                      have hg3l : g < w3.heap.size := by omega
                      have hii4 : ii < 1048577 := by omega
                      clear hown5 hown3 hg3 hgO hrow3 d0 d1 k0
                      go_wp2_with (at_builtin; refine wpList_append_own _ rfl _ _ 22 rfl w3.heap.size 49 i0 (.agg #[.int .i64 0, .int .i64 0, .slice none 0 0]) 3 40 Try.underlying22 hi hz0 hz1 hz2 rfl (by decide) _ _ _ rfl (World.ownsRow_nil _ _ _ _) ⟨g, 0, none⟩ ii c8 ((R.take ii).flatMap rlC) rfl hfl1 hn1' (flat_oneR _) ?c4 ?c5 ?c6 ?_)
                      case c4 => unfold maxLen; omega
                      case c5 => omega
                      case c6 => first | omega | (simp; omega)
                      intro v1 w4 hown4 hg4 _
                      have hs4 := hg4.size
                      have hob4 : ∀ b, b < w3.heap.size → w4.heap[b]? = w3.heap[b]? := fun b hb => hg4.block b hb (fun e => by cases e)
                      have hrow4 : RowL w4 g 49 c8 3 rlC R := HROW3.out.of_heap (hob4 g hg3l)
                      obtain ⟨ad, c2, sf, hn2⟩ := from_addr (T := 22) (E := 49) Try.underlying22 rfl (fun w => by kernel_rfl) rlC_len hrow4 hRn (ii + 1) (by omega)
                      rw [show ((ii + 1 : Nat) : Int) = (ii : Int) + 1 by omega, sub11] at sf
                      have e1 : IntKind.i64.wrap ((ii : Int) + 1) = (ii : Int) + 1 := wrap_succ (by omega)
                      have hfl2 : ((R.drop (ii + 1)).flatMap rlC).length = (n1 - ii) * 3 := by rw [flat_len rlC_len, List.length_drop, hRn, sub11]
                      have HOB4 := Lib.hid hob4
                      have HG4 : Hid (Xt w3 w4) := Below.grown (Below.refl _ w3) hg4 (Nat.le_refl _) (fun q hq => by cases hq)
                      try simp only [Nat.zero_add, List.nil_append] at hown4
                      have HOWN4 := Lib.hid hown4
                      clear hg4 hob4 hrow4 st hn1'
                      go_wp2_with (at_builtin; refine wpList_append_own _ rfl _ _ 22 rfl w3.heap.size 49 i0 (.agg #[.int .i64 0, .int .i64 0, .slice none 0 0]) 3 40 Try.underlying22 hi hz0 hz1 hz2 rfl (by decide) _ _ _ rfl hown4 ad (n1 - ii) c2 ((R.drop (ii + 1)).flatMap rlC) rfl hfl2 hn2 (flat_oneR _) ?c7 ?c8 ?c9 ?_)
                      case c7 => clear e1; unfold maxLen; omega
                      case c8 => clear e1; omega
                      case c9 => exact hs4
                      intro v2 w5 hown5 hg5 _
                      clear e1
                      have hs5 := hg5.size
                      have HO5' : Hid (OwnL w5 w3.heap.size 49 3 rlC v2 (R.eraseIdx ii)) := by
                        show w5.ownsRow w3.heap.size 49 3 v2 (R.eraseIdx ii).length ((R.eraseIdx ii).flatMap rlC)
                        rw [List.eraseIdx_eq_take_drop_succ, List.flatMap_append, List.length_append, htl, List.length_drop, hRn, sub11]
                        exact hown5
                      have HX45 : Hid (Xt w3 w5) := Below.grown HG4.out hg5 hs4 (fun q hq => (World.ownsRow.lt HOWN4.out q hq).1)
                      obtain ⟨s2, q2', hv2, _, _, _⟩ := HO5'.out.sl rlC_len
                      have hel : (R.eraseIdx ii).length = n1 := by rw [List.length_eraseIdx_of_lt (by omega), hRn]; omega
                      rw [hel] at hv2
                      subst hv2
                      have HEL : Hid ((A.eraseIdx ii).length = n1) := by
                        show (A.eraseIdx ii).length = n1
                        rw [List.length_eraseIdx_of_lt (by rw [HN1.out]; exact hiin), HN1.out]; omega
                      clear hg5 sf hn2 hown5 hown4
                      go_wp2_with fail
                      go_roundw
                      case rel =>
                        refine ⟨A.eraseIdx ii, out ++ [r.1], R.eraseIdx ii, by rw [HEL.out]; rfl, by rw [List.length_append, List.length_singleton]; rfl, ⟨by rw [keys_erase, HLF.out.keys], HLF.out.each.erase ii, HO5'.out.base HX3.out.sz⟩, HO3.out.xt HX45.out, ?_, ?_, ?_, HX3.out.trans HX45.out⟩
                        · intro q hq hq2
                          have h1 := (World.ownsRow.lt HO3.out q hq).2
                          have h2 := (World.ownsRow.lt HO5'.out q hq2).1
                          omega
                        · show _ = _
                          rw [← HGO.out, HN1.out, readyGo_some hne (by rw [HMay.out]; exact HMZ.out) (i := ii) (x := r.1) ?_ HXR.out, HEL.out]
                          rw [HMay.out, HPK.out, List.getD_eq_getElem?_getD, Int.toNat_natCast, HII.out]; simp
                        · have h1 := HMANY.out
                          have h2 := HN1.out
                          have h3 := HEL.out
                          show _ = _
                          rw [List.length_append, List.length_singleton]; omega
                      case measure => simp only [slLen]; omega
end Go.Proofs.Ytagfgkcipomopaa
