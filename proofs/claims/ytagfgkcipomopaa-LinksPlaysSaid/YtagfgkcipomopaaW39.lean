import Derived.Test.YtagfgkcipomopaaW38
import Derived.Test.YtagfgkcipomopaaL20
namespace Go.Proofs.Ytagfgkcipomopaa
open Go.RowKit Go.Sort

/-! ### the document's Above -/
theorem info4 : (Try.prog.info? 4).map (fun i => (i.zero, i.size, i.bytes)) = some (some (.bool false), 1, 1) := by kernel_rfl
set_option maxRecDepth 100000 in
set_option maxHeartbeats 8000000 in
theorem rabove60_any (px : Nat) (v u : Value) (M : Mp) (at_ : List Ad) (w : World) (hp : w.cell? ⟨px, 0, none⟩ = some v) (hR : RulesOf w v M) (hs : SortedM M) (hv : VM M) (hm : M.length ≤ 4096) (hu : SlOf w adC 2 u at_) (hl : at_.length ≤ 8796093021952) :
    Calls Try.prog 60 #[.pointer (some ⟨px, 0, none⟩), u] w (RetL w (aboveM M at_)) := by
  obtain ⟨i0, hi, hz0, hz1, hz2⟩ := info_parts info34
  obtain ⟨j0, hj, hy0, hy1, hy2⟩ := info_parts info4
  have hmk := fun W : World => run_make_row (P := Try.prog) 94 4 j0 (.bool false) Try.underlying94 hj hy0 hy1 rfl .i64 .i64 M.length (by rw [hy2]; omega) (by omega) W
  have hpx : px < w.heap.size := World.block_lt_of_cell? w _ hp
  have HS := Lib.hid hs
  have HV := Lib.hid hv
  obtain ⟨sv, cap, rfl, qa, qb, hcc⟩ := hR
  have HC := Lib.hid hcc
  obtain ⟨v1, w1, hr, hown, hg⟩ := app_list (S := 23) (base := w.heap.size + 1) (w := w.alloc (Obj.cells (madeCells #[Value.bool false] M.length) 4)) Try.underlying23 hi hz0 hz1 hz2 rfl (by decide) adC_len adC_one (show OwnL _ (w.heap.size + 1) 34 2 adC (.slice none 0 0) [] from World.ownsRow_nil _ _ _ _) (hu.xt ((Xt.refl w).alloc _)) (by simp) 23 (by unfold maxLen; simp; omega) (by simp; omega)
  rw [List.nil_append] at hown
  have hx0 : Xt w (w.alloc (Obj.cells (madeCells #[Value.bool false] M.length) 4)) := (Xt.refl w).alloc _
  have HX1 : Hid (Xt w w1) := Below.grown hx0 hg (by simp) (fun q hq => by cases hq)
  have hs1 := hg.size
  simp only [World.size_alloc] at hs1
  have HI1 : Hid (BoolRow w1 w.heap.size M.length (fun _ => false)) := (BoolRow.made w M.length).of_heap (hg.block _ (by simp) (fun e => by cases e))
  have HQ1 : Hid (QOwn adC 2 34 w1 (w.heap.size + 1) v1 at_) := QOwn.of_own adC_len hown
  obtain ⟨av, cv, rfl, hcap1, hcap2, _⟩ := hown.sl adC_len
  obtain ⟨gf, hgf⟩ : ∃ n, w.heap.size = n := ⟨_, rfl⟩
  have HGF := Lib.hid hgf
  clear hcc hown hg hx0 hu hs hv
  go_enter Try.func60, Try.ntmps60
  go_wp2_with (at_builtin; refine wpList_append_eq rfl _ _ 23 rfl _ _ rfl rfl hr ?_)
  clear hmk hr
  rw [hgf] at HI1 HQ1 hs1 hpx
  clear hgf
  have hall : (M.map (·.1)).length = M.length := by simp
  have HZ1 : Hid (zeros (M.map (·.1)) (b2n fun _ => false) + at_.length ≤ M.length + at_.length) := by
    have := zeros_le (M.map (·.1)) (b2n fun _ => false)
    unfold Hid; omega
  go_loopg [6] (M.length + at_.length) (fun gk s6 wr => ∃ (met : Ad → Bool) (Q : List Ad), s6 = .slice (slAt s6) Q.length (slCap s6) ∧ Hid (QOwn adC 2 34 wr (gf + 1) s6 Q) ∧ Hid (BoolRow wr gf M.length (fun j => met (keyM M j))) ∧ Hid (TodoIs M at_ met Q) ∧ Hid (zeros (M.map (·.1)) (b2n met) + Q.length ≤ gk ∧ zeros (M.map (·.1)) (b2n met) + Q.length ≤ M.length + at_.length) ∧ Hid (Xt w wr))
  case atStart => exact ⟨_, at_, rfl, HQ1, HI1, TodoIs.start M at_, ⟨HZ1.out, HZ1.out⟩, HX1⟩
  case round =>
    obtain ⟨met, Q, hv6, HQ2, HI2, HT2, HZ2, HX2⟩ := hrel
    generalize slAt u6 = a7 at *
    generalize slCap u6 = c7 at *
    subst hv6
    have hzr := HX2.out.sz
    rw [HGF.out] at hzr
    cases Q with
    | nil =>
      have HRES : Hid ((M.map (·.1)).filter met = aboveM M at_) := HT2.out.end
      obtain ⟨wq, hwq⟩ : ∃ wq, wq = wr := ⟨_, rfl⟩
      subst hwq
      clear HQ1 HI1 HX1 HQ2
      go_wp2_with fail
      go_loopw [10, 11] (fun s10 s11 wr => ∃ k : Nat, k ≤ M.length ∧ s11 = .int .i64 k ∧ Hid (OwnL wr wq.heap.size 34 2 adC s10 (((M.map (·.1)).take k).filter met)) ∧ Hid (Xt wq wr)) (fun _ s11 _ => M.length - (intOf s11).toNat)
      case atStart => exact ⟨0, Nat.zero_le _, rfl, World.ownsRow_nil _ _ _ _, Xt.refl _⟩
      case round =>
        obtain ⟨k, hk, rfl, HO, HX⟩ := hrel
        have hxw : Xt w wr := HX2.out.trans HX.out
        have hp0 := ((hxw.cells).1 px 0 (by rw [HGF.out]; exact hpx)).trans hp
        have hz5 := HX.out.sz
        by_cases hlt : k < M.length
        · obtain ⟨bv, ov, rfl, hcell⟩ := HC.out (by intro e; subst e; simp at hlt)
          obtain ⟨x, hx⟩ : ∃ x, M[k]? = some x := ⟨M[k], by simp [hlt]⟩
          obtain ⟨d0, d1, _⟩ := hcell k x hx
          have hbv : bv < w.heap.size := World.block_lt_of_cell? w _ d0
          have d0r := ((hxw.cells).1 bv _ hbv).trans d0
          have d1r := ((hxw.cells).1 bv _ hbv).trans d1
          have hki : (k : Int) < (M.length : Int) := by omega
          have ck := (HI2.out.of_heap (RowKit.Below.block HX.out gf HI2.out.lt)).cell hlt
          try simp only at ck
          rw [keyM_at hx] at ck
          have hxa : (M.map (·.1))[k]? = some x.1 := by rw [List.getElem?_map, hx]; rfl
          have HXA := Lib.hid hxa
          have HOr : OwnL wr wq.heap.size 34 2 adC u10 (((M.map (·.1)).take k).filter met) := HO.out
          have hfl : (((M.map (·.1)).take k).filter met).length ≤ 4096 := Nat.le_trans (List.length_filter_le ..) (by rw [List.length_take]; omega)
          have hown2 : wr.ownsRow wq.heap.size 34 2 u10 (((M.map (·.1)).take k).filter met).length ((((M.map (·.1)).take k).filter met).flatMap adC) := HOr
          generalize hfe : ((M.map (·.1)).take k).filter met = fs at hfl hown2 HOr HO
          have HFE := Lib.hid hfe
          have HXW := Lib.hid hxw
          cases hma : met x.1
          · rw [hma] at ck
            have HMA := Lib.hid hma
            clear hcell hx d0 d1 hxa hfe hxw hma hown2 HOr
            go_wp2_with fail
            go_roundw
            case rel =>
              refine ⟨k + 1, by omega, by go_num, ?_, HX⟩
              rw [take_filter HXA.out, HMA.out, HFE.out, if_neg (by simp), List.append_nil]
              exact HO.out
            case measure => simp [intOf]; omega
          · rw [hma] at ck
            have HMA := Lib.hid hma
            clear hcell hx d0 d1 hxa hfe hxw hma HOr
            go_wp2_with (at_builtin; refine wpList_append_own _ rfl _ _ 23 rfl wq.heap.size 34 i0 (.agg #[.int .i64 0, .int .i64 0]) 2 16 Try.underlying23 hi hz0 hz1 hz2 rfl (by decide) _ _ _ rfl (hown2.alloc _) ⟨wr.heap.size, 0, none⟩ 1 1 [.int .i64 x.1.1, .int .i64 x.1.2] rfl rfl (news_at _ [.int .i64 x.1.1, .int .i64 x.1.2] 34 (by simp)) (adC_one x.1) ?c4 ?c5 ?c6 ?_)
            case c4 => unfold maxLen; omega
            case c5 => omega
            case c6 => first | omega | (simp; omega)
            intro v' w3 hown3 hg3 _
            have hg4 : wr.grownBy w3 u10.ownBlock := (World.grownBy_alloc wr _ _).trans hg3
            go_wp2_with fail
            go_roundw
            case rel =>
              refine ⟨k + 1, by omega, by go_num, ?_, ?_⟩
              · rw [take_filter HXA.out, HMA.out, HFE.out]; exact OwnL.snoc hown3
              · exact Below.grown HX.out hg4 hz5 (fun q hq => (World.ownsRow.lt hown2 q hq).1)
            case measure => simp [intOf]; omega
        · have hkl : k = M.length := by omega
          subst hkl
          go_wp2_with fail
          go_ret
          have := HO.out
          rw [List.take_of_length_le (by simp), HRES.out] at this
          exact ⟨u10, rfl, this.base HX2.out.sz, hxw⟩
    | cons c Q =>
      obtain ⟨gq, oq, ha7, hgq, _, hqc⟩ := HQ2.out.cells (by simp)
      subst ha7
      obtain ⟨cq0, cq1⟩ := ad_cells (hqc 0 c rfl)
      simp only [Nat.zero_mul, Nat.add_zero] at cq0 cq1
      obtain ⟨vq, hpop, hQp, hob⟩ := HQ2.out.pop (S := 23) Try.underlying23 rfl (fun w => by kernel_rfl)
      obtain ⟨aq, cq, hvq⟩ := hQp.shape
      subst hvq
      rw [List.length_cons] at hpop ⊢
      obtain ⟨wB, hwB, hbB, hsB, b0, b1⟩ := box1 wr c.1 c.2 34
      have HXB : Hid (Xt w wB) := HX2.out.trans hbB
      have HQp : Hid (QOwn adC 2 34 wB (gf + 1) (.slice aq Q.length cq) Q) := hQp.xt hbB
      have HIB : Hid (BoolRow wB gf M.length (fun j => met (keyM M j))) := HI2.out.of_heap (RowKit.Below.block hbB gf HI2.out.lt)
      obtain ⟨nr, hnr⟩ : ∃ n, wr.heap.size = n := ⟨_, rfl⟩
      rw [hnr] at hsB b0 b1 hzr
      have HNR := Lib.hid hnr
      have hnB : nr < wB.heap.size := by omega
      have hgn : gf < nr := by rw [← hnr]; exact HI2.out.lt
      have HTI : Hid (TodoIn M at_ c met Q ((M.map (·.1)).take 0)) := HT2.out.enter
      have HZI : Hid (zeros (M.map (·.1)) (b2n met) + Q.length + 1 ≤ gk ∧ zeros (M.map (·.1)) (b2n met) + Q.length + 1 ≤ M.length + at_.length) := by
        have := HZ2.out
        rw [List.length_cons] at this
        exact ⟨by omega, by omega⟩
      have hp2 := ((HX2.out.cells).1 px 0 (by rw [HGF.out]; exact hpx)).trans hp
      have HN0 : Hid (wB.cell? ⟨nr, 0, none⟩ = some (.int .i64 c.1) ∧ wB.cell? ⟨nr, 1, none⟩ = some (.int .i64 c.2) ∧ nr < wB.heap.size ∧ ∀ g, (Value.slice aq Q.length cq).ownBlock = some g → g ≠ nr) :=
        ⟨b0, b1, hnB, fun g hg => by have := (hQp.lt g hg).2; omega⟩
      clear hqc hQp hob HQ2 HT2 HZ2 HI2 hbB HQ1 HI1 HX1 HX2
      go_wp2_with fail
      clear hpop cq0 cq1 hwB hp2 b0 b1 hsB hnB hnr
      go_loopw [6, 8] (fun s6 s8 wr => ∃ (k : Nat) (met : Ad → Bool) (Q : List Ad), k ≤ M.length ∧ s8 = .int .i64 k ∧ s6 = .slice (slAt s6) Q.length (slCap s6) ∧ Hid (QOwn adC 2 34 wr (gf + 1) s6 Q) ∧ Hid (BoolRow wr gf M.length (fun j => met (keyM M j))) ∧ Hid (TodoIn M at_ c met Q ((M.map (·.1)).take k)) ∧ Hid (zeros (M.map (·.1)) (b2n met) + Q.length + 1 ≤ gk ∧ zeros (M.map (·.1)) (b2n met) + Q.length + 1 ≤ M.length + at_.length) ∧ Hid (Xt w wr) ∧
        Hid (wr.cell? ⟨nr, 0, none⟩ = some (.int .i64 c.1) ∧ wr.cell? ⟨nr, 1, none⟩ = some (.int .i64 c.2) ∧ nr < wr.heap.size ∧ ∀ g, s6.ownBlock = some g → g ≠ nr)) (fun _ s8 _ => M.length - (intOf s8).toNat)
      case atStart => exact ⟨0, met, Q, Nat.zero_le _, rfl, rfl, HQp, HIB, HTI, HZI, HXB, HN0⟩
      case round =>
        clear HTI HZI HQp HIB HXB HN0
        obtain ⟨k, met, Q, hk, rfl, hv6, HQ, HI, HT, HZ, HX, HN⟩ := hrel
        generalize slAt u6 = a6 at *
        generalize slCap u6 = c6 at *
        subst hv6
        have hp0 := ((HX.out.cells).1 px 0 (by rw [HGF.out]; exact hpx)).trans hp
        have hzw := HX.out.sz
        rw [HGF.out] at hzw
        obtain ⟨n0, n1, nlt, _⟩ := HN.out
        by_cases hlt : k < M.length
        · obtain ⟨bv, ov, rfl, hcell⟩ := HC.out (by intro e; subst e; simp at hlt)
          obtain ⟨x, hx⟩ : ∃ x, M[k]? = some x := ⟨M[k], by simp [hlt]⟩
          obtain ⟨d0, d1, ux, d2, hux⟩ := hcell k x hx
          have hbv : bv < w.heap.size := World.block_lt_of_cell? w _ d0
          have d0r := ((HX.out.cells).1 bv _ hbv).trans d0
          have d1r := ((HX.out.cells).1 bv _ hbv).trans d1
          have d2r := ((HX.out.cells).1 bv _ hbv).trans d2
          have hki : (k : Int) < (M.length : Int) := by omega
          have hkey : (M.map (·.1)).take (k + 1) = (M.map (·.1)).take k ++ [keyM M k] := by rw [List.take_add_one, List.getElem?_map, hx, keyM_at hx]; rfl
          have HKEY := Lib.hid hkey
          have ck := HI.out.cell hlt
          try simp only at ck
          cases hma : met (keyM M k)
          · rw [hma] at ck
            have HMA := Lib.hid hma
            have hux' : SlOf wr.drew arC 4 ux x.2 := hux.xt HX.out.drew
            have huse := uses_at HS.out HV.out hx c
            have hxk := keyM_at hx
            have HXK := Lib.hid hxk
            have HUX := Lib.hid hux'
            have HUSE := Lib.hid huse
            have D : Hid (wr.cell? ⟨bv, ov + k * 3, none⟩ = some (.int .i64 x.1.1) ∧ wr.cell? ⟨bv, ov + k * 3 + 1, none⟩ = some (.int .i64 x.1.2) ∧ bv < gf) := ⟨d0r, d1r, by rw [← HGF.out]; exact hbv⟩
            obtain ⟨au, cu, rfl, _⟩ := hux'
            clear hcell d0 d1 d2 hux huse hx hkey hma hxk hbv
            cases hon : onM M (keyM M k) c
            all_goals
              go_wp2_with fail
              refine wp_region_still_tail 8 (by kernel_rfl) (by kernel_rfl) ?_
              change wpStill _ _ (World.drew _) _ _ _
              simp only [List.take_succ_cons, List.take_zero, List.drop_succ_cons, List.drop_zero]
              iterate 8 still_step
              refine wpStill_nil ?_
              change wpList _ _ _ _ _ (World.drew _)
              refine wpList_step (fun K hK => ?_)
              go_simp
              refine (ruses_any x.1 c _ x.2 _ HUX.out).mono ?_
              rintro e w2 ⟨rfl, hg2⟩
              rw [HUSE.out, hon]
              refine hK _ _ ?_
              clear hK K d0r d1r d2r hp0 ck n0 n1
              have HX2 : Hid (Xt wr w2) := xt_drew hg2.xt
              have hzz2 := HX2.out.sz
              have HN2 : Hid (w2.cell? ⟨nr, 0, none⟩ = some (.int .i64 c.1) ∧ w2.cell? ⟨nr, 1, none⟩ = some (.int .i64 c.2) ∧ nr < w2.heap.size ∧ ∀ g, (Value.slice a6 Q.length c6).ownBlock = some g → g ≠ nr) := by
                obtain ⟨q0, q1, q2, q3⟩ := HN.out
                exact ⟨((HX2.out.cells).1 _ _ q2).trans q0, ((HX2.out.cells).1 _ _ q2).trans q1, by omega, q3⟩
              clear hg2
            · go_wp2_with fail
              go_roundw
              case rel => exact ⟨k + 1, met, Q, by omega, by go_num, rfl, HQ.out.xt HX2.out, HI.out.of_heap (RowKit.Below.block HX2.out gf HI.out.lt), (by rw [HKEY.out]; exact HT.out.skip (Or.inr hon)), HZ, HX.out.trans HX2.out, HN2⟩
              case measure => simp [intOf]; omega
            · have hI2 : BoolRow w2 gf M.length (fun j => met (keyM M j)) := HI.out.of_heap (RowKit.Below.block HX2.out gf HI.out.lt)
              have c8 := hI2.cell hlt
              try simp only at c8
              have f8 := hI2.froz k
              have hmt := HT.out.meet hon
              rw [← HKEY.out] at hmt
              have hzu := zeros_met (nodup_M HS.out) (onM_key hon) HMA.out
              have HMT := Lib.hid hmt
              have HZU := Lib.hid hzu
              obtain ⟨W3, hW3⟩ : ∃ W3, w2.setCell ⟨gf, k, none⟩ (.bool true) = W3 := ⟨_, rfl⟩
              have hI3 : BoolRow W3 gf M.length (fun j => metU met (keyM M k) (keyM M j)) := by
                rw [← hW3]
                refine (hI2.set hlt true).congr fun j hj => ?_
                unfold metU
                by_cases hjk : j = k
                · subst hjk; simp
                · have : ¬ keyM M j = keyM M k := fun e => hjk (keyM_inj HS.out hj hlt e)
                  simp [hjk, this]
              have hg3 : w2.grownBy W3 (some gf) := by rw [← hW3]; exact setCells_grown gf [.bool true] k w2
              have hQ3 : QOwn adC 2 34 W3 (gf + 1) (.slice a6 Q.length c6) Q := (HQ.out.xt HX2.out).kept fun q hq => hg3.block q ((HQ.out.xt HX2.out).lt q hq).2 (fun e => by have := (HQ.out.lt q hq).1; cases e; omega)
              have hlq : Q.length ≤ 8796093030000 := by have := HZ.out.2; omega
              have hgl3 := hI3.lt
              obtain ⟨t0, t1, t2⟩ := D.out
              have hs3 := hg3.size
              have e0 : W3.cell? ⟨bv, ov + k * 3, none⟩ = some (.int .i64 x.1.1) := (cell_grown hg3 (by omega) (by omega)).trans (((HX2.out.cells).1 _ _ (by omega)).trans t0)
              have e1 : W3.cell? ⟨bv, ov + k * 3 + 1, none⟩ = some (.int .i64 x.1.2) := (cell_grown hg3 (by omega) (by omega)).trans (((HX2.out.cells).1 _ _ (by omega)).trans t1)
              have hp3 : W3.cell? ⟨px, 0, none⟩ = some (.slice (some ⟨bv, ov, none⟩) M.length cap) := (cell_grown hg3 (by omega) (by omega)).trans (((HX2.out.cells).1 _ _ (by omega)).trans (((HX.out.cells).1 px 0 (by rw [HGF.out]; exact hpx)).trans hp))
              obtain ⟨v', w4, hpush, hQ4, hg4, hwh⟩ := (hQ3.xt ((Xt.refl W3).alloc (.cells #[.int .i64 x.1.1, .int .i64 x.1.2] 34))).pushw (S := 23) (bytes := 16) Try.underlying23 hi hz0 hz1 hz2 rfl (by omega) adC_len adC_one (by simp; omega) 23 x.1 ⟨W3.heap.size, 0, none⟩ 1 (news_at W3 [.int .i64 x.1.1, .int .i64 x.1.2] 34 rfl) (by omega) (by omega)
              rw [← HXK.out] at hQ4
              obtain ⟨a', c', hv'⟩ := hQ4.shape
              subst hv'
              have HQ4 := Lib.hid hQ4
              have hgA : W3.grownBy w4 (Value.slice a6 Q.length c6).ownBlock := (World.grownBy_alloc W3 _ _).trans hg4
              have HI4 : Hid (BoolRow w4 gf M.length (fun j => metU met (keyM M k) (keyM M j))) := hI3.of_heap (hgA.block gf hgl3 (fun e => by have := (HQ.out.lt gf e.symm).1; omega))
              have HX4 : Hid (Xt w w4) := by
                have x2 : Xt w w2 := HX.out.trans HX2.out
                have x3 : Xt w W3 := x2.grownBy hg3 (by rw [HGF.out]; exact Nat.le_refl _)
                exact Below.grown x3 hgA x3.sz (fun q hq => by have := (HQ.out.lt q hq).1; have := HGF.out; omega)
              have HN4 : Hid (w4.cell? ⟨nr, 0, none⟩ = some (.int .i64 c.1) ∧ w4.cell? ⟨nr, 1, none⟩ = some (.int .i64 c.2) ∧ nr < w4.heap.size ∧ ∀ g, (Value.slice a' (Q ++ [keyM M k]).length c').ownBlock = some g → g ≠ nr) := by
                obtain ⟨q0, q1, q2, q3⟩ := HN2.out
                have hb : ∀ o, w4.cell? ⟨nr, o, none⟩ = w2.cell? ⟨nr, o, none⟩ := fun o =>
                  (World.cell?_of_block (w := W3) (a := ⟨nr, o, none⟩) (hgA.block nr (by omega) (fun e => q3 nr e.symm rfl))).trans (cell_grown hg3 q2 (by omega))
                refine ⟨(hb 0).trans q0, (hb 1).trans q1, by have := hgA.size; omega, fun g hg => ?_⟩
                rcases hwh with h | h
                · rw [h] at hg; exact q3 g hg
                · have := h g hg
                  simp at this; omega
              clear hI2 hI3 hg3 hQ3 hQ4 hg4 hgA hwh hmt hzu HN
              go_wp2_with (at_builtin; refine wpList_append_eq rfl _ _ 23 rfl _ _ rfl rfl hpush ?_)
              go_wp2_with fail
              go_roundw
              case rel =>
                have hl : (Q ++ [keyM M k]).length = Q.length + 1 := by simp
                refine ⟨k + 1, metU met (keyM M k), Q ++ [keyM M k], by omega, by go_num, by rw [hl]; rfl, by rw [← hl]; exact HQ4, HI4, HMT, ?_, HX4, by rw [← hl]; exact HN4⟩
                have h1 := HZ.out
                have h2 := HZU.out
                rw [List.length_append, List.length_singleton]
                exact ⟨by omega, by omega⟩
              case measure => simp [intOf]; omega
          · rw [hma] at ck
            have HMA := Lib.hid hma
            clear hcell d0 d1 d2 hux hx hkey hma hbv d0r d1r d2r
            go_wp2_with fail
            go_roundw
            case rel => exact ⟨k + 1, met, Q, by omega, by go_num, rfl, HQ, HI, (by rw [HKEY.out]; exact HT.out.skip (Or.inl HMA.out)), HZ, HX, HN⟩
            case measure => simp [intOf]; omega
        · obtain rfl : k = M.length := by omega
          have HTE : Hid (TodoIs M at_ met Q) := by
            have := HT.out
            rw [List.take_of_length_le (by simp)] at this
            exact this.leave
          go_wp2_with fail
          go_roundg (zeros (M.map (·.1)) (b2n met) + Q.length)
          case measure => have := HZ.out.1; omega
          case rel => exact ⟨met, Q, rfl, HQ, HI, HTE, ⟨Nat.le_refl _, by have := HZ.out.2; omega⟩, HX⟩
end Go.Proofs.Ytagfgkcipomopaa
