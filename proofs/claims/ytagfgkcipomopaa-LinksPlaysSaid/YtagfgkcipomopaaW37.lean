import Derived.Test.YtagfgkcipomopaaW29
namespace Go.Proofs.Ytagfgkcipomopaa
open Go.RowKit Go.Sort

/-! ### the document's Uses, Users -/
def RUsesR (w0 w : World) (M : Mp) (a : Ad) (e : Ending) (w' : World) : Prop := ∃ v, e = .returned v ∧ SlOf w0 arC 4 v ((lkM a M).getD []) ∧ Gr w w'
set_option maxRecDepth 100000 in
set_option maxHeartbeats 2000000 in
/-- What comes out lies where it lay in an elder world already. -/
theorem ruses56_old (px : Nat) (v : Value) (M : Mp) (a : Ad) (wE w : World) (hpE : wE.cell? ⟨px, 0, none⟩ = some v) (hRE : RulesOf wE v M) (hs : SortedM M) (hm : M.length ≤ 4096) (hxE : Xt wE w) :
    Calls Try.prog 56 #[.pointer (some ⟨px, 0, none⟩), .agg #[.int .i64 a.1, .int .i64 a.2]] w (RUsesR wE w M a) := by
  have HS := Lib.hid hs
  have hpxE : px < wE.heap.size := World.block_lt_of_cell? wE _ hpE
  have hp : w.cell? ⟨px, 0, none⟩ = some v := ((hxE.cells).1 _ _ hpxE).trans hpE
  have hR : RulesOf w v M := hRE.xt hxE
  have hpx : px < w.heap.size := World.block_lt_of_cell? w _ hp
  obtain ⟨w0, hw0, hb0, hs0, c0, c1⟩ := box1 w a.1 a.2 34
  have HG0 : Hid (Gr w w0) := by rw [← hw0]; exact (Gr.refl _).alloc _
  have hp0 : w0.cell? ⟨px, 0, none⟩ = some v := (hb0.cell (p := ⟨px, 0, none⟩) hpx).trans hp
  have HR0 : Hid (RulesOf w0 v M) := hR.xt hb0
  have HRE := Lib.hid hRE
  have HXE := Lib.hid hxE
  clear hp hR hb0 hs hRE hxE hpE
  go_enter Try.func56, Try.ntmps56
  go_wp2_with fail
  clear hw0
  refine (find49_any px v M a w0 hp0 HR0.out hm).mono ?_
  rintro e w3 ⟨k, t, rfl, hfi, hg3⟩
  have HFI := Lib.hid hfi
  have HG3 : Hid (Gr w w3) := HG0.out.trans hg3
  have hp3 := ((hg3.xt.cells).1 px 0 (by omega)).trans hp0
  clear hfi hg3 hp0 c0 c1
  cases t
  · have hno := place_no HS.out HFI.out.low (HFI.out.no rfl)
    have HN := Lib.hid hno
    clear hno
    go_wp2_with fail
    go_ret
    exact ⟨.slice none 0 0, rfl, by rw [HN.out]; exact SlOf.nil _ _ _ _ _ (by omega), HG3.out⟩
  · obtain ⟨l0, hl0⟩ := HFI.out.yes rfl
    have hkM : k < M.length := (List.getElem?_eq_some_iff.1 hl0).1
    have hki : (k : Int) < (M.length : Int) := by omega
    have hlk := (place_yes HFI.out.low hl0).1
    have HLK := Lib.hid hlk
    obtain ⟨a', cap, rfl, q1, q2, hc⟩ := HRE.out
    obtain ⟨b', off, rfl, hcell⟩ := hc (by intro h; simp [h] at hkM)
    obtain ⟨_, _, u, d2E, hu⟩ := hcell k _ hl0
    have hb'E : b' < wE.heap.size := World.block_lt_of_cell? wE _ d2E
    have hb'w : b' < w.heap.size := by have := HXE.out.sz; omega
    have d2 := ((HG3.out.xt.cells).1 _ (off + k * 3 + 2) hb'w).trans (((HXE.out.cells).1 _ _ hb'E).trans d2E)
    have HU := Lib.hid hu
    clear hl0 hlk hc hcell hu d2E
    go_wp2_with fail
    go_ret
    exact ⟨u, rfl, by rw [HLK.out]; exact HU.out, HG3.out⟩
theorem ruses56_any (px : Nat) (v : Value) (M : Mp) (a : Ad) (w : World) (hp : w.cell? ⟨px, 0, none⟩ = some v) (hR : RulesOf w v M) (hs : SortedM M) (hm : M.length ≤ 4096) :
    Calls Try.prog 56 #[.pointer (some ⟨px, 0, none⟩), .agg #[.int .i64 a.1, .int .i64 a.2]] w (RUsesR w w M a) := ruses56_old px v M a w w hp hR hs hm (Xt.refl w)
set_option maxRecDepth 100000 in
set_option maxHeartbeats 4000000 in
theorem rusers57_any (px : Nat) (v : Value) (M : Mp) (t : Ad) (w : World) (hp : w.cell? ⟨px, 0, none⟩ = some v) (hR : RulesOf w v M) (hs : SortedM M) (hv : VM M) (hm : M.length ≤ 4096) :
    Calls Try.prog 57 #[.pointer (some ⟨px, 0, none⟩), .agg #[.int .i64 t.1, .int .i64 t.2]] w (RetL w ((M.map (·.1)).filter fun a => onM M a t)) := by
  obtain ⟨i0, hi, hz0, hz1, hz2⟩ := info_parts info34
  have HS := Lib.hid hs
  have HV := Lib.hid hv
  have hpx : px < w.heap.size := World.block_lt_of_cell? w _ hp
  obtain ⟨sv, cv, rfl, q1, q2, hcc⟩ := hR
  obtain ⟨w0, hw0, hb0, hs0, c0, c1⟩ := box1 w t.1 t.2 34
  have HX0 : Hid (Xt w w0) := hb0
  have HC := Lib.hid hcc
  have hp0 : w0.cell? ⟨px, 0, none⟩ = some (.slice sv M.length cv) := (hb0.cell (p := ⟨px, 0, none⟩) hpx).trans hp
  clear hp hb0 hs hv hcc
  go_enter Try.func57, Try.ntmps57
  go_wp2_with fail
  clear hw0
  go_loopw [5, 6] (fun s5 s6 wr => ∃ k : Nat, k ≤ M.length ∧ s6 = .int .i64 k ∧ Hid (OwnL wr w0.heap.size 34 2 adC s5 (((M.map (·.1)).take k).filter fun a => onM M a t)) ∧ Hid (Xt w0 wr)) (fun _ s6 _ => M.length - (intOf s6).toNat)
  case atStart => exact ⟨0, Nat.zero_le _, rfl, World.ownsRow_nil _ _ _ _, Xt.refl _⟩
  case round =>
    obtain ⟨k, hk, rfl, HO, HX⟩ := hrel
    have hzr := HX.out.sz
    have hpr := ((HX.out.cells).1 px 0 (by omega)).trans hp0
    have c0r := ((HX.out.cells).1 w.heap.size 0 (by omega)).trans c0
    have c1r := ((HX.out.cells).1 w.heap.size 1 (by omega)).trans c1
    by_cases hlt : k < M.length
    · obtain ⟨b', off, rfl, hcell⟩ := HC.out (by intro h; simp [h] at hlt)
      obtain ⟨x, hx⟩ : ∃ x, M[k]? = some x := ⟨M[k], by simp [hlt]⟩
      obtain ⟨d0, d1, ux, d2, hux⟩ := hcell k x hx
      have hbv : b' < w.heap.size := World.block_lt_of_cell? w _ d0
      have hxw : Xt w wr := HX0.out.trans HX.out
      have d0r := ((hxw.cells).1 b' _ hbv).trans d0
      have d1r := ((hxw.cells).1 b' _ hbv).trans d1
      have d2r := ((hxw.cells).1 b' _ hbv).trans d2
      have hki : (k : Int) < (M.length : Int) := by omega
      have hxa : (M.map (·.1))[k]? = some x.1 := by rw [List.getElem?_map, hx]; rfl
      have HXA := Lib.hid hxa
      have huse := uses_at HS.out HV.out hx t
      rw [keyM_at hx] at huse
      have HUSE := Lib.hid huse
      have HUX : Hid (SlOf wr.drew arC 4 ux x.2) := hux.xt hxw.drew
      have hbr : b' < wr.heap.size := by have := hxw.sz; omega
      obtain ⟨au, cu, rfl, _⟩ := hux
      have hfl : ((((M.map (·.1)).take k).filter fun a => onM M a t)).length ≤ 4096 := Nat.le_trans (List.length_filter_le ..) (by rw [List.length_take]; omega)
      clear hcell hx d0 d1 d2 hxw hxa huse
      cases hon : onM M x.1 t
      all_goals
        go_wp2_with fail
        refine wp_region_still_tail 8 (by kernel_rfl) (by kernel_rfl) ?_
        change wpStill _ _ (World.drew _) _ _ _
        simp only [List.take_succ_cons, List.take_zero, List.drop_succ_cons, List.drop_zero]
        iterate 8 still_step
        refine wpStill_nil ?_
        change wpList _ _ _ _ _ (World.drew _)
        refine wpList_step (fun K hK => ?_)
        go_simp
        refine (ruses_any x.1 t _ x.2 _ HUX.out).mono ?_
        rintro e w2 ⟨rfl, hg2⟩
        rw [HUSE.out, hon]
        refine hK _ _ ?_
        clear hK K c0r c1r
        have HX2 : Hid (Xt wr w2) := xt_drew hg2.xt
        have d0s := ((HX2.out.cells).1 b' _ hbr).trans d0r
        have d1s := ((HX2.out.cells).1 b' _ hbr).trans d1r
        have hps := ((HX2.out.cells).1 px 0 (by omega)).trans hpr
        have hzz2 := HX2.out.sz
        clear hg2 d0r d1r d2r hpr
      · go_wp2_with fail
        go_roundw
        case rel =>
          refine ⟨k + 1, by omega, by go_num, ?_, HX.out.trans HX2.out⟩
          rw [take_filter HXA.out, hon, if_neg (by simp), List.append_nil]
          exact HO.out.xt HX2.out
        case measure => simp [intOf]; omega
      · have hown2 : w2.ownsRow w0.heap.size 34 2 u5 (((M.map (·.1)).take k).filter fun a => onM M a t).length ((((M.map (·.1)).take k).filter fun a => onM M a t).flatMap adC) := HO.out.xt HX2.out
        generalize hfe : (((M.map (·.1)).take k).filter fun a => onM M a t) = fs at hfl hown2
        have HFE := Lib.hid hfe
        have hb2 : w0.heap.size ≤ w2.heap.size := by omega
        clear hfe
        go_wp2_with (at_builtin; refine wpList_append_own _ rfl _ _ 23 rfl w0.heap.size 34 i0 (.agg #[.int .i64 0, .int .i64 0]) 2 16 Try.underlying23 hi hz0 hz1 hz2 rfl (by decide) _ _ _ rfl (hown2.alloc _) ⟨w2.heap.size, 0, none⟩ 1 1 [.int .i64 x.1.1, .int .i64 x.1.2] rfl rfl (news_at _ [.int .i64 x.1.1, .int .i64 x.1.2] 34 (by simp)) (adC_one x.1) ?c4 ?c5 ?c6 ?_)
        case c4 => unfold maxLen; omega
        case c5 => omega
        case c6 => first | omega | (simp; omega)
        intro v' w3 hown3 hg3 _
        have hg4 : w2.grownBy w3 u5.ownBlock := (World.grownBy_alloc w2 _ _).trans hg3
        go_wp2_with fail
        go_roundw
        case rel =>
          refine ⟨k + 1, by omega, by go_num, ?_, ?_⟩
          · rw [take_filter HXA.out, hon, HFE.out]; exact OwnL.snoc (by rw [hs0]; exact hown3)
          · exact Below.grown (HX.out.trans HX2.out) hg4 hb2 (fun q hq => (World.ownsRow.lt hown2 q hq).1)
        case measure => simp [intOf]; omega
    · obtain rfl : k = M.length := by omega
      go_wp2_with fail
      go_ret
      have hown := HO.out
      rw [List.take_of_length_le (by simp)] at hown
      exact ⟨u5, rfl, hown.base (by omega), HX0.out.trans HX.out⟩
end Go.Proofs.Ytagfgkcipomopaa
