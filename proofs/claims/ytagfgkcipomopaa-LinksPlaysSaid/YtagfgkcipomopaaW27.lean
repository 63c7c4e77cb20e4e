import Derived.Test.YtagfgkcipomopaaW26
namespace Go.Proofs.Ytagfgkcipomopaa
open Go.RowKit Go.Sort

theorem ref_xt {w w' : World} {px : Nat} {F : Nat → Prop} {M : Mp} {v : Value} {R : List (Ad × SV)} (h : RefIs w px F M v R) (hF : ∀ b, F b → b < w.heap.size) (hx : Xt w w') : RefIs w' px F M v R := by
  have hpl := hF px h.inP
  exact ⟨((hx.cells).1 _ _ hpl).trans h.cell, ((hx.cells).2 _ _ hpl).trans h.fro, h.inP, h.own.xt hx, h.blk, h.each.keep (fun b hb hlt _ _ => RowKit.Below.block hx b hlt) (fun _ h => h) hx.sz, h.sorted, h.many, h.few⟩
theorem SlOf.chg {α : Type} {w w' : World} {F : Nat → Prop} {enc : α → List Value} {sz : Nat} {v : Value} {l : List α} (h : SlOf w enc sz v l) (hx : Chg F w w') (hn : l ≠ [] → slIn (fun b => ¬ F b) v) : SlOf w' enc sz v l := by
  obtain ⟨a, cap, rfl, q1, q2, h2⟩ := h
  refine ⟨a, cap, rfl, q1, q2, fun hl => ?_⟩
  obtain ⟨b, off, rfl, hc⟩ := h2 hl
  refine ⟨b, off, rfl, fun k x hk i u hu => ?_⟩
  have h3 := hc k x hk i u hu
  exact (World.cell?_of_block (w := w) (a := ⟨b, off + k * sz + i, none⟩) (hx.block b (World.block_lt_of_cell? w _ h3) (hn hl _ _ _ rfl))).trans h3
theorem rset_of {w w0 w' : World} {px : Nat} {F : Nat → Prop} {M : Mp} {a : Ad} {u : List Ar} {e : Ending} (hx : Xt w w0) (h : RSetR w0 px F M a u e w') : RSetR w px F M a u e w' := by
  obtain ⟨h1, ⟨v, R, h2⟩, h3⟩ := h
  refine ⟨h1, ?_, Chg.trans hx.chg h3⟩
  refine Ref.keep ⟨v, R, h2⟩ (fun _ _ => rfl) (fun b hb => ?_) (Nat.le_refl _)
  rcases hb with hb | hb
  · exact Or.inl hb
  · exact Or.inr ⟨by have := hx.sz; omega, hb.2⟩
set_option maxRecDepth 100000 in
set_option maxHeartbeats 8000000 in
theorem rset21_any (px : Nat) (F : Nat → Prop) (M : Mp) (a : Ad) (v : Value) (u : List Ar) (w : World) (h : Ref w px F M) (hF : ∀ b, F b → b < w.heap.size) (hu : SlOf w arC 4 v u) (hun : u ≠ [] → slIn (fun b => ¬ F b) v) :
    Calls Try.prog 21 #[.pointer (some ⟨px, 0, none⟩), .agg #[.int .i64 a.1, .int .i64 a.2], v] w (RSetR w px F M a u) := by
  obtain ⟨i0, hi, hz0, hz1, hz2⟩ := info_parts info49
  have H := Lib.hid h
  have HF := Lib.hid hF
  have HU := Lib.hid hu
  have HUN := Lib.hid hun
  obtain ⟨sa, cap, rfl, q1, q2, hcc⟩ := hu
  have HC := Lib.hid hcc
  obtain ⟨w0, hw0, hb0, hs0, c0, c1⟩ := box1 w a.1 a.2 34
  have HX0 : Hid (Xt w w0) := hb0
  clear h hF hcc hb0 hun
  go_enter Try.func21, Try.ntmps21
  go_wp2_with fail
  clear hw0
  refine (rvalid_any _ _ _).mono ?_
  rintro e w1 ⟨rfl, hg1⟩
  have HX1 : Hid (Xt w w1) := HX0.out.trans hg1.xt
  have hs1 := hg1.xt.sz
  rw [← (hg1.xt.cells).1 _ _ (by omega)] at c0 c1
  clear hg1
  cases hva : validB a.1 a.2
  · have HE : Hid (setErr M a u = 20) := by show setErr M a u = 20; unfold setErr; rw [if_pos hva]
    go_wp2_with fail
    go_ret
    exact rsetR_no H.out HF.out HE.out (by decide) HX1.out
  · have HV := Lib.hid hva
    clear hva
    by_cases h256 : 256 < u.length
    · have HE : Hid (setErr M a u = 34) := by show setErr M a u = 34; unfold setErr; rw [if_neg (by rw [HV.out]; simp), if_pos h256]
      have h256' : (256 : Int) < (u.length : Int) := by omega
      go_wp2_with fail
      go_ret
      exact rsetR_no H.out HF.out HE.out (by decide) HX1.out
    · have h256' : ¬ (256 : Int) < (u.length : Int) := by omega
      go_wp2_with fail
      go_loopw [8] (fun s8 wr => ∃ k : Nat, k ≤ u.length ∧ s8 = .int .i64 k ∧ Hid ((u.take k).all validAr = true) ∧ Hid (Xt w1 wr)) (fun s8 _ => u.length - (intOf s8).toNat)
      case atStart => exact ⟨0, Nat.zero_le _, rfl, by unfold Hid; simp, Xt.refl _⟩
      case round =>
        obtain ⟨k, hk, rfl, HK, HX⟩ := hrel
        have hz := HX.out.sz
        by_cases hlt : k < u.length
        · obtain ⟨b', off, rfl, hcell⟩ := HC.out (by intro h; simp [h] at hlt)
          obtain ⟨x, hx⟩ : ∃ x, u[k]? = some x := ⟨u[k], by simp [hlt]⟩
          obtain ⟨d0, d1, d2, d3⟩ := ar_cells (hcell k x hx)
          have hb' : b' < w.heap.size := World.block_lt_of_cell? w _ d0
          have HX1r : Hid (Xt w wr) := HX1.out.trans HX.out
          rw [← (HX1r.out.cells).1 _ _ hb'] at d0 d1 d2 d3
          have HXx := Lib.hid hx
          clear hcell hx
          cases hv : validA x.1.1 x.1.2 x.2.1 x.2.2
          · go_wp2_with fail
            refine (rvalidArea_any _ _ _ _ _).mono ?_
            rintro e w2 ⟨rfl, hg2⟩
            rw [hv]
            go_wp2_with fail
            go_ret
            have he : setErr M a u = 1 := by unfold setErr; rw [if_neg (by rw [HV.out]; simp), if_neg h256, if_pos (all_no HXx.out hv)]
            exact rsetR_no H.out HF.out he (by decide) (HX1r.out.trans hg2.xt)
          · go_wp2_with fail
            refine (rvalidArea_any _ _ _ _ _).mono ?_
            rintro e w2 ⟨rfl, hg2⟩
            rw [hv]
            go_wp2_with fail
            go_roundw
            case rel => exact ⟨k + 1, by omega, by go_num, all_at HXx.out HK.out hv, HX.out.trans hg2.xt⟩
            case measure => simp [intOf]; omega
        · have hkl : k = u.length := by omega
          subst hkl
          have HA : Hid (u.all validAr = true) := by have := HK.out; rwa [List.take_length] at this
          have HXw : Hid (Xt w wr) := HX1.out.trans HX.out
          obtain ⟨vr, R, hR⟩ := H.out.xt HF.out HXw.out
          have HR := Lib.hid hR
          have hpl := HF.out px hR.inP
          have hM4 := hR.many
          have hpc := hR.cell
          have hpf := hR.fro
          have c0r := ((HX.out.cells).1 _ _ (by omega : w.heap.size < w1.heap.size)).trans c0
          have c1r := ((HX.out.cells).1 _ _ (by omega : w.heap.size < w1.heap.size)).trans c1
          have hrl := hR.rules
          clear hR HK c0 c1
          go_wp2_with fail
          refine (find49_any px vr M a wr hpc hrl hM4).mono ?_
          rintro e w3 ⟨k, t, rfl, hfi, hg3⟩
          have HFI := Lib.hid hfi
          have HX3 : Hid (Xt w w3) := HXw.out.trans hg3.xt
          have hx3 := hg3.xt
          have hprl : px < wr.heap.size := World.block_lt_of_cell? wr _ hpc
          have hs3 := hx3.sz
          rw [← (hx3.cells).1 _ _ hprl] at hpc
          rw [← (hx3.cells).2 _ _ hprl] at hpf
          rw [← (hx3.cells).1 _ _ (by omega)] at c0r c1r
          have HR3 : Hid (RefIs w3 px F M vr R) := ref_xt HR.out (fun b hb => by have := HF.out b hb; have := HXw.out.sz; omega) hx3
          have hF3 : ∀ b, F b → b < w3.heap.size := fun b hb => by have := HF.out b hb; have := HX3.out.sz; omega
          have HF3 := Lib.hid hF3
          have HU3 : Hid (SlOf w3 arC 4 (.slice sa u.length cap) u) := HU.out.xt HX3.out
          clear hfi hg3 hx3 hrl hF3 HR
          cases t
          · have hno := place_no HR3.out.sorted HFI.out.low (HFI.out.no rfl)
            have hRlen := HR3.out.each.1
            have hRI : (R.length : Int) = (M.length : Int) := by omega
            have HRL := Lib.hid hRlen
            obtain ⟨sv, cv, hv0, qv1, qv2, _⟩ := HR3.out.own.sl rlC_len
            subst hv0
            by_cases hfull : 4096 ≤ M.length
            · have he : setErr M a u = 41 := by unfold setErr; rw [if_neg (by rw [HV.out]; simp), if_neg h256, if_neg (by rw [HA.out]; simp), if_pos ⟨hno, hfull⟩]
              have HE := Lib.hid he
              have hf2 : (4096 : Int) ≤ (R.length : Int) := by omega
              clear hRlen hRI hno he
              go_wp2_with fail
              go_ret
              exact rsetR_no H.out HF.out HE.out (by decide) HX3.out
            · have he : setErr M a u = 0 := by unfold setErr; rw [if_neg (by rw [HV.out]; simp), if_neg h256, if_neg (by rw [HA.out]; simp), if_neg (fun h => hfull h.2)]
              have HE := Lib.hid he
              have hf2 : ¬ (4096 : Int) ≤ (R.length : Int) := by omega
              have hR4 : R.length ≤ 4095 := by omega
              have hkR : k ≤ R.length := by rw [hRlen]; exact HFI.out.le
              have hown : w3.ownsRow 0 49 3 (.slice sv R.length cv) R.length (R.flatMap rlC) := HR3.out.own
              have hpx3 : px < w3.heap.size := World.block_lt_of_cell? w3 _ hpc
              clear hRlen hRI hno he
              go_wp2_with (at_builtin; refine wpList_append_where _ rfl _ _ 22 rfl 49 i0 (.agg #[.int .i64 0, .int .i64 0, .slice none 0 0]) 3 40 Try.underlying22 hi hz0 hz1 hz2 rfl (by decide) _ _ _ rfl (hown.alloc _) ⟨w3.heap.size, 0, none⟩ 1 1 [.int .i64 0, .int .i64 0, .slice none 0 0] rfl rfl (news_at _ [.int .i64 0, .int .i64 0, .slice none 0 0] 49 (by simp)) (rlC_one ((0, 0), (none, 0, 0))) ?c4 ?c5 ?_)
              case c4 => unfold maxLen; omega
              case c5 => omega
              intro v1 w1 hown1 hg1 hwh
              have hsa : (w3.alloc (.cells #[.int .i64 0, .int .i64 0, .slice none 0 0] 49)).heap.size = w3.heap.size + 1 := by simp
              have hg1' : w3.grownBy w1 (Value.slice sv R.length cv).ownBlock := (World.grownBy_alloc w3 _ _).trans hg1
              have hs1w := hg1'.size
              have HO1 : Hid (OwnL w1 0 49 3 rlC v1 (R ++ [((0, 0), (none, 0, 0))])) := OwnL.snoc hown1
              have hpo : (Value.slice sv R.length cv).ownBlock ≠ some px := fun e => (HR3.out.blk px e).2 rfl
              have hp1 : w1.heap[px]? = w3.heap[px]? := hg1'.block px hpx3 (fun e => hpo e.symm)
              have hpc1 : w1.cell? ⟨px, 0, none⟩ = some (.slice sv R.length cv) := (World.cell?_of_block (w := w3) (a := ⟨px, 0, none⟩) hp1).trans hpc
              have hpf1 : w1.frozen? ⟨px, 0, none⟩ = false := by
                have := hpf
                unfold World.frozen? at this ⊢
                rw [hp1]; exact this
              obtain ⟨g, cg, hvg, _, hgc, hrow⟩ := RowL.of_own HO1.out rlC_len (by simp)
              rw [List.length_append] at hvg
              simp only [List.length_cons, List.length_nil, Nat.zero_add] at hvg
              subst hvg
              have hgb : (Value.slice sv R.length cv).ownBlock = some g ∨ w3.heap.size + 1 ≤ g := by
                rcases hwh with h | h
                · exact Or.inl (h.symm.trans rfl)
                · exact Or.inr (by have := h g rfl; omega)
              have hgp : g ≠ px := by
                rcases hgb with h | h
                · exact (HR3.out.blk g h).2
                · omega
              have hgl : g < w1.heap.size := by obtain ⟨cur, hgc, _⟩ := hrow; exact (Array.getElem?_eq_some_iff.1 hgc).1
              have hcg : cg ≤ 9223372036854775807 := by unfold maxLen at hgc; omega
              have hrow2 : RowL (w1.setCell ⟨px, 0, none⟩ (.slice (some ⟨g, 0, none⟩) (R.length + 1) cg)) g 49 cg 3 rlC (R ++ [((0, 0), (none, 0, 0))]) := hrow.of_heap (Below.heap_setCell _ _ _ _ hgp)
              have c0w : (w1.setCell ⟨px, 0, none⟩ (.slice (some ⟨g, 0, none⟩) (R.length + 1) cg)).cell? ⟨w.heap.size, 0, none⟩ = some (.int .i64 a.1) := by
                rw [World.cell?_setCell_far _ _ _ _ (by show px ≠ w.heap.size; omega)]
                exact (World.cell?_of_block (w := w3) (a := ⟨w.heap.size, 0, none⟩) (hg1'.block w.heap.size (by omega) (fun e => by have := HF.out w.heap.size (HR3.out.blk w.heap.size e.symm).1; omega))).trans c0r
              have c1w : (w1.setCell ⟨px, 0, none⟩ (.slice (some ⟨g, 0, none⟩) (R.length + 1) cg)).cell? ⟨w.heap.size, 1, none⟩ = some (.int .i64 a.2) := by
                rw [World.cell?_setCell_far _ _ _ _ (by show px ≠ w.heap.size; omega)]
                exact (World.cell?_of_block (w := w3) (a := ⟨w.heap.size, 1, none⟩) (hg1'.block w.heap.size (by omega) (fun e => by have := HF.out w.heap.size (HR3.out.blk w.heap.size e.symm).1; omega))).trans c1r
              have pcw : (w1.setCell ⟨px, 0, none⟩ (.slice (some ⟨g, 0, none⟩) (R.length + 1) cg)).cell? ⟨px, 0, none⟩ = some (.slice (some ⟨g, 0, none⟩) (R.length + 1) cg) := by
                exact World.cell?_setCell_same' w1 _ _ (by rw [hpc1]; rfl)
              obtain ⟨wP, hwP⟩ : ∃ wP, w1.setCell ⟨px, 0, none⟩ (.slice (some ⟨g, 0, none⟩) (R.length + 1) cg) = wP := ⟨_, rfl⟩
              rw [hwP] at hrow2 c0w c1w pcw
              have hPs : wP.heap.size = w1.heap.size := by rw [← hwP]; simp
              have hPb : ∀ b, b ≠ px → wP.heap[b]? = w1.heap[b]? := fun b hb => by rw [← hwP]; exact Below.heap_setCell _ _ _ _ hb
              have hPo : wP.os = w1.os ∧ wP.tape = w1.tape ∧ wP.output = w1.output := by rw [← hwP]; exact ⟨rfl, rfl, rfl⟩
              have hpfP : wP.frozen? ⟨px, 0, none⟩ = false := by rw [← hwP]; simp [hpf1]
              have hrd : RowL wP.drew g 49 cg 3 rlC (R ++ [((0, 0), (none, 0, 0))]) := hrow2
              obtain ⟨vd, vs, w5, hsh⟩ := shift_run (T := 22) (n := R.length) (k := k) Try.underlying22 rfl (fun w => by kernel_rfl) hi hz1 (by omega) rlC_len (fun x => rlC_one x) hrd (by simp) hkR hcg
              have sd := hsh.hd
              have ss := hsh.hs
              have sr := hsh.run
              have HSH := Lib.hid hsh
              have e1 : IntKind.i64.wrap ((k : Int) + 1) = (k : Int) + 1 := wrap_succ (by omega)
              have hgr5 : wP.drew.grownBy w5 (some g) := hsh.row.out.2
              have hs5 := hsh.size
              have hch : Chg F w3 w5 := by
                have k1 : Chg F w3 w1 := chg_grown (Chg.refl F w3) hg1' (fun q hq => Or.inr (HR3.out.blk q hq).1)
                have k2 : Chg F w3 wP := ⟨hPo.1.trans k1.os, hPo.2.1.trans k1.tape, hPo.2.2.trans k1.output, by have := k1.size; omega, fun b hb hn => (hPb b (fun e => hn (e ▸ HR3.out.inP))).trans (k1.block b hb hn)⟩
                refine chg_grown k2.drew hgr5 (fun q hq => ?_)
                cases hq
                rcases hgb with h | h
                · exact Or.inr (HR3.out.blk g h).1
                · exact Or.inl (by omega)
              have hkeep : ∀ b, F b → b ≠ px → (Value.slice sv R.length cv).ownBlock ≠ some b → w5.heap[b]? = w3.heap[b]? := by
                intro b hb hne hob
                have hbl := HF3.out b hb
                have hbg : b ≠ g := by
                  rintro rfl
                  rcases hgb with h | h
                  · exact hob h
                  · omega
                exact (hgr5.block b (by show b < wP.heap.size; omega) (fun e => hbg (by cases e; rfl))).trans ((hPb b hne).trans (hg1'.block b hbl (fun e => hob e.symm)))
              have p5 : w5.heap[px]? = wP.heap[px]? := hgr5.block px (by show px < wP.heap.size; omega) (fun e => hgp (by cases e; rfl))
              have pc5 : w5.cell? ⟨px, 0, none⟩ = some (.slice (some ⟨g, 0, none⟩) (R.length + 1) cg) := (World.cell?_of_block (w := wP) (a := ⟨px, 0, none⟩) p5).trans pcw
              have pf5 : w5.frozen? ⟨px, 0, none⟩ = false := by
                have := hpfP
                unfold World.frozen? at this ⊢
                rw [p5]; exact this
              have hgw : w.heap.size ≠ g := by
                rintro rfl
                rcases hgb with h | h
                · have := HF.out _ (HR3.out.blk _ h).1; omega
                · omega
              have b5 : w5.heap[w.heap.size]? = wP.heap[w.heap.size]? := hgr5.block w.heap.size (by show w.heap.size < wP.heap.size; omega) (fun e => hgw (by cases e; rfl))
              have c05 : w5.cell? ⟨w.heap.size, 0, none⟩ = some (.int .i64 a.1) := (World.cell?_of_block (w := wP) (a := ⟨w.heap.size, 0, none⟩) b5).trans c0w
              have c15 : w5.cell? ⟨w.heap.size, 1, none⟩ = some (.int .i64 a.2) := (World.cell?_of_block (w := wP) (a := ⟨w.heap.size, 1, none⟩) b5).trans c1w
              have hL2 : ((R ++ [((0, 0), (none, 0, 0))]).take (k + 1) ++ ((R ++ [((0, 0), (none, 0, 0))]).drop k).take (R.length - k) : List (Ad × SV)).length = R.length + 1 := by
                rw [List.length_append, List.length_take, List.length_take, List.length_drop, List.length_append]; simp; omega
              have hp := place_ins (w1 := w3.alloc (.cells #[.int .i64 0, .int .i64 0, .slice none 0 0] 49)) HR3.out HF3.out HFI.out HE.out HSH.out.row.out.1 hL2 (fun x => shift_list rfl hkR) hgc pc5 pf5 (by rw [hsa]; exact hgb) ((Xt.refl _).alloc _) hch hkeep (by omega)
              have HP := Lib.hid hp
              obtain ⟨z, hz⟩ : ∃ z, ((R ++ [((0, 0), (none, 0, 0))]).take (k + 1) ++ ((R ++ [((0, 0), (none, 0, 0))]).drop k).take (R.length - k) : List (Ad × SV))[k]? = some z := ⟨_, List.getElem?_eq_getElem (by rw [hL2]; omega)⟩
              have hu5 : SlOf w5 arC 4 (.slice sa u.length cap) u := HU3.out.chg hch HUN.out
              have hsort := sort_for hp hu5 (by omega) hz c05 c15
              have HSO := Lib.hid hsort
              have HPF := Lib.hid hpfP
              have px5 := pc5
              clear hown hown1 hg1 hg1' hwh hsa HO1 hp1 hrow hrow2 hgb hgc hch hkeep p5 pf5 hL2 hp hz hu5 hsort hsh hrd hPb hPo b5 pc5 hpfP
              go_wp2_with fail
              clear hwP
              refine wp_region_still_tail 13 (by kernel_rfl) (by kernel_rfl) ?_
              change wpStill _ _ (World.drew _) _ _ _
              simp only [List.take_succ_cons, List.take_zero, List.drop_succ_cons, List.drop_zero]
              iterate 13 still_step
              refine wpStill_nil ?_
              change wpList _ _ _ _ _ (World.drew _)
              refine wpList_step (fun K hK => ?_)
              go_simp
              refine hK _ _ ?_
              clear hK K sd ss sr e1
              have hki : (k : Int) < (R.length : Int) + 1 := by omega
              have hkn : k < R.length + 1 := by omega
              go_wp2_with fail
              go_region_with (go_at_call 50; refine (HSO.out).mono ?_; rintro e w4 ⟨s, rfl, k0, k1, k2, k3, k4, k5, f0, f1, f2, HH⟩)
              all_goals
                go_wp2_with fail
                go_ret
                exact rset_of HX3.out (set_laid HP.out HH)
          · have he : setErr M a u = 0 := by
              obtain ⟨l0, hl0⟩ := HFI.out.yes rfl
              have := (place_yes HFI.out.low hl0).1
              unfold setErr
              rw [if_neg (by rw [HV.out]; simp), if_neg h256, if_neg (by rw [HA.out]; simp), if_neg (by rw [this]; simp)]
            obtain ⟨sv, cv, hv0, _⟩ := HR3.out.own.sl rlC_len
            have hRlen := HR3.out.each.1
            have hkM : k < M.length := by obtain ⟨l0, hl0⟩ := HFI.out.yes rfl; exact (List.getElem?_eq_some_iff.1 hl0).1
            have hkR : k < R.length := by omega
            obtain ⟨g, cg, hvg, _, _, _⟩ := RowL.of_own HR3.out.own rlC_len (by intro e; subst e; simp at hkR)
            subst hvg
            have hp := place_set HR3.out HF3.out HFI.out he (Xt.refl w3) (by omega)
            have HP := Lib.hid hp
            obtain ⟨z, hz⟩ : ∃ z, R[k]? = some z := ⟨R[k], by simp⟩
            have hsort := sort_for hp HU3.out (by omega) hz c0r c1r
            have HSO := Lib.hid hsort
            have hR4 : R.length ≤ 4096 := hp.n4
            clear he hv0 hRlen hkM hp hz hsort
            go_wp2_with fail
            go_region_with (go_at_call 50; refine (HSO.out).mono ?_; rintro e w4 ⟨s, rfl, k0, k1, k2, k3, k4, k5, f0, f1, f2, HH⟩)
            all_goals
              go_wp2_with fail
              go_ret
              exact rset_of HX3.out (set_laid HP.out HH)
end Go.Proofs.Ytagfgkcipomopaa
