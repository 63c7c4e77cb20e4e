import Derived.Test.YtagfgkcipomopaaL22
import Derived.Test.YtagfgkcipomopaaW38
import Derived.Test.YtagfgkcipomopaaW36
namespace Go.Proofs.Ytagfgkcipomopaa
open Go.RowKit Go.Sort

/-! ### set -/
theorem chg_cell {F : Nat → Prop} {w w' : World} (h : Chg F w w') {b o : Nat} (hb : b < w.heap.size) (hn : ¬ F b) : w'.cell? ⟨b, o, none⟩ = w.cell? ⟨b, o, none⟩ := World.cell?_of_block (w := w) (a := ⟨b, o, none⟩) (h.block b hb hn)
set_option maxRecDepth 100000 in
set_option maxHeartbeats 8000000 in
theorem set55_any (pb bm px : Nat) (F : Nat → Prop) (M : Mp) (o : OpS) (v : OpV) (w : World) (h : Pr w pb bm px F M) (ho : OpIs w o v) (hout : OpOut F o v) :
    Calls Try.prog 55 #[.pointer (some ⟨pb, 0, none⟩), .pointer (some ⟨px, 0, none⟩), opV o v] w (StpR w pb bm px F) := by
  obtain ⟨i0, hi, hz0, hz1, hz2⟩ := info_parts info41
  have H := Lib.hid h
  have HO := Lib.hid ho
  have HUN : Hid (o.uses ≠ [] → slIn (fun b => ¬ F b) v.uv) := hout.uses
  have huf := ho.ufew
  obtain ⟨kind, on, a, ll, us, pk⟩ := o
  obtain ⟨lv, uv, pv⟩ := v
  simp only at huf
  obtain ⟨w1, hw1, hx1, hs1, c0, c1, c2, c3, c4, c5, c6⟩ := box7 w kind on a.1 a.2 lv uv pv 61
  obtain ⟨bo, hbo⟩ : ∃ n, w.heap.size = n := ⟨_, rfl⟩
  have HBO := Lib.hid hbo
  rw [hbo] at c2 c3 c5 hs1
  have HX1 := Lib.hid hx1
  have hU1 : SlOf w1 arC 4 uv us := ho.uses.xt hx1
  have hbF : ¬ F bo := fun hf => by have := h.lt bo hf; omega
  obtain ⟨v2, w2, hr2, hown2, hg2⟩ := app_list (S := 42) (base := w1.heap.size) (w := w1) Try.underlying42 hi hz0 hz1 hz2 rfl (by decide) arC_len arC_one (show OwnL w1 w1.heap.size 41 4 arC (.slice none 0 0) [] from World.ownsRow_nil _ _ _ _) hU1 (Nat.le_refl _) 42 (by unfold maxLen; simp; omega) (by simp; omega)
  rw [List.nil_append] at hown2
  have hx2 : Xt w1 w2 := Below.grown (Below.refl _ w1) hg2 (Nat.le_refl _) (fun q hq => by cases hq)
  have hs2 := hx2.sz
  have HX2 : Hid (Xt w w2) := hx1.trans hx2
  have c2' := ((hx2.cells).1 bo 2 (by omega)).trans c2
  have c3' := ((hx2.cells).1 bo 3 (by omega)).trans c3
  have c5' := ((hx2.cells).1 bo 5 (by omega)).trans c5
  have hown2' : w2.ownsRow w1.heap.size 41 4 v2 us.length (us.flatMap arC) := hown2
  obtain ⟨ua, uc, rfl, u1, u2, u3⟩ := hU1
  clear hown2 hg2 hx1 c0 c1 c4 c6 u3 ho hout h
  simp only [opV]
  go_enter Try.func55, Try.ntmps55
  go_wp2_with (at_builtin; first | refine wpList_append_eq rfl _ _ 42 rfl _ _ rfl rfl hr2 ?_ | refine wpList_append_own _ rfl _ _ 42 rfl w1.heap.size 41 i0 (.agg #[.int .i64 0, .int .i64 0, .int .i64 0, .int .i64 0]) 4 32 Try.underlying42 hi hz0 hz1 hz2 rfl (by decide) _ _ _ rfl (hown2'.alloc _) ⟨w2.heap.size, 0, none⟩ 1 1 [.int .i64 3, .int .i64 0, .int .i64 0, .int .i64 0] rfl rfl (news_at _ [.int .i64 3, .int .i64 0, .int .i64 0, .int .i64 0] 41 (by simp)) (arC_one ((3, 0), (0, 0))) ?c4 ?c5 ?c6 ?_)
  case c4 => unfold maxLen; omega
  case c5 => omega
  case c6 => first | omega | (simp; omega)
  intro v3 w3 hown3 hg3 _
  have hg3' : w2.grownBy w3 v2.ownBlock := (World.grownBy_alloc w2 _ _).trans hg3
  have hx3 : Xt w1 w3 := Below.grown hx2 hg3' hs2 (fun q hq => (World.ownsRow.lt hown2' q hq).1)
  have hown3' : OwnL w3 w1.heap.size 41 4 arC v3 (us ++ [((3, 0), (0, 0))]) := OwnL.snoc (by rw [hs1]; exact hown3)
  have HX3 : Hid (Xt w w3) := HX1.out.trans hx3
  have HX13 := Lib.hid hx3
  obtain ⟨g, cg, hvg, hgb, hgc, hrow3⟩ := RowL.of_own hown3' arC_len (by simp)
  rw [List.length_append, List.length_singleton] at hvg
  subst hvg
  have hgl3 : g < w3.heap.size := by obtain ⟨cur, hgc, _⟩ := hrow3; exact (Array.getElem?_eq_some_iff.1 hgc).1
  have HROW3 := Lib.hid hrow3
  have hsl_of : ∀ W, RowL W g 41 cg 4 arC (us ++ [((3, 0), (0, 0))]) → SlOf W arC 4 (.slice (some ⟨g, 0, none⟩) us.length cg) us := fun W hW => by
    have h1 := (hW.own arC_len hgc (Nat.zero_le g) us.length (by simp)).sl arC_len
    rw [List.take_left] at h1
    exact h1
  have HSLO := Lib.hid hsl_of
  have htorun := to_addr (g := g) (cap := cg) (n := us.length + 1) (T := 42) (E := 41) (K := 4) Try.underlying42 rfl (fun w => by kernel_rfl) us.length (by obtain ⟨_, _, _, q, _⟩ := hrow3; simp at q; omega)
  have hs13 := hx3.sz
  have c23 := ((hx3.cells).1 bo 2 (by omega)).trans c2
  have c33 := ((hx3.cells).1 bo 3 (by omega)).trans c3
  have c53 := ((hx3.cells).1 bo 5 (by omega)).trans c5
  -- Set, on both
  obtain ⟨F1, F2, hL, hR, hF1, hF2⟩ := (H.out.xt HX3.out).two
  have HF1 := Lib.hid hF1
  have HF2 := Lib.hid hF2
  have HL := Lib.hid hL
  have HR := Lib.hid hR
  have HLT3 : Hid (∀ b, F b → b < w3.heap.size) := fun b hb => by have := H.out.lt b hb; have := HX3.out.sz; omega
  have hbl3 : bo < w3.heap.size := by omega
  have hgF : ¬ F g := fun hf => by have := H.out.lt g hf; have := HX1.out.sz; omega
  have HGF : Hid (¬ F g) := hgF
  have HBF : Hid (¬ F bo) := hbF
  have hset := set16_any pb bm F1 M a (.slice (some ⟨g, 0, none⟩) us.length cg) us w3.drew (hL.xt (fun b hb => by have := HLT3.out b (hF1 b hb).1; exact this) (Xt.refl _).drew) (fun b hb => HLT3.out b (hF1 b hb).1) ((hsl_of w3 hrow3).xt (Xt.refl _).drew)
  have HSET := Lib.hid hset
  have D : Hid (w3.cell? ⟨bo, 2, none⟩ = some (.int .i64 a.1) ∧ w3.cell? ⟨bo, 3, none⟩ = some (.int .i64 a.2) ∧ w3.cell? ⟨bo, 5, none⟩ = some (.slice ua us.length uc)) := ⟨c23, c33, c53⟩
  clear hr2 c2' c3' c5' c2 c3 c5 hown2' hown3 hown3' hg3 hg3' hx3 hx2 hrow3 hsl_of hL hR hF1 hF2 hset hgF hbF
  go_wp2_with fail
  refine wp_region_still_tail 8 (by kernel_rfl) (by kernel_rfl) ?_
  change wpStill _ _ (World.drew _) _ _ _
  simp only [List.take_succ_cons, List.take_zero, List.drop_succ_cons, List.drop_zero]
  iterate 8 still_step
  refine wpStill_nil ?_
  change wpList _ _ _ _ _ (World.drew _)
  refine wpList_step (fun K hK => ?_)
  go_simp
  refine (HSET.out).mono ?_
  rintro e w4 hset4
  have hset4' : SetR w3 pb bm F1 M a us e w4 := ⟨hset4.1, hset4.2.1, ⟨hset4.2.2.os, hset4.2.2.tape, hset4.2.2.output, hset4.2.2.size, hset4.2.2.block⟩⟩
  have HS4 := Lib.hid hset4'
  have hg4 : w3.grownBy w4 (some bm) := hset4'.2.2
  obtain ⟨rfl, _, _⟩ := hset4
  refine hK _ _ ?_
  clear hK K c23 c33 c53
  have hbmF : F bm := (HF1.out bm HL.out.inM).1
  have hbb : bo ≠ bm := fun e => HBF.out (by rw [e]; exact hbmF)
  have hgbm : g ≠ bm := fun e => HGF.out (by rw [e]; exact hbmF)
  have hs4 := hg4.size
  obtain ⟨q2, q3, q5⟩ := D.out
  have c24 := (cell_grown hg4 hbl3 hbb).trans q2
  have c34 := (cell_grown hg4 hbl3 hbb).trans q3
  have c54 := (cell_grown hg4 hbl3 hbb).trans q5
  have hc34 : Chg F w3 w4 := chg_grown (Chg.refl F w3) hg4 (fun g h => by cases h; exact Or.inr hbmF)
  have hR4 : Ref w4 px F2 M := ref_grown HR.out (fun b hb => HLT3.out b (HF2.out b hb)) HL.out.inM (fun b hb => (HF1.out b hb).2) hg4
  have hU4 : SlOf w4 arC 4 (.slice ua us.length uc) us := (HO.out.uses.xt HX3.out).chg hc34 HUN.out
  have hrset := rset21_any px F2 M a (.slice ua us.length uc) us w4 hR4 (fun b hb => by have := HLT3.out b (HF2.out b hb); omega) hU4 (fun hne ad n c e hf => HUN.out hne ad n c e (HF2.out _ hf))
  have HRSET := Lib.hid hrset
  clear q2 q3 q5 hrset hR4 hU4 hc34 hg4
  go_wp2_with fail
  refine (HRSET.out).mono ?_
  rintro e w5 hset5
  have HS5 := Lib.hid hset5
  obtain ⟨rfl, _, _⟩ := hset5
  have hpair := pair_set HF1.out HF2.out HLT3.out HL.out H.out.vm HS4.out HS5.out
  have HP5 := Lib.hid hpair.1
  have HC5 : Hid (Chg F w3 w5) := hpair.2
  have hs5 := hpair.2.size
  generalize setErr M a us = er
  generalize setTo M a us = M' at HP5 hpair
  have c55 : w5.cell? ⟨bo, 5, none⟩ = some (.slice ua us.length uc) := (chg_cell HC5.out hbl3 HBF.out).trans D.out.2.2
  have HROW5 : Hid (RowL w5 g 41 cg 4 arC (us ++ [((3, 0), (0, 0))])) := HROW3.out.of_heap (HC5.out.block g hgl3 HGF.out)
  have HU5 : Hid (SlOf w5.drew arC 4 (.slice ua us.length uc) us) := ((HO.out.uses.xt HX3.out).chg HC5.out HUN.out).xt (Xt.refl _).drew
  have HT5 : Hid (SlOf w5.drew arC 4 (.slice (some ⟨g, 0, none⟩) us.length cg) us) := (HSLO.out w5 HROW5.out).xt (Xt.refl _).drew
  clear hpair c24 c34 c54
  go_wp2_with fail
  refine wp_region_still_tail 7 (by kernel_rfl) (by kernel_rfl) ?_
  change wpStill _ _ (World.drew _) _ _ _
  simp only [List.take_succ_cons, List.take_zero, List.drop_succ_cons, List.drop_zero]
  iterate 7 still_step
  refine wpStill_nil ?_
  change wpList _ _ _ _ _ (World.drew _)
  refine wpList_step (fun K hK => ?_)
  go_simp
  refine (areas34_any _ _ us us _ HT5.out HU5.out).mono ?_
  rintro e w6 ⟨rfl, hg6⟩
  rw [decide_eq_true (rfl : us = us)]
  refine hK _ _ ?_
  clear hK K htorun
  have HX6 : Hid (Xt w5 w6) := xt_drew hg6.xt
  have hbl5 : bo < w5.heap.size := by omega
  have hgl5 : g < w5.heap.size := by omega
  have c56 := ((HX6.out.cells).1 bo 5 hbl5).trans c55
  have HROW6 : Hid (RowL w6 g 41 cg 4 arC (us ++ [((3, 0), (0, 0))])) := HROW5.out.of_heap (RowKit.Below.block HX6.out g hgl5)
  obtain ⟨m0, m1, m2, m3⟩ := ar_cells (HROW6.out.cell (j := us.length) (x := ((3, 0), (0, 0))) (by simp))
  have hni : (us.length : Int) < (us.length : Int) + 1 := by omega
  have heq : ∀ W, (binOp .eql 41 (.agg #[.int .i64 3, .int .i64 0, .int .i64 0, .int .i64 0]) (.agg #[.int .i64 3, .int .i64 0, .int .i64 0, .int .i64 0])).run Try.prog W = .ok (.bool true) W := fun W => by rw [eql41]; simp
  clear hg6 c55
  go_wp2_with fail
  clear heq m0 m1 m2 m3
  go_loopw [11] (fun s11 wr => ∃ i : Nat, i ≤ us.length + 1 ∧ s11 = .int .i64 i ∧ Hid (∃ d : List Ar, d.length = us.length + 1 ∧ RowL wr g 41 cg 4 arC d) ∧ Hid (w6.grownBy wr (some g))) (fun s11 _ => us.length + 1 - (intOf s11).toNat)
  case atStart => exact ⟨0, Nat.zero_le _, rfl, ⟨_, by simp, HROW6.out⟩, ⟨rfl, rfl, rfl, Nat.le_refl _, fun _ _ _ => rfl⟩⟩
  case round =>
    obtain ⟨i, hi', rfl, HD, HG⟩ := hrel
    by_cases hlt : i < us.length + 1
    · obtain ⟨d, hdl, hrow⟩ := HD.out
      obtain ⟨z, hz⟩ : ∃ z, d[i]? = some z := ⟨d[i]'(by omega), by simp⟩
      obtain ⟨z0, z1, z2, z3⟩ := ar_cells (hrow.cell hz)
      have f0 := hrow.froz (i * 4)
      have f1 := hrow.froz (i * 4 + 1)
      have f2 := hrow.froz (i * 4 + 2)
      have f3 := hrow.froz (i * 4 + 3)
      have hki : (i : Int) < (us.length : Int) + 1 := by omega
      have HROW := Lib.hid hrow
      have HDL := Lib.hid hdl
      clear hrow hz hdl
      go_wp2_with fail
      go_roundw
      case rel =>
        refine ⟨i + 1, by omega, by go_num, ⟨d.set i ((1, 1), (256, 4096)), by rw [List.length_set]; exact HDL.out, ?_⟩, ?_⟩
        · exact HROW.out.set arC_len (j := i) (by rw [HDL.out]; exact hlt) ((1, 1), (256, 4096))
        · exact gb_trans HG.out (setCells_grown g (arC ((1, 1), (256, 4096))) (i * 4) wr)
      case measure => simp [intOf]; omega
    · go_wp2_with fail
      go_ret
      have hsw := HX3.out.sz
      have hs6 := HX6.out.sz
      have hsr := HG.out.size
      have hP6 := HP5.out.xt HX6.out
      have hgn : ∀ b, (F b ∨ (w3.heap.size ≤ b ∧ b < w5.heap.size)) → b ≠ g := by
        intro b hb e
        subst e
        rcases hb with hb | hb
        · exact HGF.out hb
        · omega
      have hcF : Chg F w wr := chg_grown (((HX3.out.chg (F := F)).trans HC5.out).trans HX6.out.chg) HG.out (fun q hq => by cases hq; have := HX1.out.sz; exact Or.inl (by omega))
      exact ⟨rfl, M', _, hP6.keep (fun b hb => HG.out.block b (hP6.lt b hb) (fun e => hgn b hb (by cases e; rfl))) hsr, fun b hb => by
        rcases hb with hb | hb
        · exact Or.inl hb
        · exact Or.inr ⟨by omega, by omega⟩, hcF⟩
end Go.Proofs.Ytagfgkcipomopaa
