import Derived.Test.YtagfgkcipomopaaW29
namespace Go.Proofs.Ytagfgkcipomopaa
open Go.RowKit Go.Sort

/-! ### the document's Circle -/
theorem key_take {M : Mp} {k : Nat} {x : Ad × List Ar} (h : M[k]? = some x) : (M.map (·.1))[k]? = some x.1 := by rw [List.getElem?_map, h]; rfl
set_option maxRecDepth 100000 in
set_option maxHeartbeats 8000000 in
theorem rcircle23_any (px : Nat) (v : Value) (M : Mp) (w : World) (hp : w.cell? ⟨px, 0, none⟩ = some v) (hR : RulesOf w v M) (hs : SortedM M) (hv : VM M) (hm : M.length ≤ 4096) :
    Calls Try.prog 23 #[.pointer (some ⟨px, 0, none⟩)] w (CircR w M) := by
  obtain ⟨i0, hi, hz0, hz1, hz2⟩ := info_parts info34
  have hpx : px < w.heap.size := World.block_lt_of_cell? w _ hp
  have HR := Lib.hid hR
  have HS := Lib.hid hs
  have HV := Lib.hid hv
  have HP := Lib.hid hp
  have HAL : Hid (∀ a b, onM M a b = true → a ∈ M.map (·.1)) := fun a b h => onM_key h
  obtain ⟨sv, cap, rfl, qa, qb, hcc⟩ := hR
  have HCC := Lib.hid hcc
  clear hcc hs hv
  go_enter Try.func23, Try.ntmps23
  go_wp2_with fail
  go_loopw [4] (fun s4 wr => ∃ k : Nat, k ≤ M.length ∧ s4 = .int .i64 k ∧ Hid (circleM M = circGo M (M.map (·.1)) ((M.map (·.1)).drop k)) ∧ Hid (Xt w wr)) (fun s4 _ => M.length - (intOf s4).toNat)
  case atStart => exact ⟨0, Nat.zero_le _, rfl, rfl, Xt.refl _⟩
  case round =>
    obtain ⟨k, hk, rfl, HGo, HX⟩ := hrel
    have hzr := HX.out.sz
    have hp0 := ((HX.out.cells).1 px 0 hpx).trans HP.out
    clear hp
    by_cases hlt : k < M.length
    · obtain ⟨t, ht⟩ : ∃ t, M[k]? = some t := ⟨M[k], by simp [hlt]⟩
      have HT := Lib.hid ht
      have hfar := far52_any px k (.slice sv M.length cap) M t wr hp0 (HR.out.xt HX.out) HS.out HV.out hm ht
      have HFAR := Lib.hid hfar
      clear hfar ht
      go_wp2_with fail
      refine (HFAR.out).mono ?_
      rintro e w2 ⟨gf, rfl, hgf, hI, hx2⟩
      have HI := Lib.hid hI
      have HX2 : Hid (Xt w w2) := HX.out.trans hx2
      have hcf := hI.cell hlt
      try simp only at hcf
      have hkt : keyM M k = t.1 := keyM_at HT.out
      rw [hkt] at hcf
      have hki : (k : Int) < (M.length : Int) := by omega
      have hzw2 := hx2.sz
      have hglt := hI.lt
      clear hI hkt hp0
      have hp2 := ((HX2.out.cells).1 px 0 hpx).trans HP.out
      by_cases h0 : dist M t.1 t.1 = 0
      · rw [h0] at hcf
        have H0 := Lib.hid h0
        clear h0
        go_wp2_with fail
        go_roundw
        case rel =>
          refine ⟨k + 1, by omega, by go_num, ?_, HX2⟩
          have := HGo.out
          rw [drop_step (key_take HT.out)] at this
          show circleM M = _
          rw [this]
          conv => lhs; unfold circGo
          rw [if_pos H0.out]
        case measure => simp [intOf]; omega
      · obtain ⟨d, hd⟩ : ∃ d, dist M t.1 t.1 = d + 1 := ⟨dist M t.1 t.1 - 1, by omega⟩
        rw [hd] at hcf
        have HD := Lib.hid hd
        have hdl : d ≤ 4096 := by
          obtain ⟨_, _, q3, q4, q5⟩ := chain_ok HAL.out d t.1 hd
          have := nodup_len (List.nodup_cons.1 q3).2 q5
          rw [List.length_map] at this
          omega
        have hne : (((d + 1 : Nat) : Int) == 0) = false := by rw [beq_eq_false_iff_ne]; omega
        obtain ⟨bv, ov, rfl, hcell⟩ := HCC.out (by intro e; subst e; simp at hlt)
        have HC := Lib.hid hcell
        obtain ⟨d0, d1, _⟩ := hcell k t HT.out
        have hbv : bv < w.heap.size := World.block_lt_of_cell? w _ d0
        have d0r := ((HX2.out.cells).1 bv _ hbv).trans d0
        have d1r := ((HX2.out.cells).1 bv _ hbv).trans d1
        have hcf2 : (w2.alloc (.cells #[.int .i64 t.1.1, .int .i64 t.1.2] 34)).cell? ⟨gf, k, none⟩ = some (.int .i64 ((d + 1 : Nat) : Int)) := (((Xt.refl w2).alloc (.cells #[.int .i64 t.1.1, .int .i64 t.1.2] 34)).cells.1 gf k hglt).trans hcf
        clear h0 hd hcell d0 d1
        go_wp2_with fail
        have hown : OwnL (w2.alloc (.cells #[.int .i64 t.1.1, .int .i64 t.1.2] 34)) w2.heap.size 34 2 adC (.slice (some ⟨w2.heap.size, 0, none⟩) 1 1) [t.1] := by
          refine ⟨rfl, Or.inr ⟨w2.heap.size, 1, #[.int .i64 t.1.1, .int .i64 t.1.2], rfl, Nat.le_refl _, ?_, Nat.le_refl _, by unfold maxLen; omega, rfl, rfl⟩⟩
          exact (MapKept.heap_alloc w2 _).1
        obtain ⟨wC, hwC⟩ : ∃ wC, w2.alloc (Obj.cells #[Value.int IntKind.i64 t.1.fst, Value.int IntKind.i64 t.1.snd] 34) = wC := ⟨_, rfl⟩
        have hxC : Xt w2 wC := by rw [← hwC]; exact (Xt.refl _).alloc _
        rw [hwC] at hown ⊢
        have HO := Lib.hid hown
        have HXC := Lib.hid hxC
        clear hwC hown hxC d0r d1r hcf hcf2 hp2 hne
        obtain ⟨B, hB⟩ : ∃ n, w2.heap.size = n := ⟨_, rfl⟩
        rw [hB] at HO hglt hzw2 ⊢
        have HBB := Lib.hid hB
        clear hB
        have hb0 : (((d : Nat) : Int) + 1 == 0) = false := by rw [beq_eq_false_iff_ne]; omega
        rw [hb0]
        go_loopw [6, 7, 8] (fun s6 s7 s8 wr => ∃ (m : Nat) (pre : List Ad) (x : Ad) (ia : Nat), m ≤ d ∧ s8 = .int .i64 m ∧ s7 = .int .i64 ia ∧ ia < M.length ∧ s6 = .slice (slAt s6) (pre.length + 1) (slCap s6) ∧ Hid (keyM M ia = x) ∧ Hid (pre.length + m ≤ d) ∧ Hid (OwnL wr B 34 2 adC s6 (pre ++ [x])) ∧ Hid (pre ++ x :: chainM M (dist M t.1) (M.map (·.1)) m x = t.1 :: chainM M (dist M t.1) (M.map (·.1)) d t.1) ∧ Hid (Xt w2 wr)) (fun _ _ s8 _ => (intOf s8).toNat)
        case atStart => exact ⟨d, [], t.1, k, Nat.le_refl _, by go_num, rfl, hlt, rfl, keyM_at HT.out, by show 0 + d ≤ d; omega, HO, rfl, HXC⟩
        case round =>
          obtain ⟨m, pre, x, ia, hmd, rfl, rfl, hia, hv6, HKI, HPL, HO8, HCH, HX8⟩ := hrel
          generalize slAt u6 = a6 at *
          generalize slCap u6 = c6 at *
          subst hv6
          rcases Nat.eq_zero_or_pos m with hm0 | hmp
          · subst hm0
            go_wp2_with fail
            go_ret2
            have hch := HCH.out
            have hg := HGo.out
            rw [drop_step (key_take HT.out)] at hg
            have hc : circleM M = (pre ++ [x], true) := by
              rw [hg]
              conv => lhs; unfold circGo
              rw [HD.out, if_neg (by omega), show d + 1 - 1 = d by omega, ← hch]
              rfl
            refine ⟨.slice a6 (pre.length + 1) c6, by rw [hc]; rfl, by rw [hc]; exact HO8.out.base (by omega), HX2.out.trans HX8.out⟩
          · obtain ⟨m1, rfl⟩ : ∃ m1, m = m1 + 1 := ⟨m - 1, by omega⟩
            obtain ⟨g8, c8', hv8, hg8, hc8, hrow⟩ := RowL.of_own HO8.out adC_len (by simp)
            simp only [List.length_append, List.length_cons, List.length_nil, Nat.zero_add, Value.slice.injEq] at hv8
            obtain ⟨rfl, _, rfl⟩ := hv8
            have hplen : pre.length ≤ 4096 := by have := HPL.out; omega
            clear hrow
            obtain ⟨np, hnp⟩ : ∃ n, pre.length = n := ⟨_, rfl⟩
            have HNP := Lib.hid hnp
            rw [hnp] at hplen ⊢
            clear hnp
            obtain ⟨xx, hxx⟩ : ∃ xx, M[ia]? = some xx := ⟨M[ia], by simp⟩
            have HXX := Lib.hid hxx
            have hxk : xx.1 = x := (keyM_at hxx).symm.trans HKI.out
            have HXK := Lib.hid hxk
            have hiai : (ia : Int) < (M.length : Int) := by omega
            clear hxx hxk
            go_wp2_with fail
            obtain ⟨wq, hwq⟩ : ∃ wq, wq = wr := ⟨_, rfl⟩
            subst hwq
            have hzq := HX8.out.sz
            go_loopw [6, 7, 9] (fun s6 s7 s9 wr => ∃ j : Nat, s6 = .slice (some ⟨g8, 0, none⟩) (np + 1) c6 ∧ s7 = .int .i64 ia ∧ j ≤ M.length ∧ s9 = .int .i64 j ∧ Hid (((M.map (·.1)).take j).find? (fun a => decide (dist M t.1 a = m1 + 1) && onM M x a) = none) ∧ Hid (Xt wq wr)) (fun _ _ s9 _ => M.length - (intOf s9).toNat)
            case atStart => exact ⟨0, rfl, rfl, Nat.zero_le _, rfl, rfl, Xt.refl _⟩
            case round =>
              obtain ⟨j, rfl, rfl, hj, rfl, HFN, HXj⟩ := hrel
              have hzj := HXj.out.sz
              have HXr : Hid (Xt w wr) := (HX2.out.trans HX8.out).trans HXj.out
              have hpr := ((HXr.out.cells).1 px 0 hpx).trans HP.out
              by_cases hltj : j < M.length
              · obtain ⟨y, hy⟩ : ∃ y, M[j]? = some y := ⟨M[j], by simp [hltj]⟩
                have HY := Lib.hid hy
                obtain ⟨d0, d1, _⟩ := HC.out j y hy
                obtain ⟨e0, e1, ux, e2, hux⟩ := HC.out ia xx HXX.out
                have d0r := ((HXr.out.cells).1 bv _ hbv).trans d0
                have d1r := ((HXr.out.cells).1 bv _ hbv).trans d1
                have e0r := ((HXr.out.cells).1 bv _ hbv).trans e0
                have e1r := ((HXr.out.cells).1 bv _ hbv).trans e1
                have e2r := ((HXr.out.cells).1 bv _ hbv).trans e2
                have hux' : SlOf wr.drew arC 4 ux xx.2 := hux.xt HXr.out.drew
                have huse : usesR xx.2 y.1 = onM M x y.1 := by
                  rw [uses_at HS.out HV.out HXX.out y.1, keyM_at HXX.out, HXK.out]
                have HUX := Lib.hid hux'
                have HUSE := Lib.hid huse
                obtain ⟨au, cu, rfl, _⟩ := hux'
                have hji : (j : Int) < (M.length : Int) := by omega
                have HIr : Hid (IntRow wr gf M.length (fun i => dist M t.1 (keyM M i))) := HI.out.of_heap (RowKit.Below.block (HX8.out.trans HXj.out) gf HI.out.lt)
                have hbr : bv < wr.heap.size := by have := HXr.out.sz; omega
                have hprr : px < wr.heap.size := by have := HXr.out.sz; omega
                clear d0 d1 e0 e1 e2 hux huse hy
                cases hon : onM M x y.1
                all_goals
                  go_wp2_with fail
                  refine wp_region_still_tail 15 (by kernel_rfl) (by kernel_rfl) ?_
                  change wpStill _ _ (World.drew _) _ _ _
                  simp only [List.take_succ_cons, List.take_zero, List.drop_succ_cons, List.drop_zero]
                  iterate 15 still_step
                  refine wpStill_nil ?_
                  change wpList _ _ _ _ _ (World.drew _)
                  refine wpList_step (fun K hK => ?_)
                  go_simp
                  refine (ruses_any xx.1 y.1 _ xx.2 _ HUX.out).mono ?_
                  rintro e w3 ⟨rfl, hg3⟩
                  rw [HUSE.out, hon]
                  refine hK _ _ ?_
                  have hx3 : Xt wr w3 := xt_drew hg3.xt
                  have d0s := ((hx3.cells).1 bv _ hbr).trans d0r
                  have d1s := ((hx3.cells).1 bv _ hbr).trans d1r
                  have hps := ((hx3.cells).1 px 0 hprr).trans hpr
                  have HX3 : Hid (Xt wq w3) := HXj.out.trans hx3
                  have hI3 := (HIr.out.of_heap (RowKit.Below.block hx3 gf HIr.out.lt)).cell hltj
                  try simp only at hI3
                  rw [keyM_at HY.out] at hI3
                  clear hK K d0r d1r e0r e1r e2r hpr hg3 hx3
                · clear hI3 d0s d1s hps
                  go_wp2_with fail
                  go_roundw
                  case rel => exact ⟨j + 1, rfl, rfl, by omega, by go_num, find_take (key_take HY.out) HFN.out (by simp [hon]), HX3⟩
                  case measure => simp [intOf]; omega
                · by_cases hdy : dist M t.1 y.1 = m1 + 1
                  · rw [hdy] at hI3
                    have HDY := Lib.hid hdy
                    have hown3 : OwnL w3 B 34 2 adC (.slice (some ⟨g8, 0, none⟩) (np + 1) c6) (pre ++ [x]) := by rw [← HNP.out]; exact HO8.out.xt HX3.out
                    have hfl : (pre ++ [x]).length ≤ 4097 := by rw [List.length_append, HNP.out]; simp; omega
                    have hB3 : B ≤ w3.heap.size := by have := HX3.out.sz; have := HBB.out; omega
                    generalize hfe : pre ++ [x] = fs at hown3 hfl
                    have HFE := Lib.hid hfe
                    have hown3' : w3.ownsRow B 34 2 (.slice (some ⟨g8, 0, none⟩) (np + 1) c6) fs.length (fs.flatMap adC) := hown3
                    clear hdy hfe hown3
                    go_wp2_with (at_builtin; refine wpList_append_own _ rfl _ _ 23 rfl B 34 i0 (.agg #[.int .i64 0, .int .i64 0]) 2 16 Try.underlying23 hi hz0 hz1 hz2 rfl (by decide) _ _ _ rfl (hown3'.alloc _) ⟨w3.heap.size, 0, none⟩ 1 1 [.int .i64 y.1.1, .int .i64 y.1.2] rfl rfl (news_at _ [.int .i64 y.1.1, .int .i64 y.1.2] 34 (by simp)) (adC_one y.1) ?c4 ?c5 ?c6 ?_)
                    case c4 => unfold maxLen; omega
                    case c5 => omega
                    case c6 => first | omega | (simp; omega)
                    intro v' w4 hown4 hg4 _
                    have hg5 : w3.grownBy w4 (some g8) := (World.grownBy_alloc w3 _ _).trans hg4
                    have HG5 := Lib.hid hg5
                    have HO4 : Hid (OwnL w4 B 34 2 adC v' (fs ++ [y.1])) := OwnL.snoc hown4
                    obtain ⟨av, cv, hvv, _⟩ := HO4.out.sl adC_len
                    have hfl2 : (fs ++ [y.1]).length = np + 1 + 1 := by rw [← HFE.out, List.length_append, List.length_append, HNP.out]; rfl
                    rw [hfl2] at hvv
                    subst hvv
                    clear hg4 hg5 hown4 hfl2 hI3 d0s d1s hps
                    go_wp2_with fail
                    go_roundw
                    case rel =>
                      refine ⟨m1, pre ++ [x], y.1, j, by omega, by go_num, rfl, hltj, by rw [List.length_append, HNP.out]; rfl, keyM_at HY.out, by have := HPL.out; show _ ≤ _; rw [List.length_append]; simp; omega, by rw [HFE.out]; exact HO4.out, ?_, ?_⟩
                      · have := HCH.out
                        rw [chainM_some (find_at (key_take HY.out) HFN.out (by simp [HDY.out, hon]))] at this
                        rw [List.append_assoc]
                        exact this
                      · exact Below.grown (HX8.out.trans HX3.out) HG5.out (by have := (HX8.out.trans HX3.out).sz; omega) (fun q hq => by cases hq; have := HBB.out; omega)
                    case measure => simp [intOf]
                  · have hdb : ((dist M t.1 y.1 : Int) == (m1 : Int) + 1) = false := by rw [beq_eq_false_iff_ne]; omega
                    have HDY := Lib.hid hdy
                    generalize ((dist M t.1 y.1 : Nat) : Int) = dy at hI3 hdb
                    clear hdy
                    go_wp2_with fail
                    go_roundw
                    case rel => exact ⟨j + 1, rfl, rfl, by omega, by go_num, find_take (key_take HY.out) HFN.out (by simp [HDY.out]), HX3⟩
                    case measure => simp [intOf]; omega
              · go_wp2_with fail
                go_roundw
                case rel =>
                  have hjl : j = M.length := by omega
                  have hfn := HFN.out
                  rw [hjl, List.take_of_length_le (by simp)] at hfn
                  refine ⟨m1, pre, x, ia, by omega, by go_num, rfl, hia, by rw [HNP.out]; rfl, HKI, by have := HPL.out; show _ ≤ _; omega, ?_, ?_, HX8.out.trans HXj.out⟩
                  · rw [← HNP.out]; exact HO8.out.xt HXj.out
                  · have := HCH.out
                    rw [chainM_none hfn] at this
                    exact this
                case measure => simp [intOf]
    · obtain rfl : k = M.length := by omega
      have hg := HGo.out
      rw [List.drop_eq_nil_of_le (by simp)] at hg
      have hc : circleM M = ([], false) := hg
      go_wp2_with fail
      go_ret2
      exact ⟨.slice none 0 0, by rw [hc]; rfl, by rw [hc]; exact World.ownsRow_nil _ _ _ _, HX.out⟩
end Go.Proofs.Ytagfgkcipomopaa
