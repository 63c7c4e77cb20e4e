import Derived.Test.YtagfgkcipomopaaW20
import Derived.Test.YtagfgkcipomopaaW15
import Derived.WalkMore
import Derived.Deep.LoopGhost
namespace Go.Proofs.Ytagfgkcipomopaa
open Go.RowKit Go.Sort

/-! ### Circle -/
theorem onM_key {M : Mp} {a b : Ad} (h : onM M a b = true) : a ∈ M.map (·.1) := by
  unfold onM at h
  cases hl : lkM a M with
  | none => rw [hl] at h; cases h
  | some l => exact List.mem_map.2 ⟨_, lkM_mem hl, rfl⟩
theorem drop_step {α : Type} {l : List α} {k : Nat} {x : α} (h : l[k]? = some x) : l.drop k = x :: l.drop (k + 1) := by
  obtain ⟨h1, h2⟩ := List.getElem?_eq_some_iff.1 h
  rw [List.drop_eq_getElem_cons h1, h2]
theorem find_take {α : Type} {l : List α} {p : α → Bool} {k : Nat} {x : α} (h : l[k]? = some x) (h0 : (l.take k).find? p = none) (hx : p x = false) : (l.take (k + 1)).find? p = none := by
  rw [List.take_add_one, h, List.find?_append, h0]
  simp [hx]
theorem find_at {α : Type} {l : List α} {p : α → Bool} {k : Nat} {x : α} (h : l[k]? = some x) (h0 : (l.take k).find? p = none) (hx : p x = true) : l.find? p = some x := by
  have : l = l.take k ++ x :: l.drop (k + 1) := by rw [← drop_step h, List.take_append_drop]
  rw [this, List.find?_append, h0]
  simp [hx]
theorem chainM_none {M : Mp} {far : Ad → Nat} {all : List Ad} {n : Nat} {x : Ad} (h : all.find? (fun a => decide (far a = n + 1) && onM M x a) = none) : chainM M far all (n + 1) x = chainM M far all n x := by
  conv => lhs; unfold chainM
  rw [h]
theorem chainM_some {M : Mp} {far : Ad → Nat} {all : List Ad} {n : Nat} {x y : Ad} (h : all.find? (fun a => decide (far a = n + 1) && onM M x a) = some y) : chainM M far all (n + 1) x = y :: chainM M far all n y := by
  conv => lhs; unfold chainM
  rw [h]
def CircR (w : World) (M : Mp) (e : Ending) (w' : World) : Prop := ∃ v, e = .returned (.tuple #[v, .bool (circleM M).2]) ∧ OwnL w' w.heap.size 34 2 adC v (circleM M).1 ∧ Xt w w'
set_option maxRecDepth 100000 in
set_option maxHeartbeats 4000000 in
theorem circle22_any (pb bm : Nat) (F : Nat → Prop) (M : Mp) (w : World) (h : Lk w pb bm F M) (hF : ∀ b, F b → b < w.heap.size) :
    Calls Try.prog 22 #[.pointer (some ⟨pb, 0, none⟩)] w (CircR w M) := by
  obtain ⟨i0, hi, hz0, hz1, hz2⟩ := info_parts info34
  have H := Lib.hid h
  have HF := Lib.hid hF
  have hmany : (M.map (·.1)).length ≤ 4096 := by simpa using h.many
  have HND : Hid (M.map (·.1)).Nodup := by obtain ⟨E, _, he⟩ := h.map; exact nodup_M he.sorted
  have HAL : Hid (∀ a b, onM M a b = true → a ∈ M.map (·.1)) := fun a b h => onM_key h
  have HCI : Hid (circleM M = circGo M (M.map (·.1)) (M.map (·.1))) := rfl
  clear h hF
  generalize hall : M.map (·.1) = all at *
  have HALL := Lib.hid hall
  clear hall
  go_enter Try.func22, Try.ntmps22
  go_wp2_with fail
  refine (set_any pb bm F M w H.out).mono ?_
  rintro e w1 ⟨v1, rfl, hown1, hx1⟩
  rw [HALL.out] at hown1
  obtain ⟨sa, ca, rfl, q1, q2, hcc⟩ := hown1.sl adC_len
  have HS1 := Lib.hid (hown1.sl adC_len)
  have HC := Lib.hid hcc
  have hs1 := hx1.sz
  have HX1 := Lib.hid hx1
  have H1 : Hid (Lk w1 pb bm F M) := H.out.xt HF.out hx1
  clear hcc hx1 hown1
  go_wp2_with fail
  go_loopw [18] (fun i wr => ∃ k : Nat, k ≤ all.length ∧ i = .int .i64 k ∧ Hid (circGo M all all = circGo M all (all.drop k)) ∧ Hid (Xt w1 wr)) (fun i _ => all.length - (intOf i).toNat)
  case atStart => exact ⟨0, Nat.zero_le _, rfl, rfl, Xt.refl _⟩
  case round =>
    obtain ⟨k, hk, rfl, HGo, HX⟩ := hrel
    have hz := HX.out.sz
    by_cases hlt : k < all.length
    · obtain ⟨b', off, rfl, hcell⟩ := HC.out (by intro h; simp [h] at hlt)
      obtain ⟨f, hf⟩ : ∃ f, all[k]? = some f := ⟨all[k], by simp [hlt]⟩
      obtain ⟨d0, d1⟩ := ad_cells (hcell k f hf)
      have hb' : b' < w1.heap.size := World.block_lt_of_cell? w1 _ d0
      rw [← (HX.out.cells).1 _ _ hb'] at d0 d1
      have z2 : b' < wr.heap.size := by omega
      have HFk := Lib.hid hf
      have HCC := Lib.hid hcell
      clear hcell hf
      go_wp2_with fail
      obtain ⟨wB, hwB⟩ : ∃ wB, wr.alloc (Obj.cells #[Value.int IntKind.i64 f.fst, Value.int IntKind.i64 f.snd] 34) = wB := ⟨_, rfl⟩
      have hxB : Xt wr wB := by rw [← hwB]; exact (Xt.refl _).alloc _
      have hsB : wB.heap.size = wr.heap.size + 1 := by rw [← hwB]; simp
      have b0 : wB.cell? ⟨wr.heap.size, 0, none⟩ = some (.int .i64 f.1) := by rw [← hwB]; simp
      have b1 : wB.cell? ⟨wr.heap.size, 1, none⟩ = some (.int .i64 f.2) := by rw [← hwB]; simp
      have HXB : Hid (Xt w1 wB) := HX.out.trans hxB
      rw [hwB]
      obtain ⟨k0, hk0⟩ : ∃ n, wr.heap.size = n := ⟨_, rfl⟩
      rw [hk0] at hsB b0 b1 hz ⊢
      clear hwB hxB d0 d1 hk0 HX
      go_step3
      go_wp2_with fail
      refine (ways_any pb bm F M _ all f wB (H1.out.xt (fun b hb => by have := HF.out b hb; omega) HXB.out) (fun b hb => by have := HF.out b hb; omega) (HS1.out.xt HXB.out) HAL.out hmany HND.out).mono ?_
      rintro e w2 ⟨bw, E, rfl, hbw, hm, hE, hx2⟩
      have HE := Lib.hid hE
      have HM := Lib.hid hm
      have HX2 : Hid (Xt w1 w2) := HXB.out.trans hx2
      have hbw2 : bw < w2.heap.size := hm.lt
      have hzw2 := hx2.sz
      rw [← (hx2.cells).1 _ _ (by omega)] at b0 b1
      have hlk := look71 hm f (hE f)
      by_cases h0 : dist M f f = 0
      · rw [h0] at hlk
        clear hE hm hx2
        go_wp2_with fail
        refine ‹∀ (a : Act) (w : World), _ → _› _ _ ?_
        go_wp2_with fail
        go_roundw
        case rel =>
          refine ⟨k + 1, by omega, by go_num, ?_, HX2⟩
          have := HGo.out
          rw [drop_step HFk.out] at this
          rw [this]
          show circGo M all (f :: all.drop (k + 1)) = _
          conv => lhs; unfold circGo
          rw [if_pos h0]
        case measure => simp [intOf]; omega
      · obtain ⟨d, hd⟩ : ∃ d, dist M f f = d + 1 := ⟨dist M f f - 1, by omega⟩
        rw [hd] at hlk
        have hne : (((d + 1 : Nat) : Int) == 0) = false := by rw [beq_eq_false_iff_ne]; omega
        have HD := Lib.hid hd
        have hdl : d ≤ 4096 := by
          obtain ⟨_, _, q3, q4, q5⟩ := chain_ok HAL.out d f hd
          have := nodup_len (List.nodup_cons.1 q3).2 q5
          omega
        clear hE hm hx2 h0 hd
        go_wp2_with fail
        have z3 : k0 < w2.heap.size := by omega
        have hlkC := look71 (HM.out.of_heap (w' := w2.alloc (.cells #[.int .i64 f.1, .int .i64 f.2] 34)) (RowKit.Below.block ((Xt.refl w2).alloc _) _ hbw2)) f (HE.out f)
        rw [HD.out] at hlkC
        go_step3
        go_wp2_with fail
        have hown : OwnL (w2.alloc (.cells #[.int .i64 f.1, .int .i64 f.2] 34)) w2.heap.size 34 2 adC (.slice (some ⟨w2.heap.size, 0, none⟩) 1 1) [f] := by
          refine ⟨rfl, Or.inr ⟨w2.heap.size, 1, #[.int .i64 f.1, .int .i64 f.2], rfl, Nat.le_refl _, ?_, Nat.le_refl _, by unfold maxLen; omega, rfl, rfl⟩⟩
          exact (MapKept.heap_alloc w2 _).1
        obtain ⟨wC, hwC⟩ : ∃ wC, w2.alloc (Obj.cells #[Value.int IntKind.i64 f.fst, Value.int IntKind.i64 f.snd] 34) = wC := ⟨_, rfl⟩
        have hxC : Xt w2 wC := by rw [← hwC]; exact (Xt.refl _).alloc _
        rw [hwC] at hown ⊢
        have HO := Lib.hid hown
        have HXC := Lib.hid hxC
        clear hwC hown hxC hlk hlkC b0 b1
        obtain ⟨B, hB⟩ : ∃ n, w2.heap.size = n := ⟨_, rfl⟩
        rw [hB] at HO ⊢
        go_loopg [8, 9] (d + 1) (fun gk s8 s9 wr => ∃ (m : Nat) (pre : List Ad) (x : Ad), m ≤ d ∧ m ≤ gk ∧ s9 = .int .i64 m ∧ s8 = .slice (slAt s8) (pre.length + 1) (slCap s8) ∧ Hid (pre.length + m ≤ d) ∧ Hid (OwnL wr B 34 2 adC s8 (pre ++ [x])) ∧ Hid (pre ++ x :: chainM M (dist M f) all m x = f :: chainM M (dist M f) all d f) ∧ Hid (Xt w2 wr))
        case atStart => exact ⟨d, [], f, Nat.le_refl _, by omega, by go_num, rfl, by show 0 + d ≤ d; omega, HO, rfl, HXC⟩
        case round =>
          obtain ⟨m, pre, x, hmd, hgk, rfl, hv8, HPL, HO8, HCH, HX8⟩ := hrel
          generalize slAt u8 = a8 at *
          generalize slCap u8 = c8 at *
          subst hv8
          rcases Nat.eq_zero_or_pos m with hm0 | hmp
          · subst hm0
            go_wp2_with fail
            try rw [Exit.noGoto_ret]
            go_ret2
            have hch := HCH.out
            have hg := HGo.out
            rw [drop_step HFk.out] at hg
            have hc : circleM M = (pre ++ [x], true) := by
              rw [HCI.out, hg]
              conv => lhs; unfold circGo
              rw [HD.out, if_neg (by omega), show d + 1 - 1 = d by omega, ← hch]
              rfl
            refine ⟨.slice a8 (pre.length + 1) c8, by rw [hc]; rfl, by rw [hc]; exact HO8.out.base (by omega), HX1.out.trans (HX2.out.trans HX8.out)⟩
          · obtain ⟨m1, rfl⟩ : ∃ m1, m = m1 + 1 := ⟨m - 1, by omega⟩
            obtain ⟨g8, c8', hv8, hg8, hc8, hrow⟩ := RowL.of_own HO8.out adC_len (by simp)
            have hgl := (World.ownsRow.lt HO8.out g8 (by rw [hv8]; rfl)).2
            simp only [List.length_append, List.length_cons, List.length_nil, Nat.zero_add, Value.slice.injEq] at hv8
            obtain ⟨rfl, _, rfl⟩ := hv8
            have hxa : (pre ++ [x])[pre.length]? = some x := by simp
            obtain ⟨x0, x1⟩ := ad_cells (hrow.cell hxa)
            have hplen : pre.length ≤ 4096 := by have := HPL.out; omega
            clear hrow hxa
            obtain ⟨np, hnp⟩ : ∃ n, pre.length = n := ⟨_, rfl⟩
            have HNP := Lib.hid hnp
            rw [hnp] at x0 x1 hplen ⊢
            clear hnp
            go_wp2_with fail
            obtain ⟨wq, hwq⟩ : ∃ wq, wq = wr := ⟨_, rfl⟩
            subst hwq
            obtain ⟨go, hgo⟩ : ∃ go, go = gk := ⟨_, rfl⟩
            subst hgo
            have hzq := HX8.out.sz
            go_loopg [8, 42] all.length (fun g2 s8 s42 wr => ∃ j : Nat, s8 = .slice (some ⟨g8, 0, none⟩) (np + 1) c8 ∧ j ≤ all.length ∧ all.length ≤ j + g2 ∧ s42 = .int .i64 j ∧ Hid ((all.take j).find? (fun a => decide (dist M f a = m1 + 1) && onM M x a) = none) ∧ Hid (Xt wq wr))
            case atStart => exact ⟨0, rfl, Nat.zero_le _, by omega, rfl, rfl, Xt.refl _⟩
            case round =>
              obtain ⟨j, rfl, hj, hg2, rfl, HFN, HXj⟩ := hrel
              have hzj := HXj.out.sz
              by_cases hltj : j < all.length
              · obtain ⟨y, hy⟩ : ∃ y, all[j]? = some y := ⟨all[j], by simp [hltj]⟩
                obtain ⟨d0, d1⟩ := ad_cells (HCC.out j y hy)
                have HX1r : Hid (Xt w1 wr) := (HX2.out.trans HX8.out).trans HXj.out
                rw [← (HX1r.out.cells).1 _ _ hb'] at d0 d1
                have hxa : Xt wr (wr.alloc (.cells #[.int .i64 y.1, .int .i64 y.2] 34)) := (Xt.refl _).alloc _
                have hmB : MapIs (wr.alloc (.cells #[.int .i64 y.1, .int .i64 y.2] 34)) bw E := HM.out.of_heap (RowKit.Below.block ((HX8.out.trans HXj.out).trans hxa) _ hbw2)
                have HXa := Lib.hid hxa
                have hlk : ∀ n : Nat, (Instr.lookup 71 (.map (some bw)) (.agg #[.int .i64 y.1, .int .i64 y.2]) false).run Try.prog ((wr.alloc (.cells #[.int .i64 y.1, .int .i64 y.2] 34)).drewN n) = .ok (.int .i64 (dist M f y)) ((wr.alloc (.cells #[.int .i64 y.1, .int .i64 y.2] 34)).drewN n) := fun n => look71 (hmB.of_heap (w' := (wr.alloc (.cells #[.int .i64 y.1, .int .i64 y.2] 34)).drewN n) rfl) y (HE.out y)
                have HY := Lib.hid hy
                rw [← (HXj.out.cells).1 _ _ hgl] at x0 x1
                have zr1 : b' < wr.heap.size := by have := HX1r.out.sz; omega
                have zr2 : g8 < wr.heap.size := by omega
                clear hxa hmB hy
                by_cases hdy : dist M f y = m1 + 1
                · rw [hdy] at hlk
                  have HDY := Lib.hid hdy
                  have e1 : IntKind.i64.wrap (np : Int) = (np : Int) := IntWalk.i64_in _ (by omega)
                  have e2 : (0 : Int) ≤ (np : Int) := by omega
                  have e3 : (np : Int) < (np : Int) + 1 := by omega
                  have HLr : Hid (Lk (wr.alloc (.cells #[.int .i64 y.1, .int .i64 y.2] 34)).drew pb bm F M) := H1.out.xt (fun b hb => by have := HF.out b hb; omega) (HX1r.out.trans HXa.out).drew
                  have hlk0 : (Instr.lookup 71 (.map (some bw)) (.agg #[.int .i64 y.1, .int .i64 y.2]) false).run Try.prog (wr.alloc (.cells #[.int .i64 y.1, .int .i64 y.2] 34)).drew = .ok (.int .i64 ((m1 + 1 : Nat) : Int)) (wr.alloc (.cells #[.int .i64 y.1, .int .i64 y.2] 34)).drew := hlk 1
                  cases hon : onM M x y
                  · go_wp2_with fail
                    refine wp_region_still_tail 14 (by kernel_rfl) (by kernel_rfl) ?_
                    change wpStill _ _ (World.drew _) _ _ _
                    simp only [List.take_succ_cons, List.take_zero, List.drop_succ_cons, List.drop_zero]
                    iterate 14 still_step
                    refine wpStill_nil ?_
                    change wpList _ _ _ _ _ (World.drew _)
                    refine wpList_step (fun K hK => ?_)
                    go_simp
                    refine (on_lk pb bm F M x y _ HLr.out).mono ?_
                    rintro e w3 ⟨rfl, hg3⟩
                    rw [hon]
                    refine hK _ _ ?_
                    clear hK K e1 e2 e3 hlk hlk0 d0 d1 x0 x1
                    have HX3 : Hid (Xt wq w3) := (HXj.out.trans HXa.out).drew.trans hg3.xt
                    clear hg3
                    go_wp2_with fail
                    go_roundg (all.length - (j + 1))
                    case measure => omega
                    case rel => exact ⟨j + 1, rfl, by omega, by omega, by go_num, find_take HY.out HFN.out (by simp [HDY.out, hon]), HX3⟩
                  · go_wp2_with fail
                    refine wp_region_still_tail 14 (by kernel_rfl) (by kernel_rfl) ?_
                    change wpStill _ _ (World.drew _) _ _ _
                    simp only [List.take_succ_cons, List.take_zero, List.drop_succ_cons, List.drop_zero]
                    iterate 14 still_step
                    refine wpStill_nil ?_
                    change wpList _ _ _ _ _ (World.drew _)
                    refine wpList_step (fun K hK => ?_)
                    go_simp
                    refine (on_lk pb bm F M x y _ HLr.out).mono ?_
                    rintro e w3 ⟨rfl, hg3⟩
                    rw [hon]
                    refine hK _ _ ?_
                    have HX3 : Hid (Xt wq w3) := (HXj.out.trans HXa.out).drew.trans hg3.xt
                    have y0 : w3.cell? ⟨wr.heap.size, 0, none⟩ = some (.int .i64 y.1) := ((hg3.xt.cells).1 _ _ (by show _ < (wr.alloc _).heap.size; simp)).trans (by simp)
                    have y1 : w3.cell? ⟨wr.heap.size, 1, none⟩ = some (.int .i64 y.2) := ((hg3.xt.cells).1 _ _ (by show _ < (wr.alloc _).heap.size; simp)).trans (by simp)
                    have hown3 : OwnL w3 B 34 2 adC (.slice (some ⟨g8, 0, none⟩) (np + 1) c8) (pre ++ [x]) := by rw [← HNP.out]; exact HO8.out.xt HX3.out
                    have hfl : (pre ++ [x]).length ≤ 4097 := by rw [List.length_append, HNP.out]; simp; omega
                    have hB3 : B ≤ w3.heap.size := by have := HX3.out.sz; omega
                    generalize hfe : pre ++ [x] = fs at hown3 hfl
                    have HFE := Lib.hid hfe
                    have hown3' : w3.ownsRow B 34 2 (.slice (some ⟨g8, 0, none⟩) (np + 1) c8) fs.length (fs.flatMap adC) := hown3
                    clear hK K e1 e2 e3 hlk hlk0 d0 d1 x0 x1 hg3 hfe hown3
                    go_wp2_with (at_builtin; refine wpList_append_own _ rfl _ _ 23 rfl B 34 i0 (.agg #[.int .i64 0, .int .i64 0]) 2 16 Try.underlying23 hi hz0 hz1 hz2 rfl (by decide) _ _ _ rfl (hown3'.alloc _) ⟨w3.heap.size, 0, none⟩ 1 1 [.int .i64 y.1, .int .i64 y.2] rfl rfl (news_at _ [.int .i64 y.1, .int .i64 y.2] 34 (by simp)) (adC_one y) ?c4 ?c5 ?c6 ?_)
                    case c4 => unfold maxLen; omega
                    case c5 => omega
                    case c6 => first | omega | (simp; omega)
                    intro v' w4 hown4 hg4 _
                    have hg5 : w3.grownBy w4 (some g8) := (World.grownBy_alloc w3 _ _).trans hg4
                    have HG5 := Lib.hid hg5
                    have HO4 : Hid (OwnL w4 B 34 2 adC v' (fs ++ [y])) := OwnL.snoc hown4
                    obtain ⟨av, cv, hvv, _⟩ := HO4.out.sl adC_len
                    have hfl2 : (fs ++ [y]).length = np + 1 + 1 := by rw [← HFE.out, List.length_append, List.length_append, HNP.out]; rfl
                    rw [hfl2] at hvv
                    subst hvv
                    clear hg4 hg5 hown4 hfl2
                    go_wp2_with fail
                    go_roundg m1
                    case measure => omega
                    case rel =>
                      refine ⟨m1, pre ++ [x], y, by omega, Nat.le_refl _, by go_num, by rw [List.length_append, HNP.out]; rfl, by have := HPL.out; show _ ≤ _; rw [List.length_append]; simp; omega, by rw [HFE.out]; exact HO4.out, ?_, ?_⟩
                      · have := HCH.out
                        rw [chainM_some (find_at HY.out HFN.out (by simp [HDY.out, hon]))] at this
                        rw [List.append_assoc]
                        exact this
                      · exact Below.grown (HX8.out.trans HX3.out) HG5.out (by have := (HX8.out.trans HX3.out).sz; omega) (fun q hq => by cases hq; omega)
                · have hdb : ((dist M f y : Int) == (m1 : Int) + 1) = false := by rw [beq_eq_false_iff_ne]; omega
                  have HDY := Lib.hid hdy
                  generalize ((dist M f y : Nat) : Int) = dy at hlk hdb
                  clear hdy x0 x1
                  go_wp2_with fail
                  go_quiet (fail)
                  go_wp2_with fail
                  go_roundg (all.length - (j + 1))
                  case measure => omega
                  case rel => exact ⟨j + 1, rfl, by omega, by omega, by go_num, find_take HY.out HFN.out (by simp [HDY.out]), HXj.out.trans (HXa.out.trans (Gr.xt ((Gr.refl _).drewN _)))⟩
              · go_wp2_with fail
                go_roundg m1
                case measure => omega
                case rel =>
                  have hjl : j = all.length := by omega
                  have hfn := HFN.out
                  rw [hjl, List.take_length] at hfn
                  refine ⟨m1, pre, x, by omega, Nat.le_refl _, by go_num, by rw [HNP.out]; rfl, by have := HPL.out; show _ ≤ _; omega, ?_, ?_, HX8.out.trans HXj.out⟩
                  · rw [← HNP.out]; exact HO8.out.xt HXj.out
                  · have := HCH.out
                    rw [chainM_none hfn] at this
                    exact this
    · have hkl : k = all.length := by omega
      have hg := HGo.out
      rw [hkl, List.drop_length] at hg
      have hc : circleM M = ([], false) := HCI.out.trans hg
      go_wp2_with fail
      go_ret2
      refine ⟨.slice none 0 0, by rw [hc]; rfl, by rw [hc]; exact World.ownsRow_nil _ _ _ _, HX1.out.trans HX.out⟩
end Go.Proofs.Ytagfgkcipomopaa
