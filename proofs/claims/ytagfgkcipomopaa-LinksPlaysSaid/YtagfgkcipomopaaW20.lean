import Derived.Test.YtagfgkcipomopaaL12
import Derived.Test.YtagfgkcipomopaaW14
namespace Go.Proofs.Ytagfgkcipomopaa
open Go.RowKit Go.Sort

/-! ### ways -/
/-- A map of counts reads as this. -/
def FarMap (E : List (Ad × Value)) (far : Ad → Nat) : Prop := ∀ a, (lk a E).getD (.int .i64 0) = .int .i64 (far a)
theorem FarMap.up {E : List (Ad × Value)} {far g : Ad → Nat} {x : Ad} {n : Nat} (h : FarMap E far) (hg : ∀ a, g a = if a = x then n else far a) : FarMap (upE x (.int .i64 n) E) g := by
  intro a
  rw [lk_up, hg]
  by_cases hx : x = a
  · subst hx; rw [if_pos rfl, if_pos rfl]; rfl
  · rw [if_neg hx, if_neg (fun e => hx e.symm)]; exact h a
theorem upd71 {w : World} {bm : Nat} {E : List (Ad × Value)} (h : MapIs w bm E) (a : Ad) (v : Value) : ∃ w', (Instr.mapUpdate 71 (.map (some bm)) (.agg #[.int .i64 a.1, .int .i64 a.2]) v).run Try.prog w = .ok () w' ∧ Hid (MapIs w' bm (upE a v E) ∧ w.grownBy w' (some bm)) ∧ w'.heap.size = w.heap.size := by
  obtain ⟨w', h1, h2, h3, _, h4⟩ := h.update (P := Try.prog) (t := 71) (k := 34) (e := 3) adrKey Try.underlying71 a v
  exact ⟨w', h1, ⟨h2, h3⟩, h4⟩
theorem look71 {w : World} {bm : Nat} {E : List (Ad × Value)} (h : MapIs w bm E) (a : Ad) {n : Int} (hn : (lk a E).getD (.int .i64 0) = .int .i64 n) : (Instr.lookup 71 (.map (some bm)) (.agg #[.int .i64 a.1, .int .i64 a.2]) false).run Try.prog w = .ok (.int .i64 n) w := by
  have := h.lookup (P := Try.prog) adrKey Try.underlying71 zero3 a
  rw [hn] at this; exact this
theorem grownBy_old {a b c : World} {m r : Option Nat} (h : a.grownBy b m) (k : b.grownBy c r) (hr : ∀ g, r = some g → a.heap.size ≤ g) : a.grownBy c m :=
  ⟨k.os.trans h.os, k.tape.trans h.tape, k.output.trans h.output, Nat.le_trans h.size k.size, fun i hi hne => (k.block i (Nat.lt_of_lt_of_le hi h.size) (fun e => by have := hr i e.symm; omega)).trans (h.block i hi hne)⟩
def WaysR (w : World) (M : Mp) (t : Ad) (e : Ending) (w' : World) : Prop :=
  ∃ bw E, e = .returned (.map (some bw)) ∧ w.heap.size ≤ bw ∧ MapIs w' bw E ∧ FarMap E (dist M t) ∧ Xt w w'
theorem ways_start (w : World) (t : Ad) : ∃ W, ((w.alloc (.cells #[.int .i64 t.1, .int .i64 t.2] 34)).alloc (Obj.map #[] 0)).alloc (.cells #[.int .i64 t.1, .int .i64 t.2] 34) = W ∧ W.heap.size = w.heap.size + 3 ∧
    MapIs W (w.heap.size + 1) [] ∧ SlOf W adC 2 (.slice (some ⟨w.heap.size + 2, 0, none⟩) 1 1) [t] ∧ Xt w W := by
  refine ⟨_, rfl, by simp, ?_, ?_, (((Xt.refl _).alloc _).alloc _).alloc _⟩
  · refine MapIs.of_heap (w := (w.alloc (.cells #[.int .i64 t.1, .int .i64 t.2] 34)).alloc (Obj.map #[] 0)) ?_ (Below.heap_alloc _ _ _ (by simp))
    have := MapIs.made (w.alloc (.cells #[.int .i64 t.1, .int .i64 t.2] 34))
    simpa using this
  · exact SlOf.newRow _ _ adC_len 34 rfl (by simp) rfl rfl (by simp)
set_option maxRecDepth 100000 in
set_option maxHeartbeats 4000000 in
theorem ways_any (pb bm : Nat) (F : Nat → Prop) (M : Mp) (v : Value) (all : List Ad) (t : Ad) (w : World) (h : Lk w pb bm F M) (hF : ∀ b, F b → b < w.heap.size) (hv : SlOf w adC 2 v all) (hall : ∀ a b, onM M a b = true → a ∈ all) (hlen : all.length ≤ 4096) (hnd : all.Nodup) :
    Calls Try.prog 51 #[.pointer (some ⟨pb, 0, none⟩), v, .agg #[.int .i64 t.1, .int .i64 t.2]] w (WaysR w M t) := by
  obtain ⟨i0, hi, hz0, hz1, hz2⟩ := info_parts info34
  have hmm := @run_makeMap Try.prog
  have H := Lib.hid h
  have HF := Lib.hid hF
  have HV := Lib.hid hv
  have HA := Lib.hid hall
  have HN := Lib.hid hnd
  obtain ⟨sa, ca, rfl, q1, q2, hcc⟩ := hv
  have HC := Lib.hid hcc
  obtain ⟨wA, hwA, hsA, hmA, hwv, hxA⟩ := ways_start w t
  clear h hF hall hnd hcc
  go_enter Try.func51, Try.ntmps51
  go_wp2_with fail
  clear hwA hmm
  obtain ⟨bw, hbw⟩ : ∃ bw, w.heap.size + 1 = bw := ⟨_, rfl⟩
  have hbw2 : w.heap.size ≤ bw := by omega
  rw [hbw] at hmA ⊢
  rw [show w.heap.size + 2 = bw + 1 by omega] at hwv
  have HMA := Lib.hid hmA
  have HWV := Lib.hid hwv
  have HXA := Lib.hid hxA
  clear hmA hwv hxA hsA hbw
  go_loopw [8, 9] (fun vw s9 wr => ∃ (n : Nat) (wave : List Ad) (far : Ad → Nat) (E : List (Ad × Value)), s9 = .int .i64 n ∧ vw = .slice (slAt vw) wave.length (slCap vw) ∧ Hid (n + zeros all far ≤ all.length + 1 + (if wave = [] then 1 else 0)) ∧ Hid (WaveIs M t n wave far) ∧ Hid (SlOf wr adC 2 vw wave) ∧ Hid (MapIs wr bw E) ∧ Hid (FarMap E far) ∧ Hid (Xt w wr)) (fun _ s9 _ => all.length + 3 - (intOf s9).toNat)
  case atStart =>
    refine ⟨1, [t], fun _ => 0, [], rfl, rfl, ?_, WaveIs.start M t, HWV, HMA, ?_, HXA⟩
    · show 1 + zeros all (fun _ => 0) ≤ _
      have : zeros all (fun _ => 0) ≤ all.length := List.length_filter_le ..
      simp; omega
    · intro a; rfl
  case round =>
    obtain ⟨n, wave, far, E, rfl, hvw, HZ, HW, HS, HM, HE, HX⟩ := hrel
    generalize slAt u8 = aw at *
    generalize slCap u8 = cw at *
    subst hvw
    by_cases hne : wave = []
    · subst hne
      go_wp2_with fail
      go_ret
      exact ⟨bw, E, rfl, hbw2, HM.out, by rw [← HW.out.done.eq]; exact HE.out, HX.out⟩
    · have hwpos : 0 < wave.length := List.length_pos_iff.2 hne
      have hzz : n + zeros all far ≤ all.length + 1 := by have := HZ.out; rw [if_neg hne] at this; omega
      have hn1 : 0 < n := HW.out.pos
      have HNE := Lib.hid hne
      obtain ⟨_, _, e0, r1, r2, hwc⟩ := HS.out
      cases e0
      have HWC := Lib.hid hwc
      clear HZ hne hwc
      go_wp2_with fail
      obtain ⟨wq, hwq⟩ : ∃ wq, wq = wr := ⟨_, rfl⟩
      subst hwq
      have hbwq : bw < wq.heap.size := HM.out.lt
      have hsq := HX.out.sz
      go_loopw [25, 10] (fun i vn wr => ∃ k : Nat, k ≤ all.length ∧ i = .int .i64 k ∧ ∃ E, Hid (OwnL wr wq.heap.size 34 2 adC vn (waveN M (all.take k) wave far)) ∧ Hid (MapIs wr bw E) ∧ Hid (FarMap E (waveF M (all.take k) wave n far)) ∧ Hid (wq.grownBy wr (some bw))) (fun i _ _ => all.length - (intOf i).toNat)
      case atStart => exact ⟨0, Nat.zero_le _, rfl, E, World.ownsRow_nil _ _ _ _, HM, HE, ⟨rfl, rfl, rfl, Nat.le_refl _, fun _ _ _ => rfl⟩⟩
      case round =>
        obtain ⟨k, hk, rfl, E1, HO, HM1, HE1, HG⟩ := hrel
        have hgz1 := HG.out.size
        by_cases hlt : k < all.length
        · obtain ⟨b', off, rfl, hcell⟩ := HC.out (by intro h; simp [h] at hlt)
          obtain ⟨a, ha⟩ : ∃ a, all[k]? = some a := ⟨all[k], by simp [hlt]⟩
          obtain ⟨d0, d1⟩ := ad_cells (hcell k a ha)
          have hb' : b' < w.heap.size := World.block_lt_of_cell? w _ d0
          have e : ∀ o, wr.cell? ⟨b', o, none⟩ = w.cell? ⟨b', o, none⟩ := fun o => (cell_grown HG.out (by omega) (by omega)).trans ((HX.out.cells).1 b' o hb')
          rw [← e] at d0 d1
          have HAk := Lib.hid ha
          have HND : Hid (a ∉ all.take k) := not_take HN.out ha
          have z2 : b' < wr.heap.size := by omega
          clear hcell e ha hb'
          go_wp2_with fail
          obtain ⟨wB, hwB⟩ : ∃ wB, wr.alloc (Obj.cells #[Value.int IntKind.i64 a.fst, Value.int IntKind.i64 a.snd] 34) = wB := ⟨_, rfl⟩
          have hxB : Xt wr wB := by rw [← hwB]; exact (Xt.refl _).alloc _
          have hsB : wB.heap.size = wr.heap.size + 1 := by rw [← hwB]; simp
          have b0 : wB.cell? ⟨wr.heap.size, 0, none⟩ = some (.int .i64 a.1) := by rw [← hwB]; simp
          have b1 : wB.cell? ⟨wr.heap.size, 1, none⟩ = some (.int .i64 a.2) := by rw [← hwB]; simp
          have HMB : Hid (MapIs wB bw E1) := HM1.out.of_heap (RowKit.Below.block hxB _ (by omega))
          have HGB : Hid (wq.grownBy wB (some bw)) := grownBy_old HG.out (hxB.grown none) (fun g h => by cases h)
          have HOB : Hid (OwnL wB wq.heap.size 34 2 adC u10 (nextJ M all wave far k a 0)) := by rw [nextJ_zero]; exact HO.out.xt hxB
          have HEB : Hid (FarMap E1 (farJ M all wave n far k a 0)) := by rw [farJ_zero]; exact HE1.out
          have HBK : Hid (hitJ M wave far a 0 = false → ∀ g, u10.ownBlock = some g → g < wr.heap.size) := fun _ g hg => (World.ownsRow.lt HO.out g hg).2
          rw [hwB]
          clear hwB hxB HM1 HG HO HE1 d0 d1 z2
          obtain ⟨k0, hk0⟩ : ∃ n, wr.heap.size = n := ⟨_, rfl⟩
          rw [hk0] at hsB b0 b1 HBK hgz1 ⊢
          go_loopw [31, 10] (fun i vn wr => ∃ j : Nat, j ≤ wave.length ∧ i = .int .i64 j ∧ ∃ E, Hid (OwnL wr wq.heap.size 34 2 adC vn (nextJ M all wave far k a j)) ∧ Hid (MapIs wr bw E) ∧ Hid (FarMap E (farJ M all wave n far k a j)) ∧ Hid (wq.grownBy wr (some bw)) ∧ Hid (hitJ M wave far a j = false → ∀ g, vn.ownBlock = some g → g < k0) ∧ k0 < wr.heap.size ∧ wr.cell? ⟨k0, 0, none⟩ = some (.int .i64 a.1) ∧ wr.cell? ⟨k0, 1, none⟩ = some (.int .i64 a.2)) (fun i _ _ => wave.length - (intOf i).toNat)
          case atStart => exact ⟨0, Nat.zero_le _, rfl, E1, HOB, HMB, HEB, HGB, HBK, by omega, b0, b1⟩
          case round =>
            obtain ⟨j, hj, rfl, E2, HO2, HM2, HE2, HG2, HB2, hs2, b02, b12⟩ := hrel
            by_cases hlt2 : j < wave.length
            · obtain ⟨bb, off2, rfl, hcell⟩ := HWC.out (by intro h; simp [h] at hlt2)
              obtain ⟨b, hb⟩ : ∃ b, wave[j]? = some b := ⟨wave[j], by simp [hlt2]⟩
              obtain ⟨d0, d1⟩ := ad_cells (hcell j b hb)
              have hb' : bb < wq.heap.size := World.block_lt_of_cell? wq _ d0
              have hbb : bb ≠ bw := fun e => by rw [e, HM.out.nocell] at d0; cases d0
              have e : ∀ o, wr.cell? ⟨bb, o, none⟩ = wq.cell? ⟨bb, o, none⟩ := fun o => cell_grown HG2.out hb' hbb
              rw [← e] at d0 d1
              have z2 : bb < wr.heap.size := by omega
              have hbwr : bw < wr.heap.size := by omega
              have HBj := Lib.hid hb
              have hsucc := hitJ_succ (M := M) (far := far) (a := a) hb
              have HS2 := Lib.hid hsucc
              have hself := HE2.out a
              rw [farJ_self HND.out] at hself
              have hxa : Xt wr (wr.alloc (.cells #[.int .i64 b.1, .int .i64 b.2] 34)) := (Xt.refl _).alloc _
              have hmB : MapIs (wr.alloc (.cells #[.int .i64 b.1, .int .i64 b.2] 34)) bw E2 := HM2.out.of_heap (RowKit.Below.block hxa _ hbwr)
              have HXa := Lib.hid hxa
              clear hcell e hb hsucc hxa b0 b1 hsB
              by_cases hhit : hitJ M wave far a j = true ∨ far a ≠ 0
              · have hv0 : ∃ c : Int, (lk a E2).getD (.int .i64 0) = .int .i64 c ∧ (c == 0) = false := by
                  refine ⟨_, hself, ?_⟩
                  rw [beq_eq_false_iff_ne]
                  rcases hhit with hh | hh
                  · rw [if_pos hh]; omega
                  · split <;> omega
                have hsame : hitJ M wave far a j = hitJ M wave far a (j + 1) := by
                  rw [HS2.out]
                  rcases hhit with hh | hh
                  · rw [hh]; rfl
                  · simp [hh]
                obtain ⟨c, hc1, hc2⟩ := hv0
                have hlk := look71 hmB a hc1
                have HSM := Lib.hid hsame
                clear hself hc1 hsame hhit hmB
                go_wp2_with fail
                go_roundw
                case rel =>
                  obtain ⟨s1, s2⟩ := nextJ_same (M := M) (all := all) (n := n) (k := k) HSM.out
                  refine ⟨j + 1, by omega, by go_num, E2, by rw [← s1]; exact HO2.out.xt HXa.out, HM2.out.of_heap (RowKit.Below.block HXa.out _ hbwr), by rw [← s2]; exact HE2.out, grownBy_old HG2.out (HXa.out.grown none) (fun g h => by cases h), by rw [← HSM.out]; exact HB2.out, by simp; omega, ((HXa.out.cells).1 _ _ hs2).trans b02, ((HXa.out.cells).1 _ _ hs2).trans b12⟩
                case measure => simp [intOf]; omega
              · have hh0 : hitJ M wave far a j = false := by
                  cases hh : hitJ M wave far a j
                  · rfl
                  · exact absurd (Or.inl hh) hhit
                have hf0 : far a = 0 := by
                  rcases Nat.eq_zero_or_pos (far a) with h | h
                  · exact h
                  · exact absurd (Or.inr (by omega)) hhit
                rw [hh0, hf0] at hself
                have hlk := look71 hmB a hself
                have HH0 := Lib.hid hh0
                have HF0 := Lib.hid hf0
                have HLr : Hid (Lk (wr.alloc (.cells #[.int .i64 b.1, .int .i64 b.2] 34)) pb bm F M) := H.out.xt HF.out ((HX.out.grownBy HG2.out hbw2).trans HXa.out)
                clear hself hhit hh0 hf0 hmB
                cases hon : onM M a b
                · go_wp2_with fail
                  refine (on_lk pb bm F M a b _ HLr.out).mono ?_
                  rintro e w2 ⟨rfl, hg2⟩
                  rw [hon]
                  have hx2 : Hid (Xt wr w2) := HXa.out.trans hg2.xt
                  clear hg2 hlk
                  go_wp2_with fail
                  go_roundw
                  case rel =>
                    have hsame : hitJ M wave far a j = hitJ M wave far a (j + 1) := by rw [HS2.out, hon]; simp
                    obtain ⟨s1, s2⟩ := nextJ_same (M := M) (all := all) (n := n) (k := k) hsame
                    refine ⟨j + 1, by omega, by go_num, E2, by rw [← s1]; exact HO2.out.xt hx2.out, HM2.out.of_heap (RowKit.Below.block hx2.out _ hbwr), by rw [← s2]; exact HE2.out, grownBy_old HG2.out (hx2.out.grown none) (fun g h => by cases h), by rw [← hsame]; exact HB2.out, by have := hx2.out.sz; omega, ((hx2.out.cells).1 _ _ hs2).trans b02, ((hx2.out.cells).1 _ _ hs2).trans b12⟩
                  case measure => simp [intOf]; omega
                · go_wp2_with fail
                  refine (on_lk pb bm F M a b _ HLr.out).mono ?_
                  rintro e w2 ⟨rfl, hg2⟩
                  rw [hon]
                  have hx2 : Hid (Xt wr w2) := HXa.out.trans hg2.xt
                  have hs22 := hx2.out.sz
                  have c02 : w2.cell? ⟨k0, 0, none⟩ = some (.int .i64 a.1) := ((hx2.out.cells).1 _ _ hs2).trans b02
                  have c12 : w2.cell? ⟨k0, 1, none⟩ = some (.int .i64 a.2) := ((hx2.out.cells).1 _ _ hs2).trans b12
                  have hm2 : MapIs w2 bw E2 := HM2.out.of_heap (RowKit.Below.block hx2.out _ hbwr)
                  obtain ⟨w5, hup, HU, hs5⟩ := upd71 hm2 a (.int .i64 n)
                  have c05 : w5.cell? ⟨k0, 0, none⟩ = some (.int .i64 a.1) := (cell_grown HU.out.2 (by omega) (by omega)).trans c02
                  have c15 : w5.cell? ⟨k0, 1, none⟩ = some (.int .i64 a.2) := (cell_grown HU.out.2 (by omega) (by omega)).trans c12
                  have hown5 : OwnL w5 wq.heap.size 34 2 adC u10 (nextJ M all wave far k a j) := World.ownsRow.kept (HO2.out.xt hx2.out) HU.out.2 (own_ne (HO2.out.xt hx2.out) (by omega))
                  have hnl : (nextJ M all wave far k a j).length ≤ 4097 := by
                    have : (waveN M (all.take k) wave far).length ≤ k := Nat.le_trans wave_len (by rw [List.length_take]; omega)
                    unfold nextJ; rw [List.length_append]; split <;> simp <;> omega
                  generalize hfe : nextJ M all wave far k a j = fs at hown5 hnl
                  have HFE := Lib.hid hfe
                  have hown5' : w5.ownsRow wq.heap.size 34 2 u10 fs.length (fs.flatMap adC) := hown5
                  have hs5l : w2.heap.size ≤ w5.heap.size := by omega
                  clear hg2 hlk hm2 hfe hown5 d0 d1 b02 b12 hs5
                  go_wp2_with (at_builtin; refine wpList_append_own _ rfl _ _ 23 rfl wq.heap.size 34 i0 (.agg #[.int .i64 0, .int .i64 0]) 2 16 Try.underlying23 hi hz0 hz1 hz2 rfl (by decide) _ _ _ rfl (hown5'.alloc _) ⟨w5.heap.size, 0, none⟩ 1 1 [.int .i64 a.1, .int .i64 a.2] rfl rfl (news_at _ [.int .i64 a.1, .int .i64 a.2] 34 (by simp)) (adC_one a) ?c4 ?c5 ?c6 ?_)
                  case c4 => unfold maxLen; omega
                  case c5 => omega
                  case c6 => first | omega | (simp; omega)
                  intro v' w3 hown3 hg3 _
                  have hg4 : w5.grownBy w3 u10.ownBlock := (World.grownBy_alloc w5 _ _).trans hg3
                  have HG4 := Lib.hid hg4
                  clear hg3 hg4
                  go_wp2_with fail
                  go_roundw
                  case rel =>
                    have hB := HB2.out HH0.out
                    have hit1 : hitJ M wave far a (j + 1) = true := by rw [HS2.out, HH0.out, HF0.out, hon]; rfl
                    have hne0 : u10.ownBlock ≠ some k0 := fun e => by have := hB _ e; omega
                    have hneb : u10.ownBlock ≠ some bw := fun e => by have := (World.ownsRow.lt hown5' _ e).1; omega
                    refine ⟨j + 1, by omega, by go_num, upE a (.int .i64 n) E2, ?_, ?_, ?_, ?_, ?_, ?_, ?_, ?_⟩
                    · rw [nextJ_hit HH0.out hit1, HFE.out]; exact OwnL.snoc hown3
                    · exact HU.out.1.of_heap (HG4.out.block bw (by omega) hneb.symm)
                    · exact HE2.out.up fun x => farJ_hit HH0.out hit1
                    · exact grownBy_old (grownBy_old (gb_trans (grownBy_old HG2.out (hx2.out.grown none) (fun g h => by cases h)) HU.out.2) (⟨rfl, rfl, rfl, Nat.le_refl _, fun _ _ _ => rfl⟩ : w5.grownBy w5 none) (fun g h => by cases h)) HG4.out (fun g hg => (World.ownsRow.lt hown5' g hg).1)
                    · intro hf; rw [hit1] at hf; cases hf
                    · have := HG4.out.size; omega
                    · exact (World.cell?_of_block (w := w5) (a := ⟨k0, 0, none⟩) (HG4.out.block k0 (by omega) hne0.symm)).trans c05
                    · exact (World.cell?_of_block (w := w5) (a := ⟨k0, 1, none⟩) (HG4.out.block k0 (by omega) hne0.symm)).trans c15
                  case measure => simp [intOf]; omega
            · have hjl : j = wave.length := by omega
              subst hjl
              go_wp2_with fail
              go_roundw
              case rel => exact ⟨k + 1, by omega, by go_num, E2, by rw [← nextJ_end HAk.out]; exact HO2.out, HM2, by rw [← farJ_end HAk.out]; exact HE2.out, HG2⟩
              case measure => simp [intOf]; omega
        · have hkl : k = all.length := by omega
          subst hkl
          have hn4 : n ≤ 4097 := by omega
          rw [(take_all M all wave n far).2] at HO
          rw [(take_all M all wave n far).1] at HE1
          go_wp2_with fail
          go_roundw
          case rel =>
            refine ⟨n + 1, waveN M all wave far, waveF M all wave n far, E1, by go_num, ?_, ?_, HW.out.round HA.out, HO.out.sl adC_len, HM1, HE1, HX.out.grownBy HG.out hbw2⟩
            · obtain ⟨s2, c2, hh, _⟩ := HO.out.sl adC_len
              rw [hh]; rfl
            · have hz := zeros_wave (M := M) (all := all) (wave := wave) (far := far) hn1
              show _ ≤ _
              split
              · omega
              · have : 0 < (waveN M all wave far).length := List.length_pos_iff.2 (by assumption)
                omega
          case measure => simp [intOf]; omega
end Go.Proofs.Ytagfgkcipomopaa
