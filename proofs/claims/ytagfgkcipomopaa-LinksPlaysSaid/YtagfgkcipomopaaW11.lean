import Derived.Test.YtagfgkcipomopaaW10
namespace Go.Proofs.Ytagfgkcipomopaa
open Go.RowKit Go.Sort

/-! ### slices.Delete(s, i, i+1) -/
theorem erase_split {α : Type} (l : List α) (i : Nat) : l.eraseIdx i = l.take i ++ l.drop (i + 1) := List.eraseIdx_eq_take_drop_succ l i
theorem setRow_grown {w : World} {g : Nat} {cs : Array Value} : w.grownBy (w.setRow g cs) (some g) := ⟨rfl, rfl, rfl, by simp, fun k _ hk => setRow_other w g k cs (fun e => hk (by rw [e]))⟩
theorem gr_drew {w w' : World} {r : Option Nat} (h : w.drew.grownBy w' r) : w.grownBy w' r := ⟨h.os, h.tape, h.output, h.size, h.block⟩
theorem flat_one (l : List Ad) : ∀ u ∈ l.flatMap adC, u.oneCell' = true := by
  intro u hu
  obtain ⟨x, _, hx⟩ := List.mem_flatMap.1 hu
  exact adC_one x u hx
theorem del_news {w : World} {g cap i : Nat} {l : List Ad} (hR : RowL w g 34 cap 2 adC l) : ∀ (j : Nat) (u : Value), ((l.drop (i + 1)).flatMap adC)[j]? = some u → w.drew.cell? ((⟨g, (i + 1) * 2, none⟩ : Addr).add j) = some u :=
  sl_news (w := w.drew) adC_len fun _ => ⟨g, (i + 1) * 2, rfl, fun j x hx t u hu => by
    rw [List.getElem?_drop] at hx
    have := hR.cell hx t u hu
    rw [show (i + 1 + j) * 2 + t = (i + 1) * 2 + j * 2 + t by omega] at this
    exact this⟩
theorem del_own {w : World} {g cap n1 i B : Nat} {l : List Ad} {zs : List Value} (hA : RowL w g 34 cap 2 adC (l.eraseIdx i)) (hcap : cap ≤ maxLen) (hB : B ≤ g) (hn : l.length = n1 + 1) (hi : i ≤ n1) :
    OwnL (w.setCells g (n1 * 2) zs) B 34 2 adC (.slice (some ⟨g, 0, none⟩) n1 cap) (l.eraseIdx i) := by
  have hl : (l.eraseIdx i).length = n1 := by rw [List.length_eraseIdx_of_lt (by omega), hn]; omega
  have := (hA.tail adC_len n1 zs).own adC_len hcap hB n1 (by rw [List.length_take, hl]; omega)
  have e : ((l.eraseIdx i).take n1).take n1 = l.eraseIdx i := by rw [List.take_take, Nat.min_self, List.take_of_length_le (by rw [hl]; exact Nat.le_refl _)]
  rwa [e] at this
set_option maxRecDepth 100000 in
set_option maxHeartbeats 1000000 in
theorem delAd_at (B g cap : Nat) (l : List Ad) (i n1 : Nat) (w : World) (hn : l.length = n1 + 1) (hR : RowL w g 34 cap 2 adC l) (hB : B ≤ g) (hcap : cap ≤ maxLen) (hi : i ≤ n1) :
    Calls Try.prog 41 #[.slice (some ⟨g, 0, none⟩) (n1 + 1) cap, .int .i64 i, .int .i64 ((i : Int) + 1)] w (CompR w B 34 2 adC (.slice (some ⟨g, 0, none⟩) (n1 + 1) cap) (l.eraseIdx i)) := by
  obtain ⟨i0, hinf, hz0, hz1, hz2⟩ := info_parts info34
  have HR := Lib.hid hR
  obtain ⟨cur, hg, hs, hlc, hcc⟩ := hR
  have HC := Lib.hid hcc
  have HG := Lib.hid hg
  have HS := Lib.hid hs
  have HN := Lib.hid hn
  rw [hn] at hlc
  have hcap' : cap ≤ 9223372036854775807 := by unfold maxLen at hcap; omega
  have HCap := Lib.hid hcap
  have hne : ((i : Int) == (i : Int) + 1) = false := by rw [beq_eq_false_iff_ne]; omega
  have e1 : ((i : Int) + 1).toNat = i + 1 := by omega
  have f1 : i ≤ cap := by omega
  have f2 : (0 : Int) ≤ (i : Int) + 1 := by omega
  have f3 : (i : Int) + 1 ≤ ((n1 + 1 : Nat) : Int) := by omega
  have f5 : ¬ cap = 0 := by omega
  have f6 : n1 ≤ cap := by omega
  have f7 : ¬ cap = n1 := by omega
  -- what the append lays
  have hdl : (l.drop (i + 1)).length = n1 - i := by rw [List.length_drop, hn]; omega
  have happ : RowL (w.drew.setRow g (cur.toList.take (i * 2) ++ (l.drop (i + 1)).flatMap adC ++ cur.toList.drop (i * 2 + ((l.drop (i + 1)).flatMap adC).length)).toArray) g 34 cap 2 adC (l.eraseIdx i) := by
    rw [erase_split]
    exact RowL.app (w := w.drew) adC_len hg hs hcc i (by omega) (l.drop (i + 1)) (by omega)
  have HA := Lib.hid happ
  have HL := Lib.hid hdl
  clear hcc hg hs hn hcap happ hdl
  by_cases hlast : i = n1
  · subst hlast
    have hd : l.drop (i + 1) = [] := List.drop_eq_nil_of_le (by rw [HN.out]; exact Nat.le_refl _)
    have HA' := HA.out
    rw [hd] at HA'
    simp only [List.flatMap_nil] at HA'
    have HA := Lib.hid HA'
    clear HA' hd
    by_cases hce : cap = i + 1
    · subst hce
      have f10 : (i : Int) ≤ (i : Int) + 1 := by omega
      have f11 : (0 : Int) ≤ (i : Int) := by omega
      have f9 : i + 1 - (i + 1) = 0 := by omega
      go_enter Try.func41, Try.ntmps41
      go_wp2_with fail
      refine wp_region_still_tail 6 (by kernel_rfl) (by kernel_rfl) ?_
      change wpStill _ _ (World.drew _) _ _ _
      simp only [List.take_succ_cons, List.take_zero, List.drop_succ_cons, List.drop_zero]
      still_step
      still_step
      still_step
      still_step
      still_step
      still_step
      refine wpStill_nil ?_
      change wpList _ _ _ _ _ (World.drew _)
      refine wpList_append_in _ rfl _ _ 23 rfl 34 i0 Try.underlying23 hinf g i (i + 1) cur HG.out ⟨g, 0, none⟩ 0 0 [] ?_ ?_ ?_ ?_ ?_ rfl ?_ ?_
      · simp
      · intro j u hu; simp at hu
      · intro u hu; simp at hu
      · omega
      · rw [hz1, HS.out]; simp; omega
      · rfl
      rw [Nat.add_zero, hz1]
      have HA1 := HA.out
      generalize hw1 : (World.drew w).setRow g _ = w1 at HA1 ⊢
      have hgr : w.grownBy w1 (some g) := by rw [← hw1]; exact gr_drew setRow_grown
      have HGR := Lib.hid hgr
      have HA2 := Lib.hid HA1
      clear hw1 hgr HA1 HA
      have hcl : ∀ ty, (Builtin.clear_ #[23] ty #[.slice (some ⟨g, i * 2, none⟩) 1 1]).run Try.prog w1 = .ok (.tuple #[]) (w1.setCells g (i * 2) (Builtin.zeroCells (Value.agg #[.int .i64 0, .int .i64 0]).cells 1).toList) :=
        fun ty => run_clear_k w1 23 34 ty _ Try.underlying23 Try.zeroValue34 g (i * 2) _ _ (by omega) (by intro v hv; simp [Value.cells] at hv; subst hv; rfl) (fun j hj => HA2.out.has (by simp [Value.cells] at hj; omega)) (fun j _ => HA2.out.froz _)
      generalize (Builtin.zeroCells (Value.agg #[.int .i64 0, .int .i64 0]).cells 1).toList = zs at hcl
      go_wp2_with fail
      go_ret
      refine ⟨_, rfl, ?_, gr_then HGR.out (setCells_grown g zs (i * 2) w1), rfl⟩
      exact del_own HA2.out HCap.out hB HN.out hi
    · have f9 : i + 1 - (i + 1) = 0 := by omega
      go_enter Try.func41, Try.ntmps41
      go_wp2_with fail
      refine wp_region_still_tail 6 (by kernel_rfl) (by kernel_rfl) ?_
      change wpStill _ _ (World.drew _) _ _ _
      simp only [List.take_succ_cons, List.take_zero, List.drop_succ_cons, List.drop_zero]
      still_step
      still_step
      still_step
      still_step
      still_step
      still_step
      refine wpStill_nil ?_
      change wpList _ _ _ _ _ (World.drew _)
      refine wpList_append_in _ rfl _ _ 23 rfl 34 i0 Try.underlying23 hinf g i cap cur HG.out ⟨g, (i + 1) * 2, none⟩ 0 (cap - (i + 1)) [] ?_ ?_ ?_ ?_ ?_ rfl ?_ ?_
      · simp
      · intro j u hu; simp at hu
      · intro u hu; simp at hu
      · omega
      · rw [hz1, HS.out]; simp; omega
      · rfl
      rw [Nat.add_zero, hz1]
      have HA1 := HA.out
      generalize hw1 : (World.drew w).setRow g _ = w1 at HA1 ⊢
      have hgr : w.grownBy w1 (some g) := by rw [← hw1]; exact gr_drew setRow_grown
      have HGR := Lib.hid hgr
      have HA2 := Lib.hid HA1
      clear hw1 hgr HA1 HA
      have hcl : ∀ ty, (Builtin.clear_ #[23] ty #[.slice (some ⟨g, i * 2, none⟩) 1 (cap - i)]).run Try.prog w1 = .ok (.tuple #[]) (w1.setCells g (i * 2) (Builtin.zeroCells (Value.agg #[.int .i64 0, .int .i64 0]).cells 1).toList) :=
        fun ty => run_clear_k w1 23 34 ty _ Try.underlying23 Try.zeroValue34 g (i * 2) _ _ (by omega) (by intro v hv; simp [Value.cells] at hv; subst hv; rfl) (fun j hj => HA2.out.has (by simp [Value.cells] at hj; omega)) (fun j _ => HA2.out.froz _)
      generalize (Builtin.zeroCells (Value.agg #[.int .i64 0, .int .i64 0]).cells 1).toList = zs at hcl
      go_wp2_with fail
      go_ret
      refine ⟨_, rfl, ?_, gr_then HGR.out (setCells_grown g zs (i * 2) w1), rfl⟩
      exact del_own HA2.out HCap.out hB HN.out hi
  · have f4 : ¬ cap = i + 1 := by omega
    have f8 : i + (n1 - i) = n1 := by omega
    have f9 : n1 + 1 - (i + 1) = n1 - i := by omega
    go_enter Try.func41, Try.ntmps41
    go_wp2_with fail
    refine wp_region_still_tail 6 (by kernel_rfl) (by kernel_rfl) ?_
    change wpStill _ _ (World.drew _) _ _ _
    simp only [List.take_succ_cons, List.take_zero, List.drop_succ_cons, List.drop_zero]
    still_step
    still_step
    still_step
    still_step
    still_step
    still_step
    refine wpStill_nil ?_
    change wpList _ _ _ _ _ (World.drew _)
    refine wpList_append_in _ rfl _ _ 23 rfl 34 i0 Try.underlying23 hinf g i cap cur HG.out ⟨g, (i + 1) * 2, none⟩ (n1 - i) (cap - (i + 1)) ((l.drop (i + 1)).flatMap adC) ?_ ?_ ?_ ?_ ?_ rfl ?_ ?_
    · rw [flat_len adC_len, HL.out, hz1]
    · exact del_news HR.out
    · exact flat_one _
    · omega
    · rw [flat_len adC_len, HL.out, hz1, HS.out]; omega
    · rfl
    rw [f8, hz1]
    have HA1 := HA.out
    generalize hw1 : (World.drew w).setRow g _ = w1 at HA1 ⊢
    have hgr : w.grownBy w1 (some g) := by rw [← hw1]; exact gr_drew setRow_grown
    have HGR := Lib.hid hgr
    have HA2 := Lib.hid HA1
    clear hw1 hgr HA1 HA
    have hcl : ∀ ty, (Builtin.clear_ #[23] ty #[.slice (some ⟨g, n1 * 2, none⟩) 1 (cap - n1)]).run Try.prog w1 = .ok (.tuple #[]) (w1.setCells g (n1 * 2) (Builtin.zeroCells (Value.agg #[.int .i64 0, .int .i64 0]).cells 1).toList) :=
      fun ty => run_clear_k w1 23 34 ty _ Try.underlying23 Try.zeroValue34 g (n1 * 2) _ _ (by omega) (by intro v hv; simp [Value.cells] at hv; subst hv; rfl) (fun j hj => HA2.out.has (by simp [Value.cells] at hj; omega)) (fun j _ => HA2.out.froz _)
    generalize (Builtin.zeroCells (Value.agg #[.int .i64 0, .int .i64 0]).cells 1).toList = zs at hcl
    go_wp2_with fail
    go_ret
    refine ⟨_, rfl, ?_, gr_then HGR.out (setCells_grown g zs (n1 * 2) w1), rfl⟩
    exact del_own HA2.out HCap.out hB HN.out hi
end Go.Proofs.Ytagfgkcipomopaa
