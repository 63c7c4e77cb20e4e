import Derived.Test.YtagfgkcipomopaaW37
namespace Go.Proofs.Ytagfgkcipomopaa
open Go.RowKit Go.Sort

/-! ### append of a whole list; 'x[:k]' -/
section
variable {α : Type} {enc : α → List Value} {k : Nat} {T : TypeId}
theorem app_list {bytes : Nat} {S : TypeId} {i : TypeInfo} {z : Value} {w : World} {base : Nat} {v u : Value} {l1 l2 : List α} (hS : Try.prog.underlying S = some (.slice T)) (hi : Try.prog.info? T = some i) (hz : i.zero = some z) (hsz : i.size = k) (hby : i.bytes = bytes) (hzk : z.cells.size = k) (hpos : 0 < k)
    (hk : ∀ x, (enc x).length = k) (hone : ∀ x, ∀ u ∈ enc x, u.oneCell' = true) (h : OwnL w base T k enc v l1) (hu : SlOf w enc k u l2) (hb : base ≤ w.heap.size) (ty : TypeId) (h63 : l1.length + l2.length ≤ maxLen) (hbytes : (l1.length + l2.length) * bytes ≤ 140737488355328) :
    ∃ v' w', (Builtin.append_ #[S, S] ty #[v, u]).run Try.prog w = .ok v' w' ∧ OwnL w' base T k enc v' (l1 ++ l2) ∧ w.grownBy w' v.ownBlock := by
  obtain ⟨a, c, rfl, q1, q2, hc⟩ := hu
  cases a with
  | none =>
    have hl : l2 = [] := Classical.byContradiction fun h => by obtain ⟨b, off, h1, _⟩ := hc h; cases h1
    subst hl
    refine ⟨v, w, ?_, by rw [List.append_nil]; exact h, ⟨rfl, rfl, rfl, Nat.le_refl _, fun _ _ _ => rfl⟩⟩
    rcases h.2 with ⟨rfl, h0⟩ | ⟨g, cap, cur, rfl, hbg, hg, hn, hcm, hs, ht⟩
    · simp [Builtin.append_, run_underlying hS, sizeOf, typeInfo, hi, Builtin.lenOf, Builtin.firstCells]
    · simp [Builtin.append_, run_underlying hS, sizeOf, typeInfo, hi, Builtin.lenOf, Builtin.firstCells, hn, storeCells]
  | some ad =>
    have A := sl_news hk hc
    have hlen : (l2.flatMap enc).length = l2.length * k := flat_len hk l2
    have ho : ∀ u ∈ l2.flatMap enc, u.oneCell' = true := by
      intro u hu
      obtain ⟨x, _, hx⟩ := List.mem_flatMap.1 hu
      exact hone x u hx
    obtain ⟨v2, w2, hr2, k2, k3, k4⟩ := run_append_own (P := Try.prog) w base S ty T i z k bytes hS hi hz hsz hby hzk hpos v l1.length (l1.flatMap enc) h ad l2.length c (l2.flatMap enc) hlen A ho h63 hbytes hb
    refine ⟨v2, w2, hr2, ?_, k3⟩
    unfold OwnL
    rw [List.length_append, List.flatMap_append]
    exact k2
theorem to_any {w : World} {a : Option Addr} {n cap : Nat} {l : List α} {S : TypeId} (hS : Try.prog.underlying S = some (.slice (Try.prog.elem S))) (hE : Try.prog.elem S = T) (hz : ∀ w, (sizeOf T).run Try.prog w = .ok k w) (h : SlOf w enc k (.slice a n cap) l) (j : Nat) (hj : j ≤ l.length) :
    ∃ a', (∀ W, (Instr.slice S (.slice a n cap) none (some (.int .i64 (j : Int))) none).run Try.prog W = .ok (.slice a' j cap) W) ∧ SlOf w enc k (.slice a' j cap) (l.take j) := by
  obtain ⟨a0, c0, e, q1, q2, hc⟩ := h
  cases e
  have htl : (l.take j).length = j := by rw [List.length_take]; omega
  have hrun : ∀ W, (Instr.slice S (.slice a l.length cap) none (some (.int .i64 (j : Int))) none).run Try.prog W = .ok (sliced a 0 j cap k) W := fun W => by
    rw [run_slice_h W S a l.length cap hS .i64 j (by omega) (by omega), hE, hz]
    simp
  obtain ⟨a', ha', hsame⟩ : ∃ a', sliced a 0 j cap k = .slice a' j cap ∧ ∀ b off, a = some ⟨b, off, none⟩ → a' = some ⟨b, off, none⟩ := by
    refine ⟨_, rfl, fun b off e => ?_⟩
    subst e
    simp [Addr.add_lit]
  refine ⟨a', fun W => by rw [hrun, ha'], a', cap, by rw [htl], by omega, q2, fun hne => ?_⟩
  have hl : l ≠ [] := by intro e; subst e; simp at hne
  obtain ⟨b, off, e, hcell⟩ := hc hl
  refine ⟨b, off, hsame b off e, fun t x hx i u hu => ?_⟩
  rw [List.getElem?_take] at hx
  split at hx
  · exact hcell t x hx i u hu
  · cases hx
end
/-! ### lent -/
set_option maxRecDepth 100000 in
set_option maxHeartbeats 1000000 in
theorem lent59_any (v : Value) (l : List Ad) (w : World) (h : SlOf w adC 2 v l) (hl : l.length ≤ 8796093021952) : Calls Try.prog 59 #[v] w (RetL w (l ++ [(77, 7)])) := by
  obtain ⟨i0, hi, hz0, hz1, hz2⟩ := info_parts info34
  obtain ⟨v1, w1, hr, hown, hg⟩ := app_list (S := 23) (base := w.heap.size) Try.underlying23 hi hz0 hz1 hz2 rfl (by decide) adC_len adC_one (show OwnL w w.heap.size 34 2 adC (.slice none 0 0) [] from World.ownsRow_nil _ _ _ _) h (Nat.le_refl _) 23 (by unfold maxLen; simp; omega) (by simp; omega)
  rw [List.nil_append] at hown
  have HX1 : Hid (Xt w w1) := Below.grown (Below.refl _ w) hg (Nat.le_refl _) (fun q hq => by cases hq)
  have hs := hg.size
  have hown' : w1.ownsRow w.heap.size 34 2 v1 l.length (l.flatMap adC) := hown
  clear hown h hg
  go_enter Try.func59, Try.ntmps59
  go_wp2_with (at_builtin; first | refine wpList_append_eq rfl _ _ 23 rfl _ _ rfl rfl hr ?_ | refine wpList_append_own _ rfl _ _ 23 rfl w.heap.size 34 i0 (.agg #[.int .i64 0, .int .i64 0]) 2 16 Try.underlying23 hi hz0 hz1 hz2 rfl (by decide) _ _ _ rfl (hown'.alloc _) ⟨w1.heap.size, 0, none⟩ 1 1 [.int .i64 77, .int .i64 7] rfl rfl (news_at _ [.int .i64 77, .int .i64 7] 34 (by simp)) (adC_one (77, 7)) ?c4 ?c5 ?c6 ?_)
  case c4 => unfold maxLen; omega
  case c5 => omega
  case c6 => first | omega | (simp; omega)
  intro v' w3 hown3 hg3 _
  have hg4 : w1.grownBy w3 v1.ownBlock := (World.grownBy_alloc w1 _ _).trans hg3
  go_wp2_with fail
  go_ret
  exact ⟨v', rfl, OwnL.snoc hown3, Below.grown HX1.out hg4 hs (fun q hq => (World.ownsRow.lt hown' q hq).1)⟩
/-! ### back -/
set_option maxRecDepth 100000 in
set_option maxHeartbeats 1000000 in
theorem back61_any (v u : Value) (l : List Ad) (w : World) (hv : SlOf w adC 2 v (l ++ [(77, 7)])) (hu : SlOf w adC 2 u l) : Calls Try.prog 61 #[v, u] w fun e w' => e = .returned (.bool true) ∧ Gr w w' := by
  have HV := Lib.hid hv
  have HU := Lib.hid hu
  obtain ⟨a, c, rfl, q1, q2, hc⟩ := hv
  obtain ⟨b, off, rfl, hcell⟩ := hc (by simp)
  obtain ⟨d0, d1⟩ := ad_cells (hcell l.length (77, 7) (by simp))
  obtain ⟨a', hsl, hS⟩ := to_any (S := 23) Try.underlying23 rfl (fun w => by kernel_rfl) HV.out l.length (by simp)
  rw [List.take_left] at hS
  have HS := Lib.hid hS
  have hn : (l ++ [((77 : Int), (7 : Int))]).length = l.length + 1 := by simp
  rw [hn] at hsl ⊢
  obtain ⟨ub, uc, rfl, _, _, _⟩ := hu
  have hbl : b < w.heap.size := World.block_lt_of_cell? w _ d0
  have hki : (l.length : Int) < ((l.length + 1 : Nat) : Int) := by omega
  have heq : ∀ W, (binOp .eql 34 (.agg #[.int .i64 77, .int .i64 7]) (.agg #[.int .i64 77, .int .i64 7])).run Try.prog W = .ok (.bool true) W := fun W => by rw [eql34]; simp
  clear hc hcell hS hn
  go_enter Try.func61, Try.ntmps61
  go_wp2_with fail
  refine (addrs_any _ _ l l w HS.out HU.out).mono ?_
  rintro e w1 ⟨rfl, hg1⟩
  rw [decide_eq_true (rfl : l = l)]
  have d0s := ((hg1.xt.cells).1 b _ hbl).trans d0
  have d1s := ((hg1.xt.cells).1 b _ hbl).trans d1
  have HG1 := Lib.hid hg1
  clear hg1 hsl d0 d1
  go_wp2_with fail
  go_ret
  exact ⟨rfl, HG1.out⟩
/-! ### spoil -/
set_option maxRecDepth 100000 in
set_option maxHeartbeats 2000000 in
theorem spoil58_any (B : Nat) (v : Value) (l : List Ad) (w : World) (h : OwnL w B 34 2 adC v l) (hB : B ≤ w.heap.size) (hl : l.length ≤ 2000000) : Calls Try.prog 58 #[v] w fun e w' => e = .returned (.tuple #[]) ∧ Below B w w' := by
  obtain ⟨i0, hi, hz0, hz1, hz2⟩ := info_parts info34
  obtain ⟨a, c, rfl, q1, q2, _⟩ := h.sl adC_len
  have HO0 := Lib.hid h
  clear h
  go_enter Try.func58, Try.ntmps58
  go_wp2_with fail
  go_loopw [2] (fun s2 wr => ∃ i : Nat, i ≤ l.length ∧ s2 = .int .i64 i ∧ Hid (∃ d : List Ad, d.length = l.length ∧ OwnL wr B 34 2 adC (.slice a l.length c) d) ∧ Hid (Below B w wr)) (fun s2 _ => l.length - (intOf s2).toNat)
  case atStart => exact ⟨0, Nat.zero_le _, rfl, ⟨l, rfl, HO0.out⟩, Below.refl _ _⟩
  case round =>
    obtain ⟨i, hi', rfl, HO, HX⟩ := hrel
    by_cases hlt : i < l.length
    · obtain ⟨d, hdl, hown⟩ := HO.out
      obtain ⟨g, cg, hvg, hgb, hgc, hrow⟩ := RowL.of_own hown adC_len (by intro e; subst e; simp at hdl; omega)
      rw [hdl] at hvg
      cases hvg
      obtain ⟨z, hz⟩ : ∃ z, d[i]? = some z := ⟨d[i]'(by omega), by simp⟩
      obtain ⟨z0, z1⟩ := ad_cells (hrow.cell hz)
      have f0 := hrow.froz (i * 2)
      have f1 := hrow.froz (i * 2 + 1)
      have hki : (i : Int) < (l.length : Int) := by omega
      have HROW := Lib.hid hrow
      have HDL := Lib.hid hdl
      clear hown hrow hz hdl
      go_wp2_with fail
      go_roundw
      case rel =>
        have hs := HROW.out.set adC_len (j := i) (by rw [HDL.out]; exact hlt) (-7, 0)
        have hs2 := hs.own adC_len hgc hgb d.length (by simp)
        rw [List.take_of_length_le (by simp), HDL.out] at hs2
        refine ⟨i + 1, by omega, by go_num, ⟨_, by rw [List.length_set]; exact HDL.out, hs2⟩, ?_⟩
        exact Below.grown HX.out (setCells_grown g (adC (-7, 0)) (i * 2) wr) (by have := HX.out.size; omega) (fun q hq => by cases hq; exact hgb)
      case measure => simp [intOf]; omega
    · have HO2 : Hid (∃ d : List Ad, d.length ≤ 2000000 ∧ OwnL wr B 34 2 adC (.slice a l.length c) d) := by
        obtain ⟨d, h1, h2⟩ := HO.out
        exact ⟨d, by omega, h2⟩
      clear HO
      go_wp2_with fail
      go_loopw [0, 3] (fun s0 s3 wr => ∃ i : Nat, i ≤ 9 ∧ s3 = .int .i64 i ∧ Hid (∃ d : List Ad, d.length ≤ 2000000 + i ∧ OwnL wr B 34 2 adC s0 d) ∧ Hid (Below B w wr)) (fun _ s3 _ => 9 - (intOf s3).toNat)
      case atStart => exact ⟨0, by omega, rfl, HO2, HX⟩
      case round =>
        obtain ⟨i, hi', rfl, HO, HX⟩ := hrel
        by_cases hlt : (i : Int) < 9
        · obtain ⟨d, hdl, hown⟩ := HO.out
          have hown' : wr.ownsRow B 34 2 u0 d.length (d.flatMap adC) := hown
          have hBr : B ≤ wr.heap.size := by have := HX.out.size; omega
          clear hown
          go_wp2_with (at_builtin; refine wpList_append_own _ rfl _ _ 23 rfl B 34 i0 (.agg #[.int .i64 0, .int .i64 0]) 2 16 Try.underlying23 hi hz0 hz1 hz2 rfl (by decide) _ _ _ rfl (hown'.alloc _) ⟨wr.heap.size, 0, none⟩ 1 1 [.int .i64 (-8), .int .i64 0] rfl rfl (news_at _ [.int .i64 (-8), .int .i64 0] 34 (by simp)) (adC_one (-8, 0)) ?c4 ?c5 ?c6 ?_)
          case c4 => unfold maxLen; omega
          case c5 => omega
          case c6 => first | omega | (simp; omega)
          intro v' w3 hown3 hg3 _
          have hg4 : wr.grownBy w3 u0.ownBlock := (World.grownBy_alloc wr _ _).trans hg3
          go_wp2_with fail
          go_roundw
          case rel =>
            refine ⟨i + 1, by omega, by go_num, ⟨d ++ [(-8, 0)], by simp; omega, OwnL.snoc hown3⟩, ?_⟩
            exact Below.grown HX.out hg4 hBr (fun q hq => (World.ownsRow.lt hown' q hq).1)
          case measure => simp [intOf]; omega
        · go_wp2_with fail
          go_end0
          exact ⟨rfl, HX.out⟩
end Go.Proofs.Ytagfgkcipomopaa
