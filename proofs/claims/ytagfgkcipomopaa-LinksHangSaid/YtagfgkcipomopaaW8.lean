import Derived.Test.YtagfgkcipomopaaW7
namespace Go.Proofs.Ytagfgkcipomopaa
open Go.RowKit Go.Sort Go.Lib

/-! ### the same of areas -/
theorem stood41 : Try.prog.stoodInHeld 41 = false := by kernel_rfl
theorem und41 : Try.prog.underlying 41 = some (.struct (Try.prog.fieldsOf 41)) := by kernel_rfl
theorem eqAr (w : World) (a b c d a' b' c' d' : Int) : (Op.equal 41 (.agg #[.int .i64 a, .int .i64 b, .int .i64 c, .int .i64 d]) (.agg #[.int .i64 a', .int .i64 b', .int .i64 c', .int .i64 d'])).run Try.prog w = .ok (decide (((a, b), (c, d)) = ((a', b'), (c', d')))) w := by
  have h := run_equalIn_struct (P := Try.prog) w 9999 41 #[.int .i64 a, .int .i64 b, .int .i64 c, .int .i64 d] #[.int .i64 a', .int .i64 b', .int .i64 c', .int .i64 d'] und41 stood41
  simp only [Op.equal, Op.maxDepth]
  rw [show (10000 : Nat) = 9999 + 1 from rfl, h]
  simp only [Program.fieldsOf, Try.underlying41]
  have h2 : ∀ (a b c d : Int) (w : World), (Op.equalIn 9999 34 (.agg #[.int .i64 a, .int .i64 b]) (.agg #[.int .i64 c, .int .i64 d])).run Try.prog w = .ok (decide ((a, b) = (c, d))) w := by
    intro a b c d w
    have h := run_equalIn_struct (P := Try.prog) w 9998 34 #[.int .i64 a, .int .i64 b] #[.int .i64 c, .int .i64 d] und34 stood34
    rw [show (9999 : Nat) = 9998 + 1 from rfl, h]
    simp only [Program.fieldsOf, Try.underlying34]
    go_simp
    by_cases h1 : a = c <;> by_cases h2 : b = d <;> simp [h1, h2]
  go_simp
  by_cases h1 : a = a' <;> by_cases h3 : b = b' <;> by_cases h4 : c = c' <;> by_cases h5 : d = d' <;> simp [h1, h3, h4, h5]
theorem eql41 (w : World) (a b c d a' b' c' d' : Int) : (binOp .eql 41 (.agg #[.int .i64 a, .int .i64 b, .int .i64 c, .int .i64 d]) (.agg #[.int .i64 a', .int .i64 b', .int .i64 c', .int .i64 d'])).run Try.prog w = .ok (.bool (decide (((a, b), (c, d)) = ((a', b'), (c', d'))))) w := by
  simp only [binOp]
  simp [eqAr]
theorem neq41 (w : World) (a b c d a' b' c' d' : Int) : (binOp .neq 41 (.agg #[.int .i64 a, .int .i64 b, .int .i64 c, .int .i64 d]) (.agg #[.int .i64 a', .int .i64 b', .int .i64 c', .int .i64 d'])).run Try.prog w = .ok (.bool (!decide (((a, b), (c, d)) = ((a', b'), (c', d'))))) w := by
  simp only [binOp]
  simp [eqAr]
theorem compAr_short {B : Nat} {v : Value} {l : List Ar} {w : World} (h : OwnL w B 41 4 arC v l) (hl : l.length < 2) :
    Calls Try.prog 47 #[v] w (CompR w B 41 4 arC v (compL l)) := by
  obtain ⟨a, cap, rfl, _⟩ := h.sl arC_len
  have H := Lib.hid h
  clear h
  go_enter Try.func47, Try.ntmps47
  go_wp2
  go_ret
  exact ⟨_, rfl, by rw [compL_short hl]; exact H.out, ⟨rfl, rfl, rfl, Nat.le_refl _, fun _ _ _ => rfl⟩, rfl⟩

set_option maxHeartbeats 2000000 in
set_option maxRecDepth 100000 in
theorem compAr_long (B g cap : Nat) (l : List Ar) (w : World) (hR : RowL w g 41 cap 4 arC l) (hB : B ≤ g) (hcap : cap ≤ maxLen) (h2 : 2 ≤ l.length) :
    Calls Try.prog 47 #[.slice (some ⟨g, 0, none⟩) l.length cap] w (CompR w B 41 4 arC (.slice (some ⟨g, 0, none⟩) l.length cap) (compL l)) := by
  have hlc : l.length ≤ cap := by obtain ⟨_, _, _, h, _⟩ := hR; exact h
  have hcap' : cap ≤ 9223372036854775807 := by unfold maxLen at hcap; omega
  have HR := Lib.hid hR
  clear hR
  go_enter Try.func47, Try.ntmps47
  go_wp2
  go_loopg [3] l.length (fun gk s3 wr => ∃ k q : Nat, 1 ≤ k ∧ k ≤ l.length ∧ l.length - k ≤ gk ∧ s3 = .int .i64 k ∧ wr = w.drewN q ∧ ∀ j, j < k → keeps l.toArray j = true)
  case atStart => exact ⟨1, 0, Nat.le_refl _, by omega, by omega, rfl, rfl, keeps_lt_one _⟩
  case round =>
    obtain ⟨k, q, hk1, hk, hg, rfl, rfl, hall⟩ := hrel
    by_cases hlt : k < l.length
    · obtain ⟨x, hx⟩ : ∃ x, l[k]? = some x := ⟨l[k], by simp⟩
      obtain ⟨y, hy⟩ : ∃ y, l[k - 1]? = some y := ⟨l[k - 1]'(by omega), by simp⟩
      obtain ⟨c0, c1, c2, c3⟩ := ar_cells (HR.out.cell hx)
      obtain ⟨d0, d1, d2, d3⟩ := ar_cells (HR.out.cell hy)
      have e1 : IntKind.i64.wrap ((k : Int) - 1) = (k : Int) - 1 := IntWalk.i64_in _ (by omega)
      have e2 : ((k : Int) - 1).toNat = k - 1 := by omega
      have e3 : (0 : Int) ≤ (k : Int) - 1 := by omega
      have e4 : (k : Int) - 1 < (l.length : Int) := by omega
      have e5 : (1 : Int) ≤ (k : Int) := by omega
      have HK := Lib.hid hall
      have HX := Lib.hid hx
      have HY := Lib.hid hy
      clear hall hx hy
      by_cases hdup : x = y
      · have heq : ∀ W, (binOp .eql 41 (.agg #[.int .i64 x.1.1, .int .i64 x.1.2, .int .i64 x.2.1, .int .i64 x.2.2]) (.agg #[.int .i64 y.1.1, .int .i64 y.1.2, .int .i64 y.2.1, .int .i64 y.2.2])).run Try.prog W = .ok (.bool true) W := fun W => by rw [eql41]; simp [hdup]
        have HD := Lib.hid hdup
        clear hdup
        go_wp2_with fail
        go_quiet (fail)
        clear e1 e2 e3 e4 e5 heq c0 c1 c2 c3 d0 d1 d2 d3
        go_wp2_with fail
        go_loopg [3, 5] l.length (fun gk s3 s5 wr => ∃ (kk k2 : Nat) (dk : Array Ar), s3 = .int .i64 kk ∧ s5 = .int .i64 k2 ∧ 1 ≤ k2 ∧ k + k2 ≤ l.length ∧ l.length - (k + k2) ≤ gk ∧ RowL wr g 41 cap 4 arC dk.toList ∧ w.grownBy wr (some g) ∧ Hid (CompInv l.toArray (k + k2) kk dk))
        case atStart => exact ⟨k, 1, l.toArray, rfl, rfl, Nat.le_refl _, by omega, by omega, (by simpa using HR.out.of_heap (w' := w.drewN (q + nq)) rfl), ⟨rfl, rfl, rfl, Nat.le_refl _, fun _ _ _ => rfl⟩, CompInv.start HK.out (keeps_neg (by omega) (by rw [at_get HX.out, at_get HY.out, HD.out]))⟩
        case round =>
          obtain ⟨kk, k2, dk, rfl, rfl, h1, hle, hg2, hR2, hgr, HI⟩ := hrel
          have hkk := HI.out.lt
          have hds : dk.size = l.length := by have := HI.out.size; simpa using this
          have HR2 := Lib.hid hR2
          have HG := Lib.hid hgr
          clear hR2 hgr
          by_cases hlt2 : k + k2 < l.length
          · obtain ⟨u, hu⟩ : ∃ u, l[k + k2]? = some u := ⟨l[k + k2], by simp⟩
            obtain ⟨v, hv⟩ : ∃ v, l[k + k2 - 1]? = some v := ⟨l[k + k2 - 1]'(by omega), by simp⟩
            have hu' : dk.toList[k + k2]? = some u := by rw [get_at (by omega), HI.out.high _ (by omega), at_get hu]
            have hv' : dk.toList[k + k2 - 1]? = some v := by rw [get_at (by omega), HI.out.high _ (by omega), at_get hv]
            have hk' : dk.toList[kk]? = some dk[kk]! := get_at (by omega)
            obtain ⟨c0, c1, c2, c3⟩ := ar_cells (HR2.out.cell hu')
            obtain ⟨d0, d1, d2, d3⟩ := ar_cells (HR2.out.cell hv')
            obtain ⟨b0, b1, b2, b3⟩ := ar_cells (HR2.out.cell hk')
            have f0 := HR2.out.froz (kk * 4)
            have f1 := HR2.out.froz (kk * 4 + 1)
            have f2 := HR2.out.froz (kk * 4 + 2)
            have f3 := HR2.out.froz (kk * 4 + 3)
            rw [show (k + k2) * 4 = k * 4 + k2 * 4 by omega] at c0 c1 c2 c3
            rw [show (k + k2 - 1) * 4 = k * 4 + (k2 - 1) * 4 by omega] at d0 d1 d2 d3
            have e1 : IntKind.i64.wrap ((k2 : Int) - 1) = (k2 : Int) - 1 := IntWalk.i64_in _ (by omega)
            have e2 : ((k2 : Int) - 1).toNat = k2 - 1 := by omega
            have e3 : (0 : Int) ≤ (k2 : Int) - 1 := by omega
            have e4 : (k2 : Int) - 1 < ((l.length - k : Nat) : Int) := by omega
            have e5 : (1 : Int) ≤ (k2 : Int) := by omega
            have e6 : (k2 : Int) < ((l.length - k : Nat) : Int) := by omega
            have e7 : k2 < l.length - k := by omega
            have HU := Lib.hid hu
            have HV := Lib.hid hv
            clear hu hv hu' hv' hk'
            generalize dk[kk]! = old at b0 b1 b2 b3
            by_cases huv : u = v
            · have heq : ∀ W, (binOp .neq 41 (.agg #[.int .i64 u.1.1, .int .i64 u.1.2, .int .i64 u.2.1, .int .i64 u.2.2]) (.agg #[.int .i64 v.1.1, .int .i64 v.1.2, .int .i64 v.2.1, .int .i64 v.2.2])).run Try.prog W = .ok (.bool false) W := fun W => by rw [neq41]; simp [huv]
              have HD2 := Lib.hid huv
              clear huv
              go_wp2_with fail
              go_quiet (fail)
              clear e1 e2 e3 e4 e5 e6
              go_wp2_with fail
              go_roundg (l.length - (k + (k2 + 1)))
              case measure => omega
              case rel => exact ⟨kk, k2 + 1, dk, rfl, by go_num, by omega, by omega, Nat.le_refl _, HR2.out.of_heap rfl, gr_drewN HG.out _, HI.out.skip (keeps_neg (by omega) (by rw [at_get HU.out, at_get HV.out]; exact HD2.out))⟩
            · have heq : ∀ W, (binOp .neq 41 (.agg #[.int .i64 u.1.1, .int .i64 u.1.2, .int .i64 u.2.1, .int .i64 u.2.2]) (.agg #[.int .i64 v.1.1, .int .i64 v.1.2, .int .i64 v.2.1, .int .i64 v.2.2])).run Try.prog W = .ok (.bool true) W := fun W => by rw [neq41, decide_eq_false (show ¬ (((u.1.1, u.1.2), (u.2.1, u.2.2)) = ((v.1.1, v.1.2), (v.2.1, v.2.2))) from huv)]; rfl
              have HD2 := Lib.hid huv
              clear huv
              go_wp2_with fail
              go_quiet (fail)
              clear e1 e2 e3 e4 e5
              go_wp2_with fail
              go_roundg (l.length - (k + (k2 + 1)))
              case measure => omega
              case rel =>
                refine ⟨kk + 1, k2 + 1, dk.setIfInBounds kk u, by go_num, by go_num, by omega, by omega, Nat.le_refl _, ?_, ?_, ?_⟩
                · have := (HR2.out.set arC_len (show kk < dk.toList.length by simp; omega) u).of_heap (w' := ((wr.drewN nq).setCells g (kk * 4) (arC u))) rfl
                  rw [show (dk.setIfInBounds kk u).toList = dk.toList.set kk u by simp]; exact this
                · exact gr_then (gr_drewN HG.out nq) (setCells_grown g (arC u) (kk * 4) (wr.drewN nq))
                · have := HI.out.keep (by simpa using hlt2) (keeps_pos (by rw [at_get HU.out, at_get HV.out]; exact HD2.out))
                  rwa [at_get HU.out] at this
          · have hend : k + k2 = l.length := by omega
            have hcl : ∀ ty, (Builtin.clear_ #[42] ty #[.slice (some ⟨g, kk * 4, none⟩) (l.length - kk) (cap - kk)]).run Try.prog wr = .ok (.tuple #[]) (wr.setCells g (kk * 4) (Builtin.zeroCells (Value.agg #[.int .i64 0, .int .i64 0, .int .i64 0, .int .i64 0]).cells (l.length - kk)).toList) :=
              fun ty => run_clear_k wr 42 41 ty _ Try.underlying42 Try.zeroValue41 g (kk * 4) _ _ (by omega) (by intro v hv; simp [Value.cells] at hv; subst hv; rfl) (fun j hj => by
                have hj' : j < (l.length - kk) * 4 := by simpa [Value.cells] using hj
                have hc := HR2.out.cell (get_at (d := dk) (j := kk + j / 4) (by omega)) (j % 4)
                have h2 : ∃ u, (arC dk[kk + j / 4]!)[j % 4]? = some u := by
                  have h4 : j % 4 = 0 ∨ j % 4 = 1 ∨ j % 4 = 2 ∨ j % 4 = 3 := by omega
                  rcases h4 with h | h | h | h <;> rw [h] <;> exact ⟨_, rfl⟩
                obtain ⟨u, hu⟩ := h2
                have := hc u hu
                rw [show (kk + j / 4) * 4 + j % 4 = kk * 4 + j by omega] at this
                rw [this]; rfl) (fun j _ => HR2.out.froz _)
            generalize (Builtin.zeroCells (Value.agg #[.int .i64 0, .int .i64 0, .int .i64 0, .int .i64 0]).cells (l.length - kk)).toList = zs at hcl
            go_wp2_with fail
            go_ret
            have hI := HI.out
            rw [hend] at hI
            have ec : compL l = (dk.toList.take kk).take kk := by
              unfold compL
              apply List.ext_getElem?
              intro j
              have hl1 := hI.len
              have hlow := hI.low j
              rw [List.getElem?_take, List.getElem?_take]
              by_cases hj : j < kk
              · rw [hlow hj, if_pos hj, if_pos hj, get_at (by omega)]
              · rw [if_neg hj, List.getElem?_eq_none (by rw [hl1]; omega)]
            refine ⟨_, rfl, ?_, gr_then HG.out (setCells_grown g zs (kk * 4) wr), rfl⟩
            rw [ec]
            exact (HR2.out.tail arC_len kk zs).own arC_len hcap hB kk (by rw [List.length_take]; simp; omega)
      · have heq : ∀ W, (binOp .eql 41 (.agg #[.int .i64 x.1.1, .int .i64 x.1.2, .int .i64 x.2.1, .int .i64 x.2.2]) (.agg #[.int .i64 y.1.1, .int .i64 y.1.2, .int .i64 y.2.1, .int .i64 y.2.2])).run Try.prog W = .ok (.bool false) W := fun W => by rw [eql41, decide_eq_false (show ¬ (((x.1.1, x.1.2), (x.2.1, x.2.2)) = ((y.1.1, y.1.2), (y.2.1, y.2.2))) from hdup)]
        have HD := Lib.hid hdup
        clear hdup
        go_wp2_with fail
        go_quiet (fail)
        clear e1 e2 e3 e4 heq c0 c1 c2 c3 d0 d1 d2 d3
        go_wp2_with fail
        go_roundg (l.length - (k + 1))
        case measure => omega
        case rel =>
          refine ⟨k + 1, q + nq, by omega, by omega, Nat.le_refl _, by go_num, by simp, fun j hj => ?_⟩
          by_cases e : j = k
          · subst e
            exact keeps_pos (by rw [at_get HX.out, at_get HY.out]; exact HD.out)
          · exact HK.out j (by omega)
    · have hkl : k = l.length := by omega
      subst hkl
      have HK := Lib.hid hall
      clear hall
      go_wp2_with fail
      go_ret
      have e : compL l = l := by
        unfold compL
        rw [compactUpTo_all _ _ HK.out]
        have := range_map_get l.toArray
        simpa using this
      refine ⟨_, rfl, ?_, ⟨rfl, rfl, rfl, Nat.le_refl _, fun _ _ _ => rfl⟩, rfl⟩
      rw [e]
      have := (HR.out.of_heap (w' := w.drewN q) rfl).own arC_len hcap hB l.length (Nat.le_refl _)
      rwa [List.take_length] at this
end Go.Proofs.Ytagfgkcipomopaa
