import Derived.Test.YtagfgkcipomopaaW32
import Derived.Laws.EntriesVeiled
namespace Go.Proofs.Ytagfgkcipomopaa
open Go.RowKit Go.Sort

/-! ### Above -/
theorem cell_new (w : World) (c : Value) (t : TypeId) : (w.alloc (Obj.cells #[c] t)).cell? ⟨w.heap.size, 0, none⟩ = some c := by simp
theorem above_start (w : World) (v f : Value) : ∃ W, (((w.alloc (Obj.map #[] 0)).alloc (Obj.cells #[v] 23)).alloc (Obj.cells #[Value.map (some w.heap.size)] 71)).alloc (Obj.cells #[f] 87) = W ∧ W.heap.size = w.heap.size + 1 + 1 + 1 + 1 ∧
    MapIs W w.heap.size [] ∧ W.cell? ⟨w.heap.size + 1, 0, none⟩ = some v ∧ W.cell? ⟨w.heap.size + 1 + 1, 0, none⟩ = some (.map (some w.heap.size)) ∧ W.cell? ⟨w.heap.size + 1 + 1 + 1, 0, none⟩ = some f ∧ Xt w W := by
  refine ⟨_, rfl, by simp, ?_, ?_, ?_, ?_, (((Xt.refl _).alloc _).alloc _).alloc _ |>.alloc _⟩
  · exact (MapIs.made w).of_heap (RowKit.Below.block ((((Xt.refl (w.alloc (Obj.map #[] 0))).alloc _).alloc _).alloc _) _ (by simp))
  · have h : ((w.alloc (Obj.map #[] 0)).alloc (Obj.cells #[v] 23)).cell? ⟨(w.alloc (Obj.map #[] 0)).heap.size, 0, none⟩ = some v := cell_new _ _ _
    rw [show (w.alloc (Obj.map #[] 0)).heap.size = w.heap.size + 1 by simp] at h
    exact ((Xt.cells (((Xt.refl ((w.alloc (Obj.map #[] 0)).alloc (Obj.cells #[v] 23))).alloc _).alloc _)).1 _ _ (by simp)).trans h
  · have h : (((w.alloc (Obj.map #[] 0)).alloc (Obj.cells #[v] 23)).alloc (Obj.cells #[Value.map (some w.heap.size)] 71)).cell? ⟨((w.alloc (Obj.map #[] 0)).alloc (Obj.cells #[v] 23)).heap.size, 0, none⟩ = some (.map (some w.heap.size)) := cell_new _ _ _
    rw [show ((w.alloc (Obj.map #[] 0)).alloc (Obj.cells #[v] 23)).heap.size = w.heap.size + 1 + 1 by simp] at h
    exact ((Xt.cells ((Xt.refl (((w.alloc (Obj.map #[] 0)).alloc (Obj.cells #[v] 23)).alloc (Obj.cells #[Value.map (some w.heap.size)] 71))).alloc _)).1 _ _ (by simp)).trans h
  · have h : ((((w.alloc (Obj.map #[] 0)).alloc (Obj.cells #[v] 23)).alloc (Obj.cells #[Value.map (some w.heap.size)] 71)).alloc (Obj.cells #[f] 87)).cell? ⟨(((w.alloc (Obj.map #[] 0)).alloc (Obj.cells #[v] 23)).alloc (Obj.cells #[Value.map (some w.heap.size)] 71)).heap.size, 0, none⟩ = some f := cell_new _ _ _
    rw [show (((w.alloc (Obj.map #[] 0)).alloc (Obj.cells #[v] 23)).alloc (Obj.cells #[Value.map (some w.heap.size)] 71)).heap.size = w.heap.size + 1 + 1 + 1 by simp] at h
    exact h
set_option maxRecDepth 100000 in
set_option maxHeartbeats 4000000 in
theorem above29_any (pb bm : Nat) (F : Nat → Prop) (M : Mp) (v : Value) (at_ : List Ad) (w : World) (h : Lk w pb bm F M) (hF : ∀ b, F b → b < w.heap.size) (hv : SlOf w adC 2 v at_) :
    Calls Try.prog 29 #[.pointer (some ⟨pb, 0, none⟩), v] w (RetL w (aboveM M at_)) := by
  obtain ⟨i0, hi, hz0, hz1, hz2⟩ := info_parts info34
  have hmm := @run_makeMap Try.prog
  have hmf : ∀ (fn : Fn) (first cap : Array Value) (w : World), (Instr.makeFunc fn first cap).run Try.prog w = .ok (.func fn first cap) w := fun _ _ _ _ => rfl
  have H := Lib.hid h
  have HF := Lib.hid hF
  have HV := Lib.hid hv
  have hmany : (M.map (·.1)).length ≤ 4096 := by simpa using h.many
  have HND : Hid (M.map (·.1)).Nodup := by obtain ⟨E, _, he⟩ := h.map; exact nodup_M he.sorted
  have HAL : Hid (∀ a b, onM M a b = true → a ∈ M.map (·.1)) := fun a b h => onM_key h
  obtain ⟨sa, ca, rfl, q1, q2, hcc⟩ := hv
  have HC := Lib.hid hcc
  obtain ⟨w0, hw0⟩ : ∃ w0, w.alloc (.cells #[.pointer (some ⟨pb, 0, none⟩)] 26) = w0 := ⟨_, rfl⟩
  have hb0 : Xt w w0 := by rw [← hw0]; exact (Xt.refl _).alloc _
  have hs0 : w0.heap.size = w.heap.size + 1 := by rw [← hw0]; simp
  have c0 : w0.cell? ⟨w.heap.size, 0, none⟩ = some (.pointer (some ⟨pb, 0, none⟩)) := by rw [← hw0]; simp
  have H0 : Hid (Lk w0 pb bm F M) := h.xt hF hb0
  have HX0 := Lib.hid hb0
  clear h hF hcc hb0
  go_enter Try.func29, Try.ntmps29
  go_wp2_with fail
  refine (set_any pb bm F M w0 H0.out).mono ?_
  rintro e w1 ⟨v1, rfl, hown1, hx1⟩
  obtain ⟨s1, ca1, rfl, r1, r2, hc1⟩ := hown1.sl adC_len
  have HS1 := Lib.hid (hown1.sl adC_len)
  have hs1 := hx1.sz
  have HX1 := Lib.hid hx1
  have HC1 := Lib.hid hc1
  rw [← (hx1.cells).1 _ _ (by omega)] at c0
  clear hw0 hx1 hown1 hc1
  go_wp2_with fail
  clear hmm hmf
  obtain ⟨wS, hwS, hsS, hmS, f0, f1, f2, hxS⟩ := above_start w1 (Value.slice s1 (List.length M) ca1) (Value.func (Fn.func 54) #[] #[Value.pointer (some ⟨w1.heap.size + 1, 0, none⟩), Value.pointer (some ⟨w1.heap.size + 1 + 1, 0, none⟩), Value.pointer (some ⟨w.heap.size, 0, none⟩), Value.pointer (some ⟨w1.heap.size + 1 + 1 + 1, 0, none⟩)])
  rw [hwS]
  clear hwS
  rw [← (hxS.cells).1 _ _ (by omega)] at c0
  have HXS : Hid (Xt w wS) := (HX0.out.trans HX1.out).trans hxS
  have HMS := Lib.hid hmS
  have HAS : Hid (AEnv wS (w1.heap.size + 1) (w1.heap.size + 1 + 1) w.heap.size (w1.heap.size + 1 + 1 + 1) w1.heap.size pb (.slice s1 M.length ca1)) := ⟨f0, f1, c0, f2⟩
  have HSS : Hid (SlOf wS adC 2 (.slice s1 M.length ca1) (M.map (·.1))) := by have := HS1.out.xt hxS; rw [List.length_map] at this; exact this
  have HLS : Hid (Lk wS pb bm F M) := H.out.xt HF.out HXS.out
  have HFS : Hid (∀ b, F b → b < wS.heap.size) := fun b hb => by have := HF.out b hb; omega
  have hbn : ¬ F w1.heap.size := fun hb => by have := HF.out _ hb; omega
  obtain ⟨bw, hbw⟩ : ∃ bw, w1.heap.size = bw := ⟨_, rfl⟩
  rw [hbw] at HAS HMS hsS hbn hs1 ⊢
  have hwb : w.heap.size < bw := by omega
  clear hmS f0 f1 f2 hxS c0
  go_loopw [21] (fun i wr => ∃ k : Nat, k ≤ at_.length ∧ i = .int .i64 k ∧ ∃ (met : Ad → Bool) (E : List (Ad × Value)), Hid (MapIs wr bw E) ∧ Hid (FarMap E (b2n met)) ∧ Hid (∀ a, met a = true → Hangs M at_ a) ∧ Hid (∀ b ∈ at_.take k, ∀ a, onM M a b = true → met a = true) ∧ Hid (∀ x a, met x = true → onM M a x = true → met a = true) ∧ Hid (wS.grownBy wr (some bw))) (fun i _ => at_.length - (intOf i).toNat)
  case atStart => exact ⟨0, Nat.zero_le _, rfl, fun _ => false, [], HMS, fun a => rfl, (fun a h => by cases h), (fun b h => by simp at h), (fun x a h => by cases h), ⟨rfl, rfl, rfl, Nat.le_refl _, fun _ _ _ => rfl⟩⟩
  case round =>
    obtain ⟨k, hk, rfl, met, E, HM, HE, HSn, HP, HCl, HG⟩ := hrel
    have hz := HG.out.size
    by_cases hlt : k < at_.length
    · obtain ⟨b', off, rfl, hcell⟩ := HC.out (by intro h; simp [h] at hlt)
      obtain ⟨b, hb⟩ : ∃ b, at_[k]? = some b := ⟨at_[k], by simp [hlt]⟩
      obtain ⟨d0, d1⟩ := ad_cells (hcell k b hb)
      have hb' : b' < w.heap.size := World.block_lt_of_cell? w _ d0
      have e : ∀ o, wr.cell? ⟨b', o, none⟩ = w.cell? ⟨b', o, none⟩ := fun o => (cell_grown HG.out (by omega) (by omega)).trans ((HXS.out.cells).1 b' o hb')
      rw [← e] at d0 d1
      have z2 : b' < wr.heap.size := by omega
      obtain ⟨wB, hwB, hbB, hsB, b0, b1⟩ := box1 wr b.1 b.2 34
      have HXB : Hid (Xt wr wB) := hbB
      have HMB : Hid (MapIs wB bw E) := HM.out.of_heap (RowKit.Below.block hbB _ HM.out.lt)
      have HGB : Hid (wS.grownBy wB (some bw)) := grownBy_old HG.out (HXB.out.grown none) (fun g h => by cases h)
      have HAB : Hid (AEnv wB (bw + 1) (bw + 1 + 1) w.heap.size (bw + 1 + 1 + 1) bw pb (.slice s1 M.length ca1)) := HAS.out.grown HMS.out HGB.out
      have hAw := HAB.out.cw
      have HBk := Lib.hid hb
      clear hcell e hb hb' hbB
      go_wp2_with fail
      refine (above54_any M F (bw + 1) (bw + 1 + 1) w.heap.size (bw + 1 + 1 + 1) bw pb bm _ HND.out (by simpa using hmany) hbn _ b met E wB (Nat.le_refl _) HAB.out (sl_grown HSS.out HMS.out HGB.out) HMB.out HE.out (lk_grown HLS.out HFS.out hbn HGB.out) (fun x hx => Nat.lt_of_lt_of_le (HFS.out x hx) HGB.out.size)).mono ?_
      rintro e w6 ⟨rfl, h6⟩
      have H6 := Lib.hid h6
      clear h6 d0 d1 b0 b1 hAw
      go_wp2_with fail
      go_roundw
      case rel =>
        obtain ⟨met', E', q1, q2, q3, q4, q5⟩ := H6.out.out
        refine ⟨k + 1, by omega, by go_num, met', E', q1, q2, ?_, ?_, ?_, gb_trans HGB.out q5⟩
        · intro a ha
          rcases q3.snd a ha with h | ⟨y, hy, n, hr⟩
          · exact HSn.out a h
          · rw [List.mem_singleton.1 hy] at hr
            exact ⟨b, List.mem_of_getElem? HBk.out, n, hr⟩
        · intro y hy a ha
          rw [List.take_add_one, HBk.out] at hy
          rcases List.mem_append.1 hy with h | h
          · exact q3.grow a (HP.out y h a ha)
          · simp at h; subst h; exact q4 a ha
        · intro x a hx ha
          by_cases h : met x = true
          · exact q3.grow a (HCl.out x a h ha)
          · exact q3.cls x a hx (by simpa using h) ha
      case measure => simp [intOf]; omega
    · have hkl : k = at_.length := by omega
      subst hkl
      have HRES : Hid ((M.map (·.1)).filter met = aboveM M at_) := above_of HSn.out (fun b hb a ha => HP.out b (by rw [List.take_length]; exact hb) a ha) HCl.out
      have HAr : Hid (AEnv wr (bw + 1) (bw + 1 + 1) w.heap.size (bw + 1 + 1 + 1) bw pb (.slice s1 M.length ca1)) := HAS.out.grown HMS.out HG.out
      have HSr : Hid (SlOf wr adC 2 (.slice s1 M.length ca1) (M.map (·.1))) := sl_grown HSS.out HMS.out HG.out
      have hAa := HAr.out.ca
      have HXr : Hid (Xt w wr) := HXS.out.grownBy HG.out (by omega)
      obtain ⟨wq, hwq⟩ : ∃ wq, wq = wr := ⟨_, rfl⟩
      subst hwq
      generalize hall : M.map (·.1) = all at *
      have hML : M.length = all.length := by rw [← hall]; simp
      rw [hML] at HSr hAa ⊢
      obtain ⟨_, _, e0, t1, t2, hsr⟩ := HSr.out
      cases e0
      have HCr := Lib.hid hsr
      clear hsr
      go_wp2_with fail
      go_loopw [10, 31] (fun v i wr => ∃ k : Nat, k ≤ all.length ∧ i = .int .i64 k ∧ Hid (OwnL wr wq.heap.size 34 2 adC v ((all.take k).filter met)) ∧ Hid (Xt wq wr)) (fun _ i _ => all.length - (intOf i).toNat)
      case atStart => exact ⟨0, Nat.zero_le _, rfl, World.ownsRow_nil _ _ _ _, Xt.refl _⟩
      case round =>
        obtain ⟨k, hk, rfl, HO, HX⟩ := hrel
        have hz5 := HX.out.sz
        by_cases hlt : k < all.length
        · obtain ⟨b', off, rfl, hcell⟩ := HCr.out (by intro h; simp [h] at hlt)
          obtain ⟨x, hx⟩ : ∃ x, all[k]? = some x := ⟨all[k], by simp [hlt]⟩
          obtain ⟨d0, d1⟩ := ad_cells (hcell k x hx)
          have hb' : b' < wq.heap.size := World.block_lt_of_cell? wq _ d0
          rw [← (HX.out.cells).1 _ _ hb'] at d0 d1
          have z2 : b' < wr.heap.size := by omega
          obtain ⟨wB, hwB, hbB, hsB, b0, b1⟩ := box1 wr x.1 x.2 34
          have HXB : Hid (Xt wq wB) := HX.out.trans hbB
          have HMB : Hid (MapIs wB bw E) := HM.out.of_heap (RowKit.Below.block HXB.out _ HM.out.lt)
          have hlk := look71 HMB.out x (HE.out x)
          have hAm : wB.cell? ⟨bw + 1 + 1, 0, none⟩ = some (.map (some bw)) := ((HXB.out.cells).1 _ _ (World.block_lt_of_cell? wq _ HAr.out.cm)).trans HAr.out.cm
          have HOB : Hid (OwnL wB wq.heap.size 34 2 adC u10 ((all.take k).filter met)) := HO.out.xt hbB
          have hfl : ((all.take k).filter met).length ≤ 4096 := Nat.le_trans (List.length_filter_le ..) (by rw [List.length_take]; omega)
          have HXk := Lib.hid hx
          obtain ⟨nr, hnr⟩ : ∃ n, wr.heap.size = n := ⟨_, rfl⟩
          rw [hnr] at hsB b0 b1 z2 hz5
          have HNR := Lib.hid hnr
          clear hcell hx hb' hbB HO
          cases hma : met x
          · have hb0 : b2n met x = 0 := by simp [b2n, hma]
            rw [hb0] at hlk
            have HMA := Lib.hid hma
            clear hma hb0
            go_wp2_with fail
            go_roundw
            case rel =>
              refine ⟨k + 1, by omega, by go_num, ?_, HXB⟩
              rw [take_filter HXk.out, HMA.out]
              simpa using HOB
            case measure => simp [intOf]; omega
          · have hb1 : b2n met x = 1 := by simp [b2n, hma]
            rw [hb1] at hlk
            have HMA := Lib.hid hma
            have hown2 : wB.ownsRow wq.heap.size 34 2 u10 ((all.take k).filter met).length (((all.take k).filter met).flatMap adC) := HOB.out
            generalize hfe : ((all.take k).filter met) = fs at hfl hown2
            have HFE := Lib.hid hfe
            have hsBq : wq.heap.size ≤ wB.heap.size := by omega
            clear hma hb1 hfe hsB
            go_wp2_with (at_builtin; refine wpList_append_own _ rfl _ _ 23 rfl wq.heap.size 34 i0 (.agg #[.int .i64 0, .int .i64 0]) 2 16 Try.underlying23 hi hz0 hz1 hz2 rfl (by decide) _ _ _ rfl (hown2.alloc _) ⟨wB.heap.size, 0, none⟩ 1 1 [.int .i64 x.1, .int .i64 x.2] rfl rfl (news_at _ [.int .i64 x.1, .int .i64 x.2] 34 (by simp)) (adC_one x) ?c4 ?c5 ?c6 ?_)
            case c4 => unfold maxLen; omega
            case c5 => omega
            case c6 => first | omega | (simp; omega)
            intro v' w3 hown3 hg3 _
            have hg4 : wB.grownBy w3 u10.ownBlock := (World.grownBy_alloc wB _ _).trans hg3
            go_wp2_with fail
            go_roundw
            case rel =>
              refine ⟨k + 1, by omega, by go_num, ?_, ?_⟩
              · rw [take_filter HXk.out, HMA.out, HFE.out]; exact OwnL.snoc hown3
              · exact Below.grown HXB.out hg4 hsBq (fun q hq => (World.ownsRow.lt hown2 q hq).1)
            case measure => simp [intOf]; omega
        · have hkl : k = all.length := by omega
          subst hkl
          go_wp2_with fail
          go_ret
          have := HO.out
          rw [List.take_length, HRES.out] at this
          exact ⟨u10, rfl, this.base HXr.out.sz, HXr.out.trans HX.out⟩
end Go.Proofs.Ytagfgkcipomopaa
