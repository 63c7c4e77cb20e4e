import Derived.Test.YtagfgkcipomopaaW5
namespace Go.Proofs.Ytagfgkcipomopaa
open Go.RowKit Go.Sort

/-! ### on, over Links; Users -/
def onM (M : Mp) (a b : Ad) : Bool := onV ((lkM a M).getD []) b
theorem on_lk (pb bm : Nat) (F : Nat → Prop) (M : Mp) (a b : Ad) (w : World) (h : Lk w pb bm F M) :
    Calls Try.prog 40 #[.pointer (some ⟨pb, 0, none⟩), .agg #[.int .i64 a.1, .int .i64 a.2], .agg #[.int .i64 b.1, .int .i64 b.2]] w fun e w' => e = .returned (.bool (onM M a b)) ∧ Gr w w' := by
  obtain ⟨E, hm, he⟩ := h.map
  exact on_any pb bm E a b _ w h.cell hm (he.look a).1
/-- What a later world keeps of Links. -/
theorem Lk.xt {w w' : World} {pb bm : Nat} {F : Nat → Prop} {M : Mp} (h : Lk w pb bm F M) (hF : ∀ b, F b → b < w.heap.size) (hx : Xt w w') : Lk w' pb bm F M :=
  h.keep (fun b hb => Below.block hx b (hF b hb)) (fun _ h => h)
theorem take_filter {α : Type} {l : List α} {f : α → Bool} {k : Nat} {x : α} (hx : l[k]? = some x) : (l.take (k + 1)).filter f = (l.take k).filter f ++ (if f x then [x] else []) := by
  rw [List.take_add_one, hx, List.filter_append]
  cases h : f x <;> simp [h]
set_option maxRecDepth 20000 in
set_option maxHeartbeats 1000000 in
theorem users_any (pb bm : Nat) (F : Nat → Prop) (M : Mp) (t : Ad) (w : World) (h : Lk w pb bm F M) (hF : ∀ b, F b → b < w.heap.size) :
    Calls Try.prog 14 #[.pointer (some ⟨pb, 0, none⟩), .agg #[.int .i64 t.1, .int .i64 t.2]] w (RetL w ((M.map (·.1)).filter fun a => onM M a t)) := by
  obtain ⟨i0, hi, hz0, hz1, hz2⟩ := info_parts info34
  have hmany : (M.map (·.1)).length ≤ 4096 := by simpa using h.many
  have H := Lib.hid h
  have HF := Lib.hid hF
  obtain ⟨w0, hw0, hb0, hs0, c0, c1⟩ := box1 w t.1 t.2 34
  have H0 : Hid (Lk w0 pb bm F M) := h.xt hF hb0
  generalize hall : M.map (·.1) = all at hmany ⊢
  have HA := Lib.hid hall
  clear hall h hF
  go_enter Try.func14, Try.ntmps14
  go_wp2_with fail
  refine (set_any pb bm F M w0 H0.out).mono ?_
  rintro e w1 ⟨v1, rfl, hown1, hx1⟩
  rw [HA.out] at hown1
  obtain ⟨sa, cap, rfl, q1, q2, hcc⟩ := hown1.sl adC_len
  have HC := Lib.hid hcc
  have hs1 := hx1.sz
  have HX1 := Lib.hid hx1
  have H1 : Hid (Lk w1 pb bm F M) := H0.out.xt (fun b hb => by have := HF.out b hb; omega) hx1
  rw [← (hx1.cells).1 _ _ (by omega)] at c0 c1
  clear hw0 hcc hx1 hown1
  go_wp2_with fail
  go_loopw [5, 13] (fun v i wr => ∃ k : Nat, k ≤ all.length ∧ i = .int .i64 k ∧ OwnL wr w1.heap.size 34 2 adC v ((all.take k).filter fun a => onM M a t) ∧ Below w1.heap.size w1 wr) (fun _ i _ => all.length - (intOf i).toNat)
  case atStart => exact ⟨0, Nat.zero_le _, rfl, World.ownsRow_nil _ _ _ _, Below.refl _ _⟩
  case round =>
    obtain ⟨k, hk, rfl, hown, hbel⟩ := hrel
    by_cases hlt : k < all.length
    · obtain ⟨g, off, rfl, hcell⟩ := HC.out (by intro h; simp [h] at hlt)
      obtain ⟨x, hx⟩ : ∃ x, all[k]? = some x := ⟨all[k], by simp [hlt]⟩
      obtain ⟨d0, d1⟩ := ad_cells (hcell k x hx)
      have hg' : g < w1.heap.size := World.block_lt_of_cell? w1 _ d0
      have e : ∀ b o, b < w1.heap.size → wr.cell? ⟨b, o, none⟩ = w1.cell? ⟨b, o, none⟩ := fun b o hb => hbel.cell (p := ⟨b, o, none⟩) hb
      rw [← e _ _ (by omega)] at d0 d1 c0 c1
      have z1 : w.heap.size < wr.heap.size := by have := hbel.size; omega
      have z2 : g < wr.heap.size := by have := hbel.size; omega
      have Hr : Hid (Lk wr pb bm F M) := H1.out.xt (fun b hb => by have := HF.out b hb; omega) hbel
      have HX := Lib.hid hx
      have HO := Lib.hid hown
      have HB := Lib.hid hbel
      have hfl : ((all.take k).filter fun a => onM M a t).length ≤ 4096 := Nat.le_trans (List.length_filter_le ..) (by rw [List.length_take]; omega)
      clear hcell e hx hown hbel
      cases hon : onM M x t
      · go_wp2_with fail
        refine (on_lk pb bm F M x t _ ?_).mono ?_
        · exact Hr.out.xt (fun b hb => by have := HF.out b hb; omega) ((Xt.refl _).alloc _)
        rintro e w2 ⟨rfl, hg2⟩
        rw [hon]
        go_wp2_with fail
        go_roundw
        case rel =>
          have hx2 : Xt wr w2 := (((Xt.refl wr).alloc _).trans hg2.xt)
          refine ⟨k + 1, by omega, by go_num, ?_, Below.trans HB.out (Below.mono hx2 HB.out.size)⟩
          rw [take_filter HX.out, hon]
          simpa using HO.out.xt hx2
        case measure => simp [intOf]; omega
      · go_wp2_with fail
        refine (on_lk pb bm F M x t _ ?_).mono ?_
        · exact Hr.out.xt (fun b hb => by have := HF.out b hb; omega) ((Xt.refl _).alloc _)
        rintro e w2 ⟨rfl, hg2⟩
        rw [hon]
        have hx2 : Xt wr w2 := (((Xt.refl wr).alloc _).trans hg2.xt)
        have hown2 : w2.ownsRow w1.heap.size 34 2 u5 ((all.take k).filter fun a => onM M a t).length (((all.take k).filter fun a => onM M a t).flatMap adC) := HO.out.xt hx2
        have b0 : w2.cell? ⟨wr.heap.size, 0, none⟩ = some (.int .i64 x.1) := ((hg2.xt.cells).1 _ _ (by simp)).trans (by simp)
        have b1 : w2.cell? ⟨wr.heap.size, 1, none⟩ = some (.int .i64 x.2) := ((hg2.xt.cells).1 _ _ (by simp)).trans (by simp)
        have z3 : wr.heap.size < w2.heap.size := by have := hg2.xt.sz; simp at this; omega
        have hB1 := HB.out.size
        have HX2 := Lib.hid hx2
        generalize hfe : ((all.take k).filter fun a => onM M a t) = fs at hfl hown2
        have HFE := Lib.hid hfe
        clear hg2 hx2 c0 c1 d0 d1 hfe
        go_wp2_with (at_builtin; refine wpList_append_own _ rfl _ _ 23 rfl w1.heap.size 34 i0 (.agg #[.int .i64 0, .int .i64 0]) 2 16 Try.underlying23 hi hz0 hz1 hz2 rfl (by decide) _ _ _ rfl (hown2.alloc _) ⟨w2.heap.size, 0, none⟩ 1 1 [.int .i64 x.1, .int .i64 x.2] rfl rfl (news_at _ [.int .i64 x.1, .int .i64 x.2] 34 (by simp)) (adC_one x) ?c4 ?c5 ?c6 ?_)
        case c4 => unfold maxLen; omega
        case c5 => omega
        case c6 => first | omega | (simp; omega)
        intro v' w3 hown3 hg3 _
        have hg4 : w2.grownBy w3 u5.ownBlock := (World.grownBy_alloc w2 _ _).trans hg3
        go_wp2_with fail
        go_roundw
        case rel =>
          refine ⟨k + 1, by omega, by go_num, ?_, ?_⟩
          · rw [take_filter HX.out, hon, HFE.out]; exact OwnL.snoc hown3
          · exact Below.grown (Below.trans HB.out (Below.mono HX2.out HB.out.size)) hg4 (by omega) (fun q hq => (World.ownsRow.lt hown2 q hq).1)
        case measure => simp [intOf]; omega
    · go_wp2_with fail
      go_ret
      have hkl : k = all.length := by omega
      rw [hkl, List.take_length] at hown
      exact ⟨u5, rfl, hown.base (by omega), Below.trans (Below.trans hb0 (Below.mono HX1.out hb0.size)) (Below.mono hbel (by omega))⟩
end Go.Proofs.Ytagfgkcipomopaa
