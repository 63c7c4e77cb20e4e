import Derived.Test.YtagfgkcipomopaaW27
namespace Go.Proofs.Ytagfgkcipomopaa
open Go.RowKit Go.Sort

/-! ### the document's Drop -/
theorem from_addr {α : Type} {enc : α → List Value} {K : Nat} {w : World} {g cap n : Nat} {T E : TypeId} {d : List α} (hT : Try.prog.underlying T = some (.slice (Try.prog.elem T))) (hE : Try.prog.elem T = E) (hz : ∀ w, (sizeOf E).run Try.prog w = .ok K w)
    (hk : ∀ x, (enc x).length = K) (hR : RowL w g E cap K enc d) (hd : d.length = n) (j : Nat) (hj : j ≤ n) :
    ∃ ad c, (∀ W, (Instr.slice T (.slice (some ⟨g, 0, none⟩) n cap) (some (.int .i64 (j : Int))) none none).run Try.prog W = .ok (.slice (some ad) (n - j) c) W) ∧ ∀ t u, ((d.drop j).flatMap enc)[t]? = some u → w.cell? (ad.add t) = some u := by
  by_cases hc : cap = j
  · refine ⟨⟨g, 0, none⟩, cap - j, fun W => ?_, fun t u hu => ?_⟩
    · rw [run_slice_l W T _ n cap hT .i64 j (by omega) (by omega), hE, hz]
      simp [sliced, hc]
    · obtain ⟨_, _, _, hdc, _⟩ := hR
      rw [List.drop_eq_nil_of_le (by omega)] at hu; simp at hu
  · refine ⟨⟨g, j * K, none⟩, cap - j, fun W => ?_, ?_⟩
    · rw [run_slice_l W T _ n cap hT .i64 j (by omega) (by omega), hE, hz]
      simp [sliced, hc, Addr.add_lit]
    · exact row_news hk hR j _ (fun i x hx => by rw [List.getElem?_drop] at hx; exact hx)
theorem to_addr {g cap n : Nat} {T E : TypeId} {K : Nat} (hT : Try.prog.underlying T = some (.slice (Try.prog.elem T))) (hE : Try.prog.elem T = E) (hz : ∀ w, (sizeOf E).run Try.prog w = .ok K w) (j : Nat) (hj : j ≤ cap) :
    ∀ W, (Instr.slice T (.slice (some ⟨g, 0, none⟩) n cap) none (some (.int .i64 (j : Int))) none).run Try.prog W = .ok (.slice (some ⟨g, 0, none⟩) j cap) W := by
  intro W
  rw [run_slice_h W T _ n cap hT .i64 j (by omega) (by omega), hE, hz]
  simp [sliced, Addr.add_lit]
def RDropR (w : World) (px : Nat) (F : Nat → Prop) (M : Mp) (a : Ad) (e : Ending) (w' : World) : Prop :=
  e = .returned (.bool (lkM a M).isSome) ∧ Ref w' px (fun b => F b ∨ (w.heap.size ≤ b ∧ b < w'.heap.size)) (delM a M) ∧ Chg F w w'
theorem flat_oneR (l : List (Ad × SV)) : ∀ u ∈ l.flatMap rlC, u.oneCell' = true := by
  intro u hu
  obtain ⟨x, _, hx⟩ := List.mem_flatMap.1 hu
  exact rlC_one x u hx
set_option maxRecDepth 100000 in
set_option maxHeartbeats 4000000 in
theorem rdrop25_any (px : Nat) (F : Nat → Prop) (M : Mp) (a : Ad) (w : World) (h : Ref w px F M) (hF : ∀ b, F b → b < w.heap.size) :
    Calls Try.prog 25 #[.pointer (some ⟨px, 0, none⟩), .agg #[.int .i64 a.1, .int .i64 a.2]] w (RDropR w px F M a) := by
  obtain ⟨i0, hi, hz0, hz1, hz2⟩ := info_parts info49
  have H := Lib.hid h
  have HF := Lib.hid hF
  obtain ⟨w0, hw0, hb0, hs0, c0, c1⟩ := box1 w a.1 a.2 34
  have HX0 : Hid (Xt w w0) := hb0
  obtain ⟨vr, R, hR⟩ := h.xt hF hb0
  have HR := Lib.hid hR
  have hpc := hR.cell
  have hpf := hR.fro
  have hrl := hR.rules
  have hM4 := hR.many
  clear h hF hb0 hR
  go_enter Try.func25, Try.ntmps25
  go_wp2_with fail
  clear hw0
  refine (find49_any px vr M a w0 hpc hrl hM4).mono ?_
  rintro e w3 ⟨k, t, rfl, hfi, hg3⟩
  have HFI := Lib.hid hfi
  have HX3 : Hid (Xt w w3) := HX0.out.trans hg3.xt
  have hx3 := hg3.xt
  have hprl : px < w0.heap.size := World.block_lt_of_cell? w0 _ hpc
  have hs3 := hx3.sz
  rw [← (hx3.cells).1 _ _ hprl] at hpc
  rw [← (hx3.cells).2 _ _ hprl] at hpf
  have HR3 : Hid (RefIs w3 px F M vr R) := ref_xt HR.out (fun b hb => by have := HF.out b hb; omega) hx3
  have hF3 : ∀ b, F b → b < w3.heap.size := fun b hb => by have := HF.out b hb; have := HX3.out.sz; omega
  have HF3 := Lib.hid hF3
  clear hfi hg3 hx3 hrl hF3 HR c0 c1
  cases t
  · have hno := place_no HR3.out.sorted HFI.out.low (HFI.out.no rfl)
    have HN := Lib.hid hno
    clear hno
    go_wp2_with fail
    go_ret
    refine ⟨retB (by rw [HN.out]; rfl), ?_, HX3.out.chg⟩
    rw [delM_none HN.out]
    exact Ref.keep ⟨vr, R, HR3.out⟩ (fun _ _ => rfl) (fun b hb => Or.inl hb) (Nat.le_refl _)
  · obtain ⟨l0, hl0⟩ := HFI.out.yes rfl
    have hkM : k < M.length := (List.getElem?_eq_some_iff.1 hl0).1
    have hlk := (place_yes HFI.out.low hl0).1
    have hdel := delM_at HR3.out.sorted hl0
    have HLK := Lib.hid hlk
    have HDEL := Lib.hid hdel
    have hRlen := HR3.out.each.1
    have hkR : k < R.length := by omega
    have hR4 : R.length ≤ 4096 := by omega
    obtain ⟨g, cg, hvg, _, hgc, hrow⟩ := RowL.of_own HR3.out.own rlC_len (by intro e; subst e; simp at hkR)
    have hlc : R.length ≤ cg := by obtain ⟨_, _, _, q, _⟩ := hrow; exact q
    subst hvg
    have st := to_addr (g := g) (cap := cg) (n := R.length) (T := 22) (E := 49) (K := 3) Try.underlying22 rfl (fun w => by kernel_rfl) k (by omega)
    have hn1 : ∀ (t : Nat) (u : Value), ((R.take k).flatMap rlC)[t]? = some u → w3.cell? ((⟨g, 0, none⟩ : Addr).add t) = some u := by
      have hq : ∀ (j : Nat) (x : Ad × SV), (R.take k)[j]? = some x → R[0 + j]? = some x := by
        intro j x hx
        rw [List.getElem?_take] at hx
        rw [Nat.zero_add]
        split at hx
        · exact hx
        · cases hx
      have := row_news (s := 0) rlC_len hrow (R.take k) hq
      simpa using this
    have htl : (R.take k).length = k := by rw [List.length_take]; omega
    have hfl1 : ((R.take k).flatMap rlC).length = k * 3 := by rw [flat_len rlC_len, htl]
    have hcg : cg ≤ 9223372036854775807 := by unfold maxLen at hgc; omega
    have hgl : g < w3.heap.size := by obtain ⟨cur, hgc, _⟩ := hrow; exact (Array.getElem?_eq_some_iff.1 hgc).1
    have hpl : px < w3.heap.size := World.block_lt_of_cell? w3 _ hpc
    have HROW := Lib.hid hrow
    clear hl0 hlk hdel hRlen hkM hrow
    go_wp2_with (at_builtin; refine wpList_append_own _ rfl _ _ 22 rfl w3.heap.size 49 i0 (.agg #[.int .i64 0, .int .i64 0, .slice none 0 0]) 3 40 Try.underlying22 hi hz0 hz1 hz2 rfl (by decide) _ _ _ rfl (World.ownsRow_nil _ _ _ _) ⟨g, 0, none⟩ k cg ((R.take k).flatMap rlC) rfl hfl1 hn1 (flat_oneR _) ?c4 ?c5 ?c6 ?_)
    case c4 => unfold maxLen; omega
    case c5 => omega
    case c6 => first | omega | (simp; omega)
    intro v1 w4 hown4 hg4 _
    have HOS4 : Hid (w4.os = w3.os ∧ w4.tape = w3.tape ∧ w4.output = w3.output) := ⟨hg4.os, hg4.tape, hg4.output⟩
    have hs4 := hg4.size
    have hob4 : ∀ b, b < w3.heap.size → w4.heap[b]? = w3.heap[b]? := fun b hb => hg4.block b hb (fun e => by cases e)
    have hpc4 : w4.cell? ⟨px, 0, none⟩ = some (.slice (some ⟨g, 0, none⟩) R.length cg) := (World.cell?_of_block (w := w3) (a := ⟨px, 0, none⟩) (hob4 px hpl)).trans hpc
    have hpf4 : w4.frozen? ⟨px, 0, none⟩ = false := by
      have := hpf
      unfold World.frozen? at this ⊢
      rw [hob4 px hpl]; exact this
    have hrow4 : RowL w4 g 49 cg 3 rlC R := HROW.out.of_heap (hob4 g hgl)
    obtain ⟨ad, c2, sf, hn2⟩ := from_addr (T := 22) (E := 49) Try.underlying22 rfl (fun w => by kernel_rfl) rlC_len hrow4 rfl (k + 1) (by omega)
    rw [show ((k + 1 : Nat) : Int) = (k : Int) + 1 by omega] at sf
    have e1 : IntKind.i64.wrap ((k : Int) + 1) = (k : Int) + 1 := wrap_succ (by omega)
    have hfl2 : ((R.drop (k + 1)).flatMap rlC).length = (R.length - (k + 1)) * 3 := by rw [flat_len rlC_len, List.length_drop]
    have hbase : w3.heap.size ≤ w4.heap.size := hs4
    have HOB4 := Lib.hid hob4
    try simp only [Nat.zero_add, List.nil_append] at hown4
    have HOWN4 := Lib.hid hown4
    clear hg4 hob4 hrow4 st hn1 hpc hpf
    go_wp2_with (at_builtin; refine wpList_append_own _ rfl _ _ 22 rfl w3.heap.size 49 i0 (.agg #[.int .i64 0, .int .i64 0, .slice none 0 0]) 3 40 Try.underlying22 hi hz0 hz1 hz2 rfl (by decide) _ _ _ rfl hown4 ad (R.length - (k + 1)) c2 ((R.drop (k + 1)).flatMap rlC) rfl hfl2 hn2 (flat_oneR _) ?c7 ?c8 ?c9 ?_)
    case c7 => unfold maxLen; omega
    case c8 => omega
    case c9 => exact hbase
    intro v2 w5 hown5 hg5 _
    have hs5 := hg5.size
    have hob5 : ∀ b, b < w3.heap.size → w5.heap[b]? = w3.heap[b]? := fun b hb => (hg5.block b (by omega) (fun e => by have := (World.ownsRow.lt HOWN4.out b e.symm).1; omega)).trans (HOB4.out b hb)
    have hpc5 : w5.cell? ⟨px, 0, none⟩ = some (.slice (some ⟨g, 0, none⟩) R.length cg) := (World.cell?_of_block (w := w4) (a := ⟨px, 0, none⟩) ((hob5 px hpl).trans (HOB4.out px hpl).symm)).trans hpc4
    have hpf5 : w5.frozen? ⟨px, 0, none⟩ = false := by
      have := hpf4
      unfold World.frozen? at this ⊢
      rw [(hob5 px hpl).trans (HOB4.out px hpl).symm]; exact this
    have HOB5 := Lib.hid hob5
    have HG5 := Lib.hid hg5
    have HOS5 : Hid (w5.os = w4.os ∧ w5.tape = w4.tape ∧ w5.output = w4.output) := ⟨hg5.os, hg5.tape, hg5.output⟩
    have HO5 : Hid (OwnL w5 w3.heap.size 49 3 rlC v2 (R.eraseIdx k)) := by
      show w5.ownsRow w3.heap.size 49 3 v2 (R.eraseIdx k).length ((R.eraseIdx k).flatMap rlC)
      rw [List.eraseIdx_eq_take_drop_succ, List.flatMap_append, List.length_append, htl, List.length_drop]
      exact hown5
    obtain ⟨s2, n2, q2, hv2⟩ : ∃ a n c, v2 = .slice a n c := by
      rcases hown5.2 with ⟨h, _⟩ | ⟨g', cap', _, h, _⟩
      · exact ⟨_, _, _, h⟩
      · exact ⟨_, _, _, h⟩
    subst hv2
    clear hg5 hob5 sf hn2 e1 hpc4 hpf4 hown5 hown4
    go_wp2_with fail
    go_ret
    have hR3 := HR3.out
    have hw6 : ∀ b, b < w5.heap.size → b ≠ px → (w5.setCell ⟨px, 0, none⟩ (.slice s2 n2 q2)).heap[b]? = w5.heap[b]? := fun b _ hb => Below.heap_setCell _ _ _ _ hb
    have hw6s : (w5.setCell ⟨px, 0, none⟩ (.slice s2 n2 q2)).heap.size = w5.heap.size := by simp
    have hfresh : ∀ q, (Value.slice s2 n2 q2).ownBlock = some q → w3.heap.size ≤ q ∧ q < w5.heap.size := fun q hq => World.ownsRow.lt HO5.out q hq
    have hwX := HX3.out.sz
    refine ⟨retB (by rw [HLK.out]; rfl), ⟨.slice s2 n2 q2, R.eraseIdx k, ?_⟩, ?_⟩
    · refine ⟨World.cell?_setCell_same' w5 _ _ (by rw [hpc5]; rfl), by simp [hpf5], Or.inl hR3.inP, ?_, ?_, ?_, sorted_delM a hR3.sorted, Nat.le_trans (delM_len _ _) hR3.many, fun x hx => hR3.few x (List.mem_filter.1 hx).1⟩
      · refine World.ownsRow.kept (HO5.out.base (Nat.zero_le _)) (row := some px) ⟨rfl, rfl, rfl, by rw [hw6s]; exact Nat.le_refl _, fun b hb hn => hw6 b hb (fun e => hn (by rw [e]))⟩ ?_
        cases hq : (Value.slice s2 n2 q2).ownBlock with
        | none => exact Or.inl rfl
        | some q => exact Or.inr (fun e => by cases e; have := hfresh _ hq; omega)
      · intro q hq
        have := hfresh q hq
        exact ⟨Or.inr ⟨by omega, by rw [hw6s]; exact this.2⟩, by omega⟩
      · rw [HDEL.out]
        refine (hR3.each.erase k).keep2 ((hR3.each.erase k).ob (Or.inr fun q hq => (hfresh q hq).1)) (fun b hb hlt hne _ => ?_) (fun b hb => Or.inl hb) (by rw [hw6s]; omega)
        exact (hw6 b (by omega) hne).trans (HOB5.out b hlt)
    · refine Chg.trans HX3.out.chg ⟨HOS5.out.1.trans HOS4.out.1, HOS5.out.2.1.trans HOS4.out.2.1, HOS5.out.2.2.trans HOS4.out.2.2, by rw [hw6s]; omega, fun b hb hn => ?_⟩
      exact (hw6 b (by omega) (fun e => hn (e ▸ hR3.inP))).trans (HOB5.out b hb)
end Go.Proofs.Ytagfgkcipomopaa
