import Derived.Test.YtagfgkcipomopaaW8
import Derived.Deep.RegionWith
namespace Go.Proofs.Ytagfgkcipomopaa
open Go.RowKit Go.Sort

theorem xt_drew {w w1 : World} (h : Xt w.drew w1) : Xt w w1 := ⟨h.os, h.tape, h.output, h.size, h.block⟩
/-! ### slices.Clone -/
def CloneR (w : World) (T : TypeId) (k : Nat) {α : Type} (enc : α → List Value) (l : List α) (e : Ending) (w' : World) : Prop := ∃ v', e = .returned v' ∧ OwnL w' w.heap.size T k enc v' l ∧ Xt w w'
theorem sl_news {α : Type} {w : World} {enc : α → List Value} {k : Nat} {a : Addr} {l : List α} (hk : ∀ x, (enc x).length = k) (h : l ≠ [] → ∃ b off, some a = some ⟨b, off, none⟩ ∧ ∀ j x, l[j]? = some x → ∀ i u, (enc x)[i]? = some u → w.cell? ⟨b, off + j * k + i, none⟩ = some u) :
    ∀ (j : Nat) (u : Value), (l.flatMap enc)[j]? = some u → w.cell? (a.add j) = some u := by
  intro t u hu
  have hl : l ≠ [] := by intro e; subst e; simp at hu
  obtain ⟨b, off, ha, hc⟩ := h hl
  cases ha
  have htl : t < l.length * k := by rw [← flat_len hk]; exact (List.getElem?_eq_some_iff.1 hu).1
  have k0 : 0 < k := by rcases Nat.eq_zero_or_pos k with h | h; · subst h; simp at htl
                        · exact h
  have hj : t / k < l.length := by rw [Nat.div_lt_iff_lt_mul k0]; exact htl
  have hi : t % k < k := Nat.mod_lt _ k0
  have hf := flat_get hk l (t / k) (t % k) l[t / k] (by simp [hj]) hi
  rw [Nat.div_add_mod' t k, hu] at hf
  have := hc (t / k) l[t / k] (by simp [hj]) (t % k) u hf.symm
  rw [Nat.add_assoc, Nat.div_add_mod' t k] at this
  rw [show (⟨b, off, none⟩ : Addr).add t = ⟨b, off + t, none⟩ from Addr.add_lit ..]
  exact this
set_option maxRecDepth 20000 in
set_option maxHeartbeats 400000 in
theorem cloneAr_any (v : Value) (l : List Ar) (w : World) (h : SlOf w arC 4 v l) (hb : l.length ≤ 4398046511104) : Calls Try.prog 44 #[v] w (CloneR w 41 4 arC l) := by
  obtain ⟨i0, hi, hz0, hz1, hz2⟩ := info_parts info41
  obtain ⟨a, cap, rfl, q1, q2, hc⟩ := h
  have q22 : ∀ (w : World) (a : Option Addr) (n c n' c' : Nat), (binOp .eql 42 (.slice a n c) (.slice none n' c')).run Try.prog w = .ok (.bool a.isNone) w := fun w a n c n' c' => Lib.run_eql_slice_nil w _ _ a n c n' c' Try.underlying42
  cases a with
  | none =>
    have hl : l = [] := Classical.byContradiction fun h => by obtain ⟨b, off, h1, _⟩ := hc h; cases h1
    subst hl
    clear hc
    go_enter Try.func44, Try.ntmps44
    go_wp2
    go_ret
    exact ⟨_, rfl, World.ownsRow_nil _ _ _ _, Xt.refl _⟩
  | some ad =>
    have A := Lib.hid (sl_news arC_len hc)
    have hlen : (l.flatMap arC).length = l.length * 4 := flat_len arC_len l
    have HL := Lib.hid hlen
    have hone : ∀ u ∈ l.flatMap arC, u.oneCell' = true := by
      intro u hu
      obtain ⟨x, _, hx⟩ := List.mem_flatMap.1 hu
      exact arC_one x u hx
    have HO := Lib.hid hone
    clear hc hlen hone
    go_enter Try.func44, Try.ntmps44
    go_wp2_with (at_builtin; refine wpList_append_own _ rfl _ _ 42 rfl w.heap.size 41 i0 (.agg #[.int .i64 0, .int .i64 0, .int .i64 0, .int .i64 0]) 4 32 Try.underlying42 hi hz0 hz1 hz2 rfl (by decide) _ _ _ rfl (World.ownsRow_made w #[] 0 (Nat.le_refl _) (Nat.zero_le _) (by simp)) ad l.length cap (l.flatMap arC) rfl HL.out ?q2 HO.out ?q4 ?q5 ?q6 ?_)
    case q2 => intro j u hj; exact Lib.cell?_alloc_some _ (A.out j u hj)
    case q4 => unfold maxLen; omega
    case q5 => omega
    case q6 => first | omega | simp
    intro v' w1 hown hgrow hnil
    go_wp2
    go_ret
    refine ⟨v', rfl, by simpa [OwnL] using hown, ?_⟩
    exact ((Below.refl _ w).alloc (Nat.le_refl _) _).grown hgrow (by simp) (by intro k hk; simp [Value.ownBlock] at hk; omega)
set_option maxRecDepth 20000 in
set_option maxHeartbeats 400000 in
theorem cloneAd_any (v : Value) (l : List Ad) (w : World) (h : SlOf w adC 2 v l) (hb : l.length ≤ 8796093022208) : Calls Try.prog 36 #[v] w (CloneR w 34 2 adC l) := by
  obtain ⟨i0, hi, hz0, hz1, hz2⟩ := info_parts info34
  obtain ⟨a, cap, rfl, q1, q2, hc⟩ := h
  have q22 : ∀ (w : World) (a : Option Addr) (n c n' c' : Nat), (binOp .eql 23 (.slice a n c) (.slice none n' c')).run Try.prog w = .ok (.bool a.isNone) w := fun w a n c n' c' => Lib.run_eql_slice_nil w _ _ a n c n' c' Try.underlying23
  cases a with
  | none =>
    have hl : l = [] := Classical.byContradiction fun h => by obtain ⟨b, off, h1, _⟩ := hc h; cases h1
    subst hl
    clear hc
    go_enter Try.func36, Try.ntmps36
    go_wp2
    go_ret
    exact ⟨_, rfl, World.ownsRow_nil _ _ _ _, Xt.refl _⟩
  | some ad =>
    have A := Lib.hid (sl_news adC_len hc)
    have hlen : (l.flatMap adC).length = l.length * 2 := flat_len adC_len l
    have HL := Lib.hid hlen
    have hone : ∀ u ∈ l.flatMap adC, u.oneCell' = true := by
      intro u hu
      obtain ⟨x, _, hx⟩ := List.mem_flatMap.1 hu
      exact adC_one x u hx
    have HO := Lib.hid hone
    clear hc hlen hone
    go_enter Try.func36, Try.ntmps36
    go_wp2_with (at_builtin; refine wpList_append_own _ rfl _ _ 23 rfl w.heap.size 34 i0 (.agg #[.int .i64 0, .int .i64 0]) 2 16 Try.underlying23 hi hz0 hz1 hz2 rfl (by decide) _ _ _ rfl (World.ownsRow_made w #[] 0 (Nat.le_refl _) (Nat.zero_le _) (by simp)) ad l.length cap (l.flatMap adC) rfl HL.out ?q2 HO.out ?q4 ?q5 ?q6 ?_)
    case q2 => intro j u hj; exact Lib.cell?_alloc_some _ (A.out j u hj)
    case q4 => unfold maxLen; omega
    case q5 => omega
    case q6 => first | omega | simp
    intro v' w1 hown hgrow hnil
    go_wp2
    go_ret
    refine ⟨v', rfl, by simpa [OwnL] using hown, ?_⟩
    exact ((Below.refl _ w).alloc (Nat.le_refl _) _).grown hgrow (by simp) (by intro k hk; simp [Value.ownBlock] at hk; omega)

/-! ### Uses -/
set_option maxRecDepth 20000 in
set_option maxHeartbeats 400000 in
theorem uses_any (pb bm : Nat) (F : Nat → Prop) (M : Mp) (a : Ad) (w : World) (h : Lk w pb bm F M) (hF : ∀ b, F b → b < w.heap.size) :
    Calls Try.prog 27 #[.pointer (some ⟨pb, 0, none⟩), .agg #[.int .i64 a.1, .int .i64 a.2]] w (CloneR w 41 4 arC ((lkM a M).getD [])) := by
  obtain ⟨E, hm, he⟩ := h.map
  have hbm' := hm.lt
  obtain ⟨w0, hw0, hb0, hs0, c0, c1⟩ := box1 w a.1 a.2 34
  have hpb' : pb < w.heap.size := World.block_lt_of_cell? w _ h.cell
  have hm0 : MapIs w0 bm E := hm.of_heap (hb0.block _ hbm')
  have hpb0 : w0.cell? ⟨pb, 0, none⟩ = some (.map (some bm)) := (hb0.cell (p := ⟨pb, 0, none⟩) hpb').trans h.cell
  have hlk : (Instr.lookup 74 (.map (some bm)) (.agg #[.int .i64 a.1, .int .i64 a.2]) false).run Try.prog w0.drew = .ok ((lk a E).getD (.slice none 0 0)) w0.drew :=
    hm0.lookup (w := w0.drew) adrKey Try.underlying74 zero42 a
  obtain ⟨hsl, hin, _⟩ := he.look a
  have hsl0 : SlOf w0.drew arC 4 ((lk a E).getD (.slice none 0 0)) ((lkM a M).getD []) := hsl.keep hin (fun b hb => hb0.block b (hF b hb))
  have hfew := h.fewAt a
  generalize (lk a E).getD (.slice none 0 0) = v at hlk hsl0
  generalize (lkM a M).getD [] = l at hsl0 hfew ⊢
  have HS := Lib.hid hsl0
  clear hsl0 hsl hin hm hm0 he h hF
  go_enter Try.func27, Try.ntmps27
  go_wp2_with fail
  clear hw0
  refine wp_region_still_tail 6 (by kernel_rfl) (by kernel_rfl) ?_
  change wpStill _ _ (World.drew _) _ _ _
  simp only [List.take_succ_cons, List.take_zero, List.drop_succ_cons, List.drop_zero]
  still_step
  still_step
  still_step
  still_step
  still_step
  still_step
  refine wpStill_nil ?_
  change wpList _ _ _ _ _ (World.drew _)
  go_wp2_with fail
  refine (cloneAr_any v l _ HS.out (by omega)).mono ?_
  rintro e w1 ⟨v1, rfl, hown, hx⟩
  go_wp2_with fail
  go_ret
  exact ⟨v1, rfl, hown.base (by show w.heap.size ≤ w0.heap.size; omega), Xt.trans (show Xt w w0 from hb0) (xt_drew hx)⟩
end Go.Proofs.Ytagfgkcipomopaa
