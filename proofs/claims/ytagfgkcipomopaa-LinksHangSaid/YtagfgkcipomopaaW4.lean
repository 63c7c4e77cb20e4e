import Derived.Test.YtagfgkcipomopaaL4
import Derived.Deep.LoopGhost
namespace Go.Proofs.Ytagfgkcipomopaa
open Go.RowKit Go.Sort

theorem sortL_of {l ks : List Ad} (hl : l.Pairwise (fun x y => adLt x y = true)) (hp : ks.Perm l) : sortL adLt ks = l := by
  refine List.Perm.eq_of_pairwise (le := fun x y => (!adLt y x) = true) ?_ ?_ ?_ ((List.mergeSort_perm _ _).trans hp)
  · intro a b _ _ h1 h2
    exact tot_ad a b (by simpa using h2) (by simpa using h1)
  · refine List.pairwise_mergeSort (fun a b c h1 h2 => ?_) (fun a b => ?_) ks
    · simp only [Bool.not_eq_true', adLt_false] at *; omega
    · simp only [Bool.or_eq_true, Bool.not_eq_true', adLt_false]; omega
  · refine hl.imp fun {a b} h => ?_
    simp only [Bool.not_eq_true', adLt_false]
    rw [adLt_iff] at h; omega
theorem info34 : (Try.prog.info? 34).map (fun i => (i.zero, i.size, i.bytes)) = some (some (.agg #[.int .i64 0, .int .i64 0]), 2, 16) := by kernel_rfl
theorem info41 : (Try.prog.info? 41).map (fun i => (i.zero, i.size, i.bytes)) = some (some (.agg #[.int .i64 0, .int .i64 0, .int .i64 0, .int .i64 0]), 4, 32) := by kernel_rfl
theorem info3 : (Try.prog.info? 3).map (fun i => (i.zero, i.size, i.bytes)) = some (some (.int .i64 0), 1, 8) := by kernel_rfl
/-- A list of cells in memory of the call's own. -/
def RetL (w : World) (l : List Ad) (e : Ending) (w' : World) : Prop := ∃ v, e = .returned v ∧ OwnL w' w.heap.size 34 2 adC v l ∧ Xt w w'

theorem OwnL.snoc {α : Type} {enc : α → List Value} {w : World} {B : Nat} {T : TypeId} {k : Nat} {v : Value} {l : List α} {x : α} (h : w.ownsRow B T k v (l.length + 1) (l.flatMap enc ++ enc x)) : OwnL w B T k enc v (l ++ [x]) := by
  unfold OwnL
  simpa using h

set_option maxHeartbeats 1000000 in
set_option maxRecDepth 20000 in
theorem set_any (pb bm : Nat) (F : Nat → Prop) (M : Mp) (w : World) (h : Lk w pb bm F M) :
    Calls Try.prog 42 #[.pointer (some ⟨pb, 0, none⟩)] w (RetL w (M.map (·.1))) := by
  obtain ⟨i0, hi, hz0, hz1, hz2⟩ := info_parts info34
  have hc := h.cell
  obtain ⟨E, hm, he⟩ := h.map
  have hperm := Lib.hid (he.perm hm.nodup)
  have hlen := he.len hm.nodup
  have hbm := hm.lt
  have hmany := h.many
  have hM : (M.map (·.1)).Pairwise (fun x y => adLt x y = true) := by rw [List.pairwise_map]; exact he.sorted
  have HM := Lib.hid hM
  clear hM he h
  go_enter Try.func42, Try.ntmps42
  go_wp2_with (at_range; refine wpList_range_it _ rfl _ 74 34 42 rfl Try.underlying74 bm E rfl hm ?_; intro w0 hI hg0 hs0; go_frame)
  go_loopg [3] E.length (fun k v wr => ∃ left cur ks, left.length = k ∧ Hid ((ks ++ left.map (·.1)).Perm (E.map (·.1))) ∧ IterIs wr w.heap.size bm E left cur ∧ OwnL wr (w.heap.size + 1) 34 2 adC v ks ∧ Below w.heap.size w wr)
  case atStart => exact ⟨E, none, [], rfl, by unfold Hid; simp, hI, World.ownsRow_nil _ _ _ _, hg0.below⟩
  case round =>
    obtain ⟨left, cur, ks, rfl, HP, hI1, hown, hbel⟩ := hrel
    go_wp2_with (at_next; refine wpList_next_it _ rfl _ rfl _ _ _ _ _ rfl hI1 ?_ ?_)
    · intro hdone
      subst hdone
      have hkl : ks.length ≤ 4096 := by have := HP.out.length_eq; simp at this; omega
      go_wp2_with fail
      refine (sortAd_own hown (by omega)).mono ?_
      rintro e w1 ⟨rfl, hown1, hg1⟩
      go_wp2_with fail
      go_ret
      have hs : sortL adLt ks = M.map (·.1) := sortL_of HM.out (by have := HP.out; simp only [List.map_nil, List.append_nil] at this; exact this.trans hperm.out)
      rw [hs] at hown1
      exact ⟨u3, rfl, hown1.base (by omega), Below.grown hbel hg1 hbel.size (fun k hk => by have := (World.ownsRow.lt hown k hk).1; omega)⟩
    · intro c d v l1 l2 w1 hl hI2 hg1 hs1 hen
      have HL := Lib.hid hl
      have hkl : ks.length ≤ 4096 := by have := HP.out.length_eq; simp at this; omega
      have HP' : Hid (((ks ++ [(c, d)]) ++ (l1 ++ l2).map (·.1)).Perm (E.map (·.1))) := by
        refine List.Perm.trans ?_ HP.out
        rw [hl]
        simp only [List.map_append, List.map_cons, List.append_assoc, List.singleton_append]
        exact List.Perm.append_left _ List.perm_middle.symm
      have hz : w.heap.size < w1.heap.size := hI2.lt
      have hne := hI2.ne
      have hown1 : w1.ownsRow (w.heap.size + 1) 34 2 u3 ks.length (ks.flatMap adC) := hown.kept hg1 (own_ne hown (by omega))
      have hbel1 : Below w.heap.size w w1 := Below.grown hbel hg1 hbel.size (fun k hk => by cases hk; omega)
      have hlt := HL.out
      clear hown hs1 hl HP hI hg0 hm hlen hmany hI1 hg1 hbel hlt
      go_wp2_with (at_builtin; refine wpList_append_own _ rfl _ _ 23 rfl (w.heap.size + 1) 34 i0 (.agg #[.int .i64 0, .int .i64 0]) 2 16 Try.underlying23 hi hz0 hz1 hz2 rfl (by decide) _ _ _ rfl ((hown1.alloc _).alloc _) ⟨w1.heap.size + 1, 0, none⟩ 1 1 [.int .i64 c, .int .i64 d] rfl rfl (news_at _ [.int .i64 c, .int .i64 d] 34 (by simp)) (adC_one (c, d)) ?c4 ?c5 ?c6 ?_)
      case c4 => unfold maxLen; omega
      case c5 => omega
      case c6 => first | omega | (simp; omega)
      intro v' w2 hown2 hg2 _
      have hg3 : w1.grownBy w2 u3.ownBlock := (World.grownBy_alloc w1 _ _).trans ((World.grownBy_alloc _ _ _).trans hg2)
      have ho3 : ∀ r, r < w.heap.size + 1 → w2.heap[r]? = w1.heap[r]? := fun r hr => hg3.block r (by omega) (fun e => by rcases own_ne hown1 hr with h | h <;> rw [← e] at h <;> simp at h)
      go_wp2_with fail
      go_roundg (l1 ++ l2).length
      case measure => rw [HL.out]; simp
      case rel =>
        refine ⟨l1 ++ l2, _, ks ++ [(c, d)], rfl, HP', hI2.of_heap ?_ ?_, OwnL.snoc hown2, Below.grown hbel1 hg3 hbel1.size (fun k hk => by have := (World.ownsRow.lt hown1 k hk).1; omega)⟩
        · exact ho3 _ (by omega)
        · exact ho3 _ (by omega)
end Go.Proofs.Ytagfgkcipomopaa
