import Derived.Test.YtagfgkcipomopaaL13
import Derived.Test.YtagfgkcipomopaaL11
import Derived.Test.YtagfgkcipomopaaW18
import Derived.Test.YtagfgkcipomopaaW17
namespace Go.Proofs.Ytagfgkcipomopaa

/-! ### LinksHang, the plain part -/
def allK (rs : Mp) (k : Nat) : List Ad := (rs.take k).foldl (fun l r => if validB r.1.1 r.1.2 && !hasB l r.1 then l ++ [r.1] else l) []
theorem allK_succ {rs : Mp} {k : Nat} {r : Ad × List Ar} (h : rs[k]? = some r) : allK rs (k + 1) = if validB r.1.1 r.1.2 && !hasB (allK rs k) r.1 then allK rs k ++ [r.1] else allK rs k := by
  unfold allK; rw [List.take_add_one, h, List.foldl_append]; rfl
theorem allK_said (rs : Mp) : ∀ k, k ≤ rs.length → (allK rs k).length ≤ k ∧ (∀ a ∈ allK rs k, validB a.1 a.2 = true) ∧ (∀ x ∈ madeK rs k, x.1 ∈ allK rs k) ∧ SortedM (madeK rs k) ∧ VM (madeK rs k)
  | 0, _ => ⟨by simp [allK], by simp [allK], by simp [madeK], by simp [madeK, SortedM], by intro x hx; simp [madeK] at hx⟩
  | k + 1, hk => by
    obtain ⟨i1, i2, i3, i4, i5⟩ := allK_said rs k (by omega)
    obtain ⟨r, hr⟩ : ∃ r, rs[k]? = some r := ⟨rs[k], by simp [Nat.lt_of_succ_le hk]⟩
    have hM := madeK_succ hr
    have hA := allK_succ hr
    have hsub : ∀ a ∈ allK rs k, a ∈ allK rs (k + 1) := by
      intro a ha; rw [hA]; split
      · exact List.mem_append.2 (Or.inl ha)
      · exact ha
    refine ⟨?_, ?_, ?_, by rw [hM]; exact sorted_setTo i4 _ _, by rw [hM]; exact i5.set _ _⟩
    · rw [hA]; split
      · rw [List.length_append]; simp; omega
      · omega
    · intro a ha
      rw [hA] at ha
      split at ha
      · rename_i hc
        rcases List.mem_append.1 ha with h | h
        · exact i2 a h
        · rw [List.mem_singleton.1 h]
          rw [Bool.and_eq_true] at hc; exact hc.1
      · exact i2 a ha
    · intro x hx
      rw [hM] at hx
      unfold setTo at hx
      split at hx
      · rename_i he
        rcases mem_setM hx with rfl | hx
        · have hv : validB r.1.1 r.1.2 = true := by
            cases hc : validB r.1.1 r.1.2
            · exfalso
              unfold setErr at he
              rw [hc] at he
              simp at he
            · rfl
          show r.1 ∈ _
          rw [hA, hv, Bool.true_and]
          cases hh : hasB (allK rs k) r.1
          · simp
          · simp only [Bool.not_true, Bool.false_eq_true, if_false]
            exact of_decide_eq_true hh
        · exact hsub _ (i3 x hx)
      · exact hsub _ (i3 x hx)
def allM (rs : Mp) : List Ad := allK rs (min rs.length 300)
theorem made_min (rs : Mp) : madeM rs = madeK rs (min rs.length 300) := by
  unfold madeM madeK
  congr 1
  rcases Nat.le_total rs.length 300 with h | h
  · rw [Nat.min_eq_left h, List.take_length, List.take_of_length_le h]
  · rw [Nat.min_eq_right h]
structure AllSaid (M : Mp) (all : List Ad) : Prop where
  len : all.length ≤ 300
  valid : (all.all fun a => validB a.1 a.2) = true
  keys : ∀ x ∈ M, x.1 ∈ all
  sorted : SortedM M
  vm : VM M
theorem all_said (rs : Mp) : AllSaid (madeM rs) (allM rs) := by
  obtain ⟨i1, i2, i3, i4, i5⟩ := allK_said rs (min rs.length 300) (Nat.min_le_left ..)
  rw [made_min]
  exact ⟨Nat.le_trans i1 (Nat.min_le_right ..), List.all_eq_true.2 i2, i3, i4, i5⟩
def delK (M : Mp) (all : List Ad) (k : Nat) : Mp := (all.take k).foldl (fun M a => delM a M) M
theorem delK_succ {M : Mp} {all : List Ad} {k : Nat} {a : Ad} (h : all[k]? = some a) : delK M all (k + 1) = delM a (delK M all k) := by
  unfold delK; rw [List.take_add_one, h, List.foldl_append]; rfl
theorem foldl_del : ∀ (l : List Ad) (M : Mp) (x : Ad × List Ar), x ∈ l.foldl (fun M a => delM a M) M → x ∈ M ∧ x.1 ∉ l
  | [], M, x, h => ⟨h, by simp⟩
  | a :: l, M, x, h => by
    obtain ⟨h1, h2⟩ := foldl_del l (delM a M) x h
    unfold delM at h1
    obtain ⟨h3, h4⟩ := List.mem_filter.1 h1
    refine ⟨h3, fun hm => ?_⟩
    rcases List.mem_cons.1 hm with h | h
    · simp [h] at h4
    · exact h2 h
theorem AllSaid.gone {M : Mp} {all : List Ad} (h : AllSaid M all) : delK M all all.length = [] := by
  unfold delK
  rw [List.take_length]
  refine List.eq_nil_iff_forall_not_mem.2 fun x hx => ?_
  obtain ⟨h1, h2⟩ := foldl_del all M x hx
  exact h2 (h.keys x h1)
theorem AllSaid.key {M : Mp} {all : List Ad} (h : AllSaid M all) {a : Ad} (ha : a ∈ M.map (·.1)) : a ∈ all := by
  obtain ⟨x, hx, rfl⟩ := List.mem_map.1 ha
  exact h.keys x hx
theorem hang_uses {M : Mp} (hv : VM M) (a t : Ad) : usesR ((lkM a M).getD []) t = onM M a t := by
  unfold onM
  cases h : lkM a M with
  | none => rfl
  | some l => exact uses_on (hv (a, l) (lkM_mem h))
theorem hang_has {M : Mp} (hall : ∀ a b, onM M a b = true → a ∈ M.map (·.1)) (a t : Ad) : hasB ((M.map (·.1)).filter fun a => onM M a t) a = onM M a t := by
  unfold hasB
  rw [Bool.eq_iff_iff, decide_eq_true_eq, List.mem_filter]
  exact ⟨fun h => h.2, fun h => ⟨hall a t h, h⟩⟩
theorem AllSaid.no {M : Mp} {all : List Ad} (h : AllSaid M all) (hall : ∀ a b, onM M a b = true → a ∈ M.map (·.1)) (hc : (circleM M).2 = false) : (circleM M).1 = [] ∧ (readyS M all []).1 = 0 := by
  obtain ⟨h1, h2⟩ := circleM_no hall hc (setA all)
  refine ⟨h1, ?_⟩
  rcases readyS_cases M all [] with ⟨k1, _⟩ | ⟨_, k2, _⟩ | ⟨_, _, o, k3, _⟩
  · rw [h.valid] at k1; cases k1
  · exact absurd h2 k2
  · rw [k3]
theorem AllSaid.yes {M : Mp} {all : List Ad} (h : AllSaid M all) (hall : ∀ a b, onM M a b = true → a ∈ M.map (·.1)) (hc : (circleM M).2 = true) : IsCirc M (circleM M).1 ∧ (readyS M all []).1 = 40 ∧ (circleM M).1.length ≤ M.length := by
  obtain ⟨h1, h2⟩ := circleM_yes hall hc
  refine ⟨h1, ?_, ?_⟩
  · have hn := circ_not_acyc (l := setA all) h1 fun x hx => (setA_mem all x).2 (h.key (h2 x hx))
    rcases readyS_cases M all [] with ⟨k1, _⟩ | ⟨_, k2, k3⟩ | ⟨_, k2, _⟩
    · rw [h.valid] at k1; cases k1
    · rw [k3]
    · exact absurd k2 hn
  · have := nodup_len h1.nodup h2
    simpa using this
end Go.Proofs.Ytagfgkcipomopaa
