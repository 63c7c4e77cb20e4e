import Derived.Test.YtagfgkcipomopaaW11
import Derived.Test.YtagfgkcipomopaaL7
namespace Go.Proofs.Ytagfgkcipomopaa
open Go.RowKit Go.Sort Lib
theorem strict_comp {α : Type} [Inhabited α] [DecidableEq α] (lt : α → α → Bool) (htr : ∀ a b c, lt a b = true → lt b c = true → lt a c = true) (htri : ∀ a b, a = b ∨ lt a b = true ∨ lt b a = true) (d : Array α)
    (hs : ∀ i j, i < j → j < d.size → lt d[j]! d[i]! = false) : ∀ m, m ≤ d.size → (compactUpTo d m).Pairwise (fun a b => lt a b = true) ∧ (∀ a, a ∈ compactUpTo d m → 0 < m ∧ (a = d[m - 1]! ∨ lt a d[m - 1]! = true))
  | 0, _ => by simp [compactUpTo]
  | m + 1, hm => by
    obtain ⟨h1, h2⟩ := strict_comp lt htr htri d hs m (by omega)
    rw [compactUpTo_succ]
    have hstep : 0 < m → d[m]! ≠ d[m - 1]! → lt d[m - 1]! d[m]! = true := by
      intro h0 hne
      rcases htri d[m - 1]! d[m]! with h | h | h
      · exact absurd h.symm hne
      · exact h
      · rw [hs (m - 1) m (by omega) (by omega)] at h; cases h
    cases hk : keeps d m
    · simp only [Bool.false_eq_true, if_false, List.append_nil, Nat.add_sub_cancel]
      refine ⟨h1, fun a ha => ⟨by omega, ?_⟩⟩
      have : d[m]! = d[m - 1]! := by
        simp [keeps] at hk; exact hk.2
      rw [this]; exact (h2 a ha).2
    · simp only [if_true, Nat.add_sub_cancel]
      have hk' : m = 0 ∨ d[m]! ≠ d[m - 1]! := by simpa [keeps] using hk
      have hlt : ∀ a, a ∈ compactUpTo d m → lt a d[m]! = true := by
        intro a ha
        obtain ⟨h0, h3⟩ := h2 a ha
        have h4 := hstep h0 (hk'.resolve_left (by omega))
        rcases h3 with rfl | h3
        · exact h4
        · exact htr _ _ _ h3 h4
      refine ⟨?_, fun a ha => ⟨by omega, ?_⟩⟩
      · rw [List.pairwise_append]
        exact ⟨h1, List.pairwise_singleton .., fun a ha b hb => by rw [List.mem_singleton] at hb; subst hb; exact hlt a ha⟩
      · rcases List.mem_append.1 ha with h | h
        · exact Or.inr (hlt a h)
        · exact Or.inl (List.mem_singleton.1 h)
theorem mem_comp {α : Type} [Inhabited α] [DecidableEq α] (d : Array α) (a : α) : ∀ m, m ≤ d.size → (a ∈ compactUpTo d m ↔ ∃ i, i < m ∧ d[i]! = a)
  | 0, _ => by simp [compactUpTo]
  | m + 1, hm => by
    have ih := mem_comp d a m (by omega)
    rw [compactUpTo_succ, List.mem_append, ih]
    constructor
    · rintro (⟨i, h1, h2⟩ | h)
      · exact ⟨i, by omega, h2⟩
      · cases hk : keeps d m
        · rw [hk] at h; simp at h
        · rw [hk] at h; simp at h; exact ⟨m, by omega, h.symm⟩
    · rintro ⟨i, h1, h2⟩
      by_cases him : i < m
      · exact Or.inl ⟨i, him, h2⟩
      · have : i = m := by omega
        subst this
        cases hk : keeps d i
        · have : i ≠ 0 ∧ d[i]! = d[i - 1]! := by simpa [keeps] using hk
          exact Or.inl ⟨i - 1, by omega, by rw [← this.2]; exact h2⟩
        · right; simp [h2]
theorem compL_mem {α : Type} [Inhabited α] [DecidableEq α] (l : List α) (a : α) : a ∈ compL l ↔ a ∈ l := by
  unfold compL
  rw [mem_comp l.toArray a l.length (by simp), List.mem_iff_getElem]
  constructor
  · rintro ⟨i, h1, h2⟩
    exact ⟨i, h1, by rw [getElem!_pos _ _ (by simpa using h1)] at h2; simpa using h2⟩
  · rintro ⟨i, h1, h2⟩
    exact ⟨i, h1, by rw [getElem!_pos _ _ (by simpa using h1)]; simpa using h2⟩
theorem compL_strict {α : Type} [Inhabited α] [DecidableEq α] (lt : α → α → Bool) (htr : ∀ a b c, lt a b = true → lt b c = true → lt a c = true) (htri : ∀ a b, a = b ∨ lt a b = true ∨ lt b a = true) (hirr : ∀ a, lt a a = false) (l : List α) :
    (compL (sortL lt l)).Pairwise (fun a b => lt a b = true) := by
  unfold compL
  refine (strict_comp lt htr htri (sortL lt l).toArray ?_ _ (by simp)).1
  intro i j hij hj
  have hs : (sortL lt l).Pairwise (fun x y => (!lt y x) = true) := by
    refine List.pairwise_mergeSort ?_ ?_ l
    · intro a b c h1 h2
      rcases htri c a with h | h | h
      · subst h; simp [hirr]
      · exfalso
        simp only [Bool.not_eq_true'] at h1 h2
        rcases htri a b with h3 | h3 | h3
        · subst h3; rw [h] at h2; cases h2
        · have := htr _ _ _ h h3; rw [this] at h2; cases h2
        · rw [h3] at h1; cases h1
      · simp only [Bool.not_eq_true']
        cases hca : lt c a
        · rfl
        · have := htr _ _ _ h hca; rw [hirr] at this; cases this
    · intro a b
      cases hba : lt b a
      · rfl
      · simp only [Bool.not_true, Bool.false_or, Bool.not_eq_true']
        cases hab : lt a b
        · rfl
        · have := htr _ _ _ hab hba; rw [hirr] at this; cases this
  have h := (List.pairwise_iff_getElem.1 hs) i j (by simp at hj; omega) (by simpa using hj) hij
  have hj2 : j < (sortL lt l).length := by simpa using hj
  have hi2 : i < (sortL lt l).length := by omega
  simp only [List.getElem!_toArray, getElem!_pos, hj2, hi2]
  simpa using h
theorem setA_strict (l : List Ad) : (compL (sortL adLt l)).Pairwise (fun a b => adLt a b = true) := compL_strict adLt swo_ad.trans adLt_tri adLt_irrefl l
theorem setA_nodup' (l : List Ad) : (compL (sortL adLt l)).Nodup := (setA_strict l).imp fun h e => by subst e; rw [adLt_irrefl] at h; cases h
end Go.Proofs.Ytagfgkcipomopaa
