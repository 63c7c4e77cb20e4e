import Derived.Test.YtagfgkcipomopaaW13
namespace Go.Proofs.Ytagfgkcipomopaa
open Go.RowKit Go.Sort
theorem setA_mem (l : List Ad) (a : Ad) : a ∈ setA l ↔ a ∈ l := by
  unfold setA
  rw [compL_mem]
  unfold sortL
  exact (List.mergeSort_perm l _).mem_iff

/-! ### every order by picks is one -/
theorem mayL_free {f : Ad → Bool} : ∀ {l : List Ad} {i : Nat} {n : Int}, n ∈ mayL f l i → ∃ (j : Nat) (x : Ad), n = (i + j : Nat) ∧ l[j]? = some x ∧ f x = true
  | [], _, _, h => by simp [mayL] at h
  | x :: l, i, n, h => by
    unfold mayL at h
    by_cases hx : f x = true
    · rw [if_pos hx] at h
      rcases List.mem_cons.1 h with rfl | h
      · exact ⟨0, x, by simp, rfl, hx⟩
      · obtain ⟨j, y, h1, h2, h3⟩ := mayL_free h
        exact ⟨j + 1, y, by rw [h1]; congr 1; omega, by simpa using h2, h3⟩
    · rw [if_neg hx] at h
      obtain ⟨j, y, h1, h2, h3⟩ := mayL_free h
      exact ⟨j + 1, y, by rw [h1]; congr 1; omega, by simpa using h2, h3⟩
theorem mayL_none {f : Ad → Bool} : ∀ {l : List Ad} {i : Nat}, mayL f l i = [] → ∀ x ∈ l, f x = false
  | [], _, _, _, h => by cases h
  | x :: l, i, h, y, hy => by
    unfold mayL at h
    by_cases hx : f x = true
    · rw [if_pos hx] at h; cases h
    · rw [if_neg hx] at h
      rcases List.mem_cons.1 hy with rfl | hy
      · simpa using hx
      · exact mayL_none h y hy
theorem freeM_iff {M : Mp} {left : List Ad} {a : Ad} : freeM M left a = true ↔ ∀ b ∈ left, onM M a b = false := by
  unfold freeM cntM
  rw [decide_eq_true_eq, List.length_eq_zero_iff, List.filter_eq_nil_iff]
  simp
theorem pickK_lt (picks : List Int) (j : Nat) {m : Nat} (hm : 0 < m) : (pickK picks j m).toNat < m := by
  unfold pickK
  split
  · rename_i h
    have h1 := Int.tmod_lt_of_pos (picks[j].tmod m + m) (show (0 : Int) < m by omega)
    omega
  · simpa using hm
/-- Each uses none of those behind it, nor itself. -/
def Topo (M : Mp) (l : List Ad) : Prop := l.Pairwise (fun x y => onM M x y = false) ∧ ∀ x ∈ l, onM M x x = false
theorem readyGo_topo (M : Mp) (picks : List Int) : ∀ (n : Nat) (left out o : List Ad), readyGo M picks n left out = some o → ∃ o', o = out ++ o' ∧ o'.Perm left ∧ Topo M o'
  | 0, left, out, o, h => by
    unfold readyGo at h
    split at h
    · rename_i hl
      cases h
      exact ⟨[], by simp, by rw [hl], List.Pairwise.nil, fun _ hx => by cases hx⟩
    · cases h
  | n + 1, left, out, o, h => by
    unfold readyGo at h
    by_cases hl : left = []
    · rw [if_pos hl] at h
      cases h
      exact ⟨[], by simp, by rw [hl], List.Pairwise.nil, fun _ hx => by cases hx⟩
    · rw [if_neg hl] at h
      by_cases hm : mayL (freeM M left) left 0 = []
      · simp [hm] at h
      · simp only [hm, if_false] at h
        have hpos : 0 < (mayL (freeM M left) left 0).length := List.length_pos_iff.2 hm
        have hk := pickK_lt picks out.length hpos
        generalize hK : (pickK picks out.length (mayL (freeM M left) left 0).length).toNat = K at h hk
        have hmem : (mayL (freeM M left) left 0).getD K 0 ∈ mayL (freeM M left) left 0 := by
          rw [List.getD_eq_getElem?_getD, List.getElem?_eq_getElem hk]; exact List.getElem_mem hk
        obtain ⟨j, x, h1, h2, h3⟩ := mayL_free hmem
        rw [h1, Nat.zero_add, Int.toNat_natCast] at h
        rw [List.getD_eq_getElem?_getD, h2, Option.getD_some] at h
        obtain ⟨o', rfl, hp, ht1, ht2⟩ := readyGo_topo M picks n _ _ _ h
        have hj := (List.getElem?_eq_some_iff.1 h2)
        obtain ⟨hjl, hjx⟩ := hj
        have hperm : (x :: left.eraseIdx j).Perm left := by
          rw [List.eraseIdx_eq_take_drop_succ]
          refine List.perm_middle.symm.trans ?_
          rw [← hjx, List.getElem_cons_drop, List.take_append_drop]
        have hfree := freeM_iff.1 h3
        refine ⟨x :: o', by simp, (hp.cons x).trans hperm, List.pairwise_cons.2 ⟨fun y hy => ?_, ht1⟩, fun y hy => ?_⟩
        · exact hfree y (hperm.subset (List.mem_cons_of_mem _ (hp.subset hy)))
        · rcases List.mem_cons.1 hy with rfl | hy
          · exact hfree y (hperm.subset (List.mem_cons_self ..))
          · exact ht2 y hy
/-- In each part of it some cell uses none of the part. -/
def Acyc (M : Mp) (left : List Ad) : Prop := ∀ S : List Ad, S ≠ [] → (∀ x ∈ S, x ∈ left) → ∃ x ∈ S, ∀ y ∈ S, onM M x y = false
theorem readyGo_acyc (M : Mp) (picks : List Int) : ∀ (n : Nat) (left out : List Ad), left.length ≤ n → Acyc M left → ∃ o, readyGo M picks n left out = some o
  | 0, left, out, hn, _ => by
    have : left = [] := List.length_eq_zero_iff.1 (by omega)
    unfold readyGo; rw [if_pos this]; exact ⟨_, rfl⟩
  | n + 1, left, out, hn, ha => by
    unfold readyGo
    by_cases hl : left = []
    · rw [if_pos hl]; exact ⟨_, rfl⟩
    · rw [if_neg hl]
      by_cases hm : mayL (freeM M left) left 0 = []
      · obtain ⟨x, hx, hf⟩ := ha left hl (fun _ h => h)
        have := mayL_none hm x hx
        rw [freeM_iff.2 hf] at this; cases this
      · simp only [hm, if_false]
        have hpos : 0 < (mayL (freeM M left) left 0).length := List.length_pos_iff.2 hm
        have hk := pickK_lt picks out.length hpos
        generalize hK : (pickK picks out.length (mayL (freeM M left) left 0).length).toNat = K at hk ⊢
        have hmem : (mayL (freeM M left) left 0).getD K 0 ∈ mayL (freeM M left) left 0 := by
          rw [List.getD_eq_getElem?_getD, List.getElem?_eq_getElem hk]; exact List.getElem_mem hk
        obtain ⟨j, x, h1, h2, h3⟩ := mayL_free hmem
        rw [h1, Nat.zero_add, Int.toNat_natCast]
        have hjl := (List.getElem?_eq_some_iff.1 h2).1
        refine readyGo_acyc M picks n _ _ (by rw [List.length_eraseIdx_of_lt hjl]; omega) fun S hS hs => ha S hS fun y hy => List.mem_of_mem_eraseIdx (hs y hy)
theorem topo_acyc {M : Mp} : ∀ {o : List Ad}, Topo M o → Acyc M o
  | [], _, S, hS, hs => by
    cases S with
    | nil => exact absurd rfl hS
    | cons x _ => exact absurd (hs x (List.mem_cons_self ..)) (by simp)
  | x :: r, ⟨h1, h2⟩, S, hS, hs => by
    obtain ⟨h3, h4⟩ := List.pairwise_cons.1 h1
    by_cases hx : x ∈ S
    · refine ⟨x, hx, fun y hy => ?_⟩
      rcases List.mem_cons.1 (hs y hy) with rfl | hy'
      · exact h2 _ (List.mem_cons_self ..)
      · exact h3 y hy'
    · refine topo_acyc (o := r) ⟨h4, fun y hy => h2 y (List.mem_cons_of_mem _ hy)⟩ S hS fun y hy => ?_
      rcases List.mem_cons.1 (hs y hy) with rfl | hy'
      · exact absurd hy hx
      · exact hy'
theorem Acyc.perm {M : Mp} {a b : List Ad} (h : Acyc M a) (hp : a.Perm b) : Acyc M b := fun S hS hs => h S hS fun x hx => hp.symm.subset (hs x hx)
structure OrdersSaid (M : Mp) (l : List Ad) (picks : List Int) : Prop where
  err : (readyS M l picks).1 = (readyS M l []).1
  bad : (readyS M l picks).1 ≠ 0 → (readyS M l picks).2 = [] ∧ (readyS M l []).2 = [] ∧ ((readyS M l picks).1 = 20 ∨ (readyS M l picks).1 = 40)
  len : (readyS M l picks).1 = 0 → (readyS M l picks).2.length = (readyS M l []).2.length
  all1 : (readyS M l picks).1 = 0 → ∀ a ∈ l, a ∈ (readyS M l picks).2
  all2 : (readyS M l picks).1 = 0 → ∀ a ∈ l, a ∈ (readyS M l []).2
  just : (readyS M l picks).1 = 0 → ∀ a ∈ (readyS M l picks).2, a ∈ l
  nodup : (readyS M l picks).1 = 0 → (readyS M l picks).2.Nodup
  topo : (readyS M l picks).1 = 0 → Topo M (readyS M l picks).2
  few : (readyS M l picks).2.length ≤ l.length
/-- What Ready leaves, by picks. -/
theorem readyS_cases (M : Mp) (l : List Ad) (picks : List Int) :
    ((l.all fun a => validB a.1 a.2) = false ∧ readyS M l picks = (20, [])) ∨
    ((l.all fun a => validB a.1 a.2) = true ∧ ¬ Acyc M (setA l) ∧ readyS M l picks = (40, [])) ∨
    ((l.all fun a => validB a.1 a.2) = true ∧ Acyc M (setA l) ∧ ∃ o, readyS M l picks = (0, o) ∧ o.Perm (setA l) ∧ Topo M o) := by
  unfold readyS
  cases hv : l.all fun a => validB a.1 a.2
  · exact Or.inl ⟨rfl, by simp⟩
  · refine Or.inr ?_
    rw [if_neg (by simp)]
    cases h : readyGo M picks (setA l).length (setA l) [] with
    | none =>
      refine Or.inl ⟨rfl, fun ha => ?_, rfl⟩
      obtain ⟨o, ho⟩ := readyGo_acyc M picks _ _ [] (Nat.le_refl _) ha
      rw [h] at ho; cases ho
    | some o =>
      obtain ⟨o', rfl, hp, ht⟩ := readyGo_topo M picks _ _ _ _ h
      exact Or.inr ⟨rfl, (topo_acyc ht).perm hp, _, rfl, hp, ht⟩
theorem orders_bad {M : Mp} {l : List Ad} {picks : List Int} {n : Int} (h2 : readyS M l picks = (n, [])) (k2 : readyS M l [] = (n, [])) (hn : n = 20 ∨ n = 40) : OrdersSaid M l picks := by
  have h0 : ¬ (readyS M l picks).1 = 0 := by rw [h2]; show ¬ n = 0; omega
  exact ⟨by rw [h2, k2], fun _ => by rw [h2, k2]; exact ⟨rfl, rfl, hn⟩, fun h => absurd h h0, fun h => absurd h h0, fun h => absurd h h0, fun h => absurd h h0, fun h => absurd h h0, fun h => absurd h h0, by rw [h2]; simp⟩
theorem orders_said (M : Mp) (l : List Ad) (picks : List Int) : OrdersSaid M l picks := by
  have hlen := setA_len l
  rcases readyS_cases M l picks with ⟨h1, h2⟩ | ⟨h1, h2, h3⟩ | ⟨h1, h2, o, h3, h4, h5⟩ <;>
  rcases readyS_cases M l [] with ⟨k1, k2⟩ | ⟨k1, k2, k3⟩ | ⟨k1, k2, p, k3, k4, k5⟩
  · exact orders_bad h2 k2 (Or.inl rfl)
  · rw [h1] at k1; cases k1
  · rw [h1] at k1; cases k1
  · rw [h1] at k1; cases k1
  · exact orders_bad h3 k3 (Or.inr rfl)
  · exact absurd k2 h2
  · rw [h1] at k1; cases k1
  · exact absurd h2 k2
  · refine ⟨by rw [h3, k3], fun h => by rw [h3] at h; exact absurd rfl h, fun _ => ?_, fun _ a ha => ?_, fun _ a ha => ?_, fun _ a ha => ?_, fun _ => ?_, fun _ => ?_, ?_⟩
    · rw [h3, k3]; exact h4.length_eq.trans k4.length_eq.symm
    · rw [h3]; exact h4.symm.subset ((setA_mem l a).2 ha)
    · rw [k3]; exact k4.symm.subset ((setA_mem l a).2 ha)
    · rw [h3] at ha; exact (setA_mem l a).1 (h4.subset ha)
    · rw [h3]; exact h4.symm.nodup (setA_nodup l)
    · rw [h3]; exact h5
    · rw [h3]; exact Nat.le_trans (Nat.le_of_eq h4.length_eq) hlen
theorem topo_get {M : Mp} {o : List Ad} (h : Topo M o) {k i : Nat} {x y : Ad} (hk : o[k]? = some x) (hi : o[i]? = some y) (hki : k ≤ i) : onM M x y = false := by
  obtain ⟨hkl, rfl⟩ := List.getElem?_eq_some_iff.1 hk
  obtain ⟨hil, rfl⟩ := List.getElem?_eq_some_iff.1 hi
  rcases Nat.lt_or_eq_of_le hki with hlt | rfl
  · exact (List.pairwise_iff_getElem.1 h.1) k i hkl hil hlt
  · exact h.2 _ (List.getElem_mem _)
end Go.Proofs.Ytagfgkcipomopaa
