import Derived.Test.YtagfgkcipomopaaW22
import Derived.Test.YtagfgkcipomopaaL9
import Derived.Test.YtagfgkcipomopaaL10
namespace Go.Proofs.Ytagfgkcipomopaa
open Go.RowKit Go.Sort

/-! ### one into a strictly ordered list -/
section
variable {α : Type} [DecidableEq α] {lt : α → α → Bool}
def insD (lt : α → α → Bool) (x : α) : List α → List α
  | [] => [x]
  | y :: r => if lt y x = true then y :: insD lt x r else if y = x then y :: r else x :: y :: r
theorem mem_insD {x a : α} : ∀ {o : List α}, a ∈ insD lt x o ↔ a = x ∨ a ∈ o
  | [] => by simp [insD]
  | y :: r => by
    unfold insD
    split
    · rw [List.mem_cons, mem_insD (o := r), List.mem_cons]
      constructor
      · rintro (h | h | h) <;> simp [h]
      · rintro (h | h | h) <;> simp [h]
    · split
      · rename_i h; subst h; simp
      · simp
theorem insD_strict (htr : ∀ a b c, lt a b = true → lt b c = true → lt a c = true) (htri : ∀ a b, a = b ∨ lt a b = true ∨ lt b a = true) {x : α} : ∀ {o : List α}, o.Pairwise (fun a b => lt a b = true) → (insD lt x o).Pairwise (fun a b => lt a b = true)
  | [], _ => by simp [insD]
  | y :: r, h => by
    obtain ⟨h1, h2⟩ := List.pairwise_cons.1 h
    unfold insD
    by_cases hy : lt y x = true
    · rw [if_pos hy]
      refine List.pairwise_cons.2 ⟨fun a ha => ?_, insD_strict htr htri h2⟩
      rcases mem_insD.1 ha with rfl | ha
      · exact hy
      · exact h1 a ha
    · rw [if_neg hy]
      by_cases he : y = x
      · rw [if_pos he]; exact h
      · rw [if_neg he]
        have hxy : lt x y = true := by
          rcases htri x y with h3 | h3 | h3
          · exact absurd h3.symm he
          · exact h3
          · exact absurd h3 hy
        refine List.pairwise_cons.2 ⟨fun a ha => ?_, h⟩
        rcases List.mem_cons.1 ha with rfl | ha
        · exact hxy
        · exact htr _ _ _ hxy (h1 a ha)
/-- Where it goes, by its place. -/
theorem insD_at {x : α} : ∀ {o : List α} {k : Nat}, (∀ y ∈ o.take k, lt y x = true) → k ≤ o.length → (∀ y, o[k]? = some y → lt y x = false ∧ y ≠ x) → insD lt x o = o.take k ++ x :: o.drop k
  | [], k, _, hk, _ => by
    have : k = 0 := by simpa using hk
    subst this; rfl
  | y :: r, 0, _, _, h2 => by
    obtain ⟨h3, h4⟩ := h2 y rfl
    unfold insD
    rw [h3]; simp [h4]
  | y :: r, k + 1, h1, hk, h2 => by
    unfold insD
    rw [if_pos (h1 y (by simp))]
    rw [insD_at (o := r) (k := k) (fun z hz => h1 z (by simp [hz])) (by simpa using hk) (fun z hz => h2 z (by simpa using hz))]
    rfl
theorem insD_in (hirr : ∀ a, lt a a = false) {x : α} : ∀ {o : List α} {k : Nat}, (∀ y ∈ o.take k, lt y x = true) → o[k]? = some x → insD lt x o = o
  | [], k, _, h => by simp at h
  | y :: r, 0, _, h => by
    simp at h; subst h
    unfold insD
    rw [hirr]; simp
  | y :: r, k + 1, h1, h2 => by
    unfold insD
    rw [if_pos (h1 y (by simp)), insD_in hirr (o := r) (k := k) (fun z hz => h1 z (by simp [hz])) (by simpa using h2)]
def sortD (lt : α → α → Bool) (l : List α) : List α := l.foldl (fun o x => insD lt x o) []
theorem sortD_take {l : List α} {k : Nat} {x : α} (h : l[k]? = some x) : sortD lt (l.take (k + 1)) = insD lt x (sortD lt (l.take k)) := by
  unfold sortD; rw [List.take_add_one, h, List.foldl_append]; rfl
theorem foldl_ins (htr : ∀ a b c, lt a b = true → lt b c = true → lt a c = true) (htri : ∀ a b, a = b ∨ lt a b = true ∨ lt b a = true) : ∀ (l o : List α), o.Pairwise (fun a b => lt a b = true) →
    (l.foldl (fun o x => insD lt x o) o).Pairwise (fun a b => lt a b = true) ∧ ∀ a, a ∈ l.foldl (fun o x => insD lt x o) o ↔ a ∈ l ∨ a ∈ o
  | [], o, h => ⟨h, fun a => by simp⟩
  | x :: l, o, h => by
    obtain ⟨h1, h2⟩ := foldl_ins htr htri l (insD lt x o) (insD_strict htr htri h)
    refine ⟨h1, fun a => (h2 a).trans ?_⟩
    rw [mem_insD, List.mem_cons]
    constructor
    · rintro (h | h | h) <;> simp [h]
    · rintro ((h | h) | h) <;> simp [h]
omit [DecidableEq α] in
theorem strict_unique (htr : ∀ a b c, lt a b = true → lt b c = true → lt a c = true) (hirr : ∀ a, lt a a = false) : ∀ {a b : List α}, a.Pairwise (fun x y => lt x y = true) → b.Pairwise (fun x y => lt x y = true) → (∀ x, x ∈ a ↔ x ∈ b) → a = b
  | [], [], _, _, _ => rfl
  | [], y :: r, _, _, h => absurd ((h y).2 (by simp)) (by simp)
  | x :: r, [], _, _, h => absurd ((h x).1 (by simp)) (by simp)
  | x :: r, y :: s, ha, hb, h => by
    obtain ⟨h1, h2⟩ := List.pairwise_cons.1 ha
    obtain ⟨h3, h4⟩ := List.pairwise_cons.1 hb
    have hxy : x = y := by
      rcases List.mem_cons.1 ((h x).1 (by simp)) with e | e
      · exact e
      · rcases List.mem_cons.1 ((h y).2 (by simp)) with e' | e'
        · exact e'.symm
        · have := htr _ _ _ (h3 x e) (h1 y e')
          rw [hirr] at this; cases this
    subst hxy
    congr 1
    refine strict_unique htr hirr h2 h4 fun z => ?_
    constructor
    · intro hz
      rcases List.mem_cons.1 ((h z).1 (by simp [hz])) with e | e
      · subst e; have := h1 z hz; rw [hirr] at this; cases this
      · exact e
    · intro hz
      rcases List.mem_cons.1 ((h z).2 (by simp [hz])) with e | e
      · subst e; have := h3 z hz; rw [hirr] at this; cases this
      · exact e
end
theorem arLt_irrefl (a : Ar) : arLt a a = false := swo_ar.irrefl a
theorem arLt_tri (a b : Ar) : a = b ∨ arLt a b = true ∨ arLt b a = true := by
  simp only [arLt_iff]
  rcases adLt_tri a.1 b.1 with h | h | h
  · rcases adLt_tri a.2 b.2 with h2 | h2 | h2
    · exact Or.inl (Prod.ext h h2)
    · exact Or.inr (Or.inl (Or.inr ⟨h, h2⟩))
    · exact Or.inr (Or.inr (Or.inr ⟨h.symm, h2⟩))
  · exact Or.inr (Or.inl (Or.inl h))
  · exact Or.inr (Or.inr (Or.inl h))
theorem sortD_ar (u : List Ar) : sortD arLt u = normL u := by
  obtain ⟨h1, h2⟩ := foldl_ins (lt := arLt) swo_ar.trans arLt_tri u [] List.Pairwise.nil
  refine strict_unique swo_ar.trans arLt_irrefl h1 (compL_strict arLt swo_ar.trans arLt_tri arLt_irrefl u) fun x => (h2 x).trans ?_
  unfold normL
  rw [compL_mem]
  unfold sortL
  rw [(List.mergeSort_perm u _).mem_iff]
  simp
theorem sortD_ad (u : List Ad) : sortD adLt u = setA u := by
  obtain ⟨h1, h2⟩ := foldl_ins (lt := adLt) swo_ad.trans adLt_tri u [] List.Pairwise.nil
  exact strict_unique swo_ad.trans adLt_irrefl h1 (setA_strict u) fun x => (h2 x).trans (by rw [setA_mem]; simp)
/-! ### a cell's place among those that are set -/
theorem setM_at {a : Ad} {l : List Ar} : ∀ {M : Mp} {k : Nat}, (∀ y ∈ M.take k, adLt y.1 a = true) → k ≤ M.length → (∀ y, M[k]? = some y → adLt a y.1 = true) → setM a l M = M.take k ++ (a, l) :: M.drop k
  | [], k, _, hk, _ => by
    have : k = 0 := by simpa using hk
    subst this; rfl
  | y :: r, 0, _, _, h2 => by
    have h3 := h2 y rfl
    have h4 : ¬ y.1 = a := fun e => by rw [e, adLt_irrefl] at h3; cases h3
    unfold setM; rw [if_neg h4, if_pos h3]; rfl
  | y :: r, k + 1, h1, hk, h2 => by
    have h3 := h1 y (by simp)
    have h4 : ¬ y.1 = a := fun e => by rw [e, adLt_irrefl] at h3; cases h3
    have h5 : ¬ adLt a y.1 = true := fun e => by have := swo_ad.trans _ _ _ h3 e; rw [adLt_irrefl] at this; cases this
    have i1 := setM_at (l := l) (M := r) (k := k) (fun z hz => h1 z (by simp [hz])) (by simpa using hk) (fun z hz => h2 z (by simpa using hz))
    unfold setM; rw [if_neg h4, if_neg h5, i1]; rfl
theorem place_no {a : Ad} {M : Mp} {k : Nat} (hs : SortedM M) (h1 : ∀ y ∈ M.take k, adLt y.1 a = true) (h2 : ∀ y, M[k]? = some y → adLt a y.1 = true) : lkM a M = none := by
  refine lkM_none.2 fun x hx e => ?_
  obtain ⟨j, hj, rfl⟩ := List.mem_iff_getElem.1 hx
  rcases Nat.lt_or_ge j k with h | h
  · have := h1 M[j] (List.mem_take_iff_getElem.2 ⟨j, by omega, rfl⟩)
    rw [e, adLt_irrefl] at this; cases this
  · have hk : k < M.length := by omega
    have h3 := h2 M[k] (List.getElem?_eq_getElem hk)
    rcases Nat.lt_or_eq_of_le h with h4 | h4
    · have h5 := (List.pairwise_iff_getElem.1 hs) k j hk hj h4
      have := swo_ad.trans _ _ _ h3 h5
      rw [e, adLt_irrefl] at this; cases this
    · subst h4; rw [e, adLt_irrefl] at h3; cases h3
theorem place_yes {a : Ad} {l0 : List Ar} : ∀ {M : Mp} {k : Nat}, (∀ y ∈ M.take k, adLt y.1 a = true) → M[k]? = some (a, l0) → lkM a M = some l0 ∧ (∀ l, setM a l M = M.set k (a, l))
  | [], k, _, h => by simp at h
  | y :: r, 0, _, h => by
    simp at h; subst h
    refine ⟨by simp [lkM], fun l => by simp [setM]⟩
  | y :: r, k + 1, h1, h => by
    have h3 := h1 y (by simp)
    have h4 : ¬ y.1 = a := fun e => by rw [e, adLt_irrefl] at h3; cases h3
    have h5 : ¬ adLt a y.1 = true := fun e => by have := swo_ad.trans _ _ _ h3 e; rw [adLt_irrefl] at this; cases this
    obtain ⟨i1, i2⟩ := place_yes (M := r) (k := k) (fun z hz => h1 z (by simp [hz])) (by simpa using h)
    refine ⟨by unfold lkM; rw [if_neg h4]; exact i1, fun l => ?_⟩
    unfold setM; rw [if_neg h4, if_neg h5, i2]; rfl
theorem delM_at {a : Ad} {l0 : List Ar} : ∀ {M : Mp} {k : Nat}, SortedM M → M[k]? = some (a, l0) → delM a M = M.eraseIdx k
  | [], k, _, h => by simp at h
  | y :: r, 0, hs, h => by
    simp at h; subst h
    obtain ⟨h1, h2⟩ := List.pairwise_cons.1 hs
    unfold delM
    rw [List.filter_cons]
    simp only [decide_true, Bool.not_true, Bool.false_eq_true, if_false, List.eraseIdx_cons_zero]
    refine List.filter_eq_self.2 fun z hz => ?_
    have := h1 z hz
    have hne : ¬ z.1 = a := fun e => by rw [e, adLt_irrefl] at this; cases this
    simp [hne]
  | y :: r, k + 1, hs, h => by
    obtain ⟨h1, h2⟩ := List.pairwise_cons.1 hs
    have hk : r[k]? = some (a, l0) := by simpa using h
    have h3 := h1 _ (List.mem_of_getElem? hk)
    have hne : ¬ y.1 = a := fun e => by rw [e, adLt_irrefl] at h3; cases h3
    have := delM_at (M := r) (k := k) h2 hk
    unfold delM at this ⊢
    rw [List.filter_cons]
    simp only [hne, decide_false, Bool.not_false, if_true, List.eraseIdx_cons_succ, this]
theorem delM_none {a : Ad} {M : Mp} (h : lkM a M = none) : delM a M = M := by
  unfold delM
  exact List.filter_eq_self.2 fun x hx => by simp [lkM_none.1 h x hx]
/-- All areas that are told may be. -/
def VM (M : Mp) : Prop := ∀ x ∈ M, ∀ r ∈ x.2, validAr r = true
theorem normL_mem {u : List Ar} {x : Ar} : x ∈ normL u ↔ x ∈ u := by
  unfold normL
  rw [compL_mem]
  unfold sortL
  exact (List.mergeSort_perm u _).mem_iff
theorem VM.set {M : Mp} (h : VM M) (a : Ad) (u : List Ar) : VM (setTo M a u) := by
  unfold setTo
  split
  · rename_i he
    intro x hx r hr
    rcases mem_setM hx with rfl | hx
    · have hv : u.all validAr = true := by
        cases hc : u.all validAr
        · exfalso
          unfold setErr at he
          split at he
          · cases he
          · split at he
            · cases he
            · cases he
        · rfl
      exact List.all_eq_true.1 hv r (normL_mem.1 hr)
    · exact h x hx r hr
  · exact h
theorem VM.del {M : Mp} (h : VM M) (a : Ad) : VM (delM a M) := fun x hx => h x (List.mem_filter.1 hx).1
theorem uses_on {l : List Ar} {b : Ad} (h : ∀ r ∈ l, validAr r = true) : usesR l b = onV l b := by
  unfold usesR onV
  induction l with
  | nil => rfl
  | cons x r ih =>
    rw [List.any_cons, List.any_cons, ih (fun y hy => h y (List.mem_cons_of_mem _ hy)), inA_inR b (h x (List.mem_cons_self ..))]
theorem sorted_setTo {M : Mp} (h : SortedM M) (a : Ad) (u : List Ar) : SortedM (setTo M a u) := by
  unfold setTo; split
  · exact sorted_setM _ _ h
  · exact h
theorem onM_at {M : Mp} (hs : SortedM M) {k : Nat} {x : Ad × List Ar} (hx : M[k]? = some x) (b : Ad) : onM M x.1 b = onV x.2 b := by
  unfold onM
  have h1 : ∀ y ∈ M.take k, adLt y.1 x.1 = true := by
    intro y hy
    obtain ⟨j, hj, rfl⟩ := List.mem_take_iff_getElem.1 hy
    obtain ⟨hk, rfl⟩ := List.getElem?_eq_some_iff.1 hx
    exact (List.pairwise_iff_getElem.1 hs) j k (by omega) hk (by omega)
  rw [(place_yes h1 (show M[k]? = some (x.1, x.2) from hx)).1]; rfl
end Go.Proofs.Ytagfgkcipomopaa
