import Derived.Test.YtagfgkcipomopaaW10
import Derived.Test.YtagfgkcipomopaaL7
namespace Go.Proofs.Ytagfgkcipomopaa
open Go.RowKit Go.Sort

/-! ### LinksFull, as it is reckoned -/
def fullA (j : Nat) : Ad := (1 + ((j % 256 : Nat) : Int), 1 + ((j / 256 : Nat) : Int))
def fullM (n : Nat) : Mp := (List.range n).map fun j => (fullA j, [])
theorem fullM_len (n : Nat) : (fullM n).length = n := by simp [fullM]
theorem fullA_lt {i j : Nat} (h : i < j) : adLt (fullA i) (fullA j) = true := by
  rw [adLt_iff]; simp only [fullA]; omega
theorem setM_snoc {a : Ad} {l : List Ar} : ∀ {M : Mp}, (∀ x, x ∈ M → adLt x.1 a = true) → setM a l M = M ++ [(a, l)]
  | [], _ => rfl
  | x :: r, h => by
    have hx := h x (List.mem_cons_self ..)
    unfold setM
    have h1 : ¬ x.1 = a := fun e => by rw [e, adLt_irrefl] at hx; cases hx
    have h2 : ¬ adLt a x.1 = true := fun e => by have := swo_ad.trans _ _ _ hx e; rw [adLt_irrefl] at this; cases this
    rw [if_neg h1, if_neg h2, setM_snoc (fun y hy => h y (List.mem_cons_of_mem _ hy))]; rfl
theorem fullM_succ (n : Nat) : setM (fullA n) [] (fullM n) = fullM (n + 1) := by
  rw [setM_snoc]
  · simp [fullM, List.range_succ]
  · intro x hx
    simp only [fullM, List.mem_map, List.mem_range] at hx
    obtain ⟨j, hj, rfl⟩ := hx
    exact fullA_lt hj
theorem fullM_sorted : ∀ n, SortedM (fullM n)
  | 0 => by simp [fullM, SortedM]
  | n + 1 => by rw [← fullM_succ]; exact sorted_setM _ _ (fullM_sorted n)
theorem normL_single (x : Ar) : normL [x] = [x] := by
  unfold normL sortL
  rw [List.mergeSort_singleton]
  exact compL_short (by simp)
theorem normL_nil : normL [] = [] := by
  unfold normL sortL
  rw [List.mergeSort_nil]; rfl
theorem lkM_full_mem {n j : Nat} (h : j < n) : lkM (fullA j) (fullM n) = some [] := by
  cases hl : lkM (fullA j) (fullM n) with
  | none => exact absurd rfl (lkM_none.1 hl (fullA j, []) (by simp only [fullM, List.mem_map, List.mem_range]; exact ⟨j, h, rfl⟩))
  | some l =>
    have := lkM_mem hl
    simp only [fullM, List.mem_map, List.mem_range, Prod.mk.injEq] at this
    obtain ⟨_, _, _, h⟩ := this
    rw [← h]
theorem lkM_full_nil {n : Nat} {x : Ad} {l : List Ar} (h : lkM x (fullM n) = some l) : l = [] := by
  have := lkM_mem h
  simp only [fullM, List.mem_map, List.mem_range, Prod.mk.injEq] at this
  obtain ⟨_, _, _, h⟩ := this
  exact h.symm
theorem full_valid {j : Nat} (h : j < 4096) : validB (fullA j).1 (fullA j).2 = true := by
  unfold validB fullA
  have h1 : (1 : Int) ≤ 1 + ((j % 256 : Nat) : Int) := by omega
  have h2 : 1 + ((j % 256 : Nat) : Int) ≤ 256 := by omega
  have h3 : (1 : Int) ≤ 1 + ((j / 256 : Nat) : Int) := by omega
  have h4 : 1 + ((j / 256 : Nat) : Int) ≤ 4096 := by omega
  rw [decide_eq_true h1, decide_eq_true h2, decide_eq_true h3, decide_eq_true h4]; rfl
theorem full_set {n : Nat} (h : n < 4096) : setErr (fullM n) (fullA n) [] = 0 ∧ setTo (fullM n) (fullA n) [] = fullM (n + 1) := by
  have he : setErr (fullM n) (fullA n) [] = 0 := by
    unfold setErr
    rw [if_neg (by rw [full_valid h]; simp), if_neg (by simp), if_neg (by simp), if_neg (by rw [fullM_len]; omega)]
  refine ⟨he, ?_⟩
  unfold setTo; rw [if_pos he, normL_nil, fullM_succ]
theorem len_setM_none {a : Ad} {l : List Ar} : ∀ {M : Mp}, lkM a M = none → (setM a l M).length = M.length + 1
  | [], _ => rfl
  | x :: r, h => by
    unfold lkM at h
    split at h
    · cases h
    · rename_i hx
      unfold setM
      rw [if_neg hx]
      split
      · simp
      · simp [len_setM_none h]
theorem len_delM {a : Ad} : ∀ {M : Mp}, SortedM M → (lkM a M).isSome = true → (delM a M).length + 1 = M.length
  | [], _, h => by simp [lkM] at h
  | x :: r, hs, h => by
    obtain ⟨h1, h2⟩ := List.pairwise_cons.1 hs
    unfold lkM at h
    by_cases hx : x.1 = a
    · have hr : delM a r = r := by
        unfold delM
        refine List.filter_eq_self.2 fun y hy => ?_
        have := h1 y hy
        have hne : ¬ y.1 = a := fun e => by rw [hx, e, adLt_irrefl] at this; cases this
        simp [hne]
      have : delM a (x :: r) = delM a r := by unfold delM; rw [List.filter_cons]; simp [hx]
      rw [this, hr]; rfl
    · rw [if_neg hx] at h
      have : delM a (x :: r) = x :: delM a r := by unfold delM; rw [List.filter_cons]; simp [hx]
      rw [this, List.length_cons, len_delM h2 h]; rfl
theorem onM_eq {M : Mp} {x b : Ad} (h : ∀ l, lkM x M = some l → l = []) : onM M x b = false := by
  unfold onM
  cases hl : lkM x M with
  | none => rfl
  | some l => rw [h l hl]; rfl
theorem filter_one {l : List Ad} {a : Ad} {f : Ad → Bool} (hn : l.Nodup) (ha : a ∈ l) (hf : ∀ x, f x = decide (x = a)) : (l.filter f).length = 1 := by
  induction l with
  | nil => cases ha
  | cons x r ih =>
    obtain ⟨h1, h2⟩ := List.nodup_cons.1 hn
    rw [List.filter_cons, hf]
    by_cases hx : x = a
    · subst hx
      have : r.filter f = [] := List.filter_eq_nil_iff.2 fun y hy => by rw [hf]; simp; exact fun e => h1 (e ▸ hy)
      simp [this]
    · have : a ∈ r := by rcases List.mem_cons.1 ha with h | h; · exact absurd h.symm hx
                         · exact h
      simp [hx, ih h2 this]
structure FullSaid (M : Mp) (a b : Ad) : Prop where
  e : setErr M b [] = 41
  f : setErr (setTo M b []) a [(b, b)] = 0
  u : ((((setTo (setTo M b []) a [(b, b)])).map (·.1)).filter fun x => onM (setTo (setTo M b []) a [(b, b)]) x b).length = 1
  g : (lkM a (setTo (setTo M b []) a [(b, b)])).isSome = true
  h : setErr (delM a (setTo (setTo M b []) a [(b, b)])) b [] = 0
  i : setErr (setTo (delM a (setTo (setTo M b []) a [(b, b)])) b []) a [] = 41
  n : (setTo (setTo (delM a (setTo (setTo M b []) a [(b, b)])) b []) a []).length = 4096
theorem full_said {j : Nat} {b : Ad} (hj : j < 4096) (hb1 : 1 ≤ b.1) (hb2 : b.1 ≤ 256) (hb3 : 17 ≤ b.2) (hb4 : b.2 ≤ 4096) : FullSaid (fullM 4096) (fullA j) b := by
  have hvb : validB b.1 b.2 = true := by simp only [validB, Bool.and_eq_true, decide_eq_true_eq]; omega
  have hbn : lkM b (fullM 4096) = none := by
    refine lkM_none.2 fun x hx e => ?_
    simp only [fullM, List.mem_map, List.mem_range] at hx
    obtain ⟨i, hi, rfl⟩ := hx
    rw [← e] at hb3; simp only [fullA] at hb3; omega
  have he : setErr (fullM 4096) b [] = 41 := by
    unfold setErr; rw [if_neg (by rw [hvb]; simp), if_neg (by simp), if_neg (by simp), if_pos ⟨hbn, by rw [fullM_len]; exact Nat.le_refl _⟩]
  have hM : setTo (fullM 4096) b [] = fullM 4096 := by unfold setTo; rw [if_neg (by rw [he]; decide)]
  have hla := lkM_full_mem hj
  have hva : validAr (b, b) = true := by
    simp only [validAr, validA, hvb]; simp
  have hf : setErr (fullM 4096) (fullA j) [(b, b)] = 0 := by
    unfold setErr
    rw [if_neg (by rw [full_valid hj]; simp), if_neg (by simp), if_neg (by simp [hva]), if_neg (by rw [hla]; simp)]
  have hM1 : setTo (fullM 4096) (fullA j) [(b, b)] = setM (fullA j) [(b, b)] (fullM 4096) := by unfold setTo; rw [if_pos hf, normL_single]
  have hs1 : SortedM (setM (fullA j) [(b, b)] (fullM 4096)) := sorted_setM _ _ (fullM_sorted _)
  have hl1 : (setM (fullA j) [(b, b)] (fullM 4096)).length = 4096 := by rw [len_setM (fullM_sorted _) (by rw [hla]; rfl), fullM_len]
  have hg1 : lkM (fullA j) (setM (fullA j) [(b, b)] (fullM 4096)) = some [(b, b)] := by rw [lkM_set, if_pos rfl]
  have hab : ¬ fullA j = b := fun e => by rw [e, hbn] at hla; cases hla
  have hb1n : lkM b (setM (fullA j) [(b, b)] (fullM 4096)) = none := by rw [lkM_set, if_neg hab, hbn]
  have hd := len_delM hs1 (by rw [hg1]; rfl)
  rw [hl1] at hd
  have hb2n : lkM b (delM (fullA j) (setM (fullA j) [(b, b)] (fullM 4096))) = none := by rw [lkM_del, if_neg hab, hb1n]
  have hh : setErr (delM (fullA j) (setM (fullA j) [(b, b)] (fullM 4096))) b [] = 0 := by
    unfold setErr
    rw [if_neg (by rw [hvb]; simp), if_neg (by simp), if_neg (by simp), if_neg (by omega)]
  have hM3 : setTo (delM (fullA j) (setM (fullA j) [(b, b)] (fullM 4096))) b [] = setM b [] (delM (fullA j) (setM (fullA j) [(b, b)] (fullM 4096))) := by unfold setTo; rw [if_pos hh, normL_nil]
  have hl3 := len_setM_none (l := []) hb2n
  have ha3 : lkM (fullA j) (setM b [] (delM (fullA j) (setM (fullA j) [(b, b)] (fullM 4096)))) = none := by
    rw [lkM_set, if_neg (fun e => hab e.symm), lkM_del, if_pos rfl]
  have hi : setErr (setM b [] (delM (fullA j) (setM (fullA j) [(b, b)] (fullM 4096)))) (fullA j) [] = 41 := by
    unfold setErr
    rw [if_neg (by rw [full_valid hj]; simp), if_neg (by simp), if_neg (by simp), if_pos ⟨ha3, by omega⟩]
  refine ⟨he, by rw [hM]; exact hf, ?_, ?_, ?_, ?_, ?_⟩ <;> rw [hM, hM1]
  · refine filter_one (a := fullA j) (nodup_M hs1) (List.mem_map.2 ⟨_, lkM_mem hg1, rfl⟩) fun x => ?_
    by_cases hx : x = fullA j
    · subst hx
      simp only [decide_true]
      unfold onM; rw [hg1]
      have hva' : validA b.1 b.2 b.1 b.2 = true := hva
      simp [onV, inA, inB, hva']
    · simp only [hx, decide_false]
      refine onM_eq fun l hl => ?_
      rw [lkM_set, if_neg (fun e => hx e.symm)] at hl
      exact lkM_full_nil hl
  · rw [hg1]; rfl
  · exact hh
  · rw [hM3]; exact hi
  · rw [hM3]
    unfold setTo; rw [if_neg (by rw [hi]; decide), hl3]; omega
end Go.Proofs.Ytagfgkcipomopaa
