import Derived.Test.YtagfgkcipomopaaL12
import Derived.Test.YtagfgkcipomopaaW21
namespace Go.Proofs.Ytagfgkcipomopaa
open Go.RowKit Go.Sort

/-! ### the document's way of finding how far -/
def updF (far : Ad → Nat) (k : Ad) (d : Nat) : Ad → Nat := fun x => if x = k then d else far x
structure BfsIs (M : Mp) (t : Ad) (far : Ad → Nat) (Q : List Ad) : Prop where
  snd : ∀ k, 0 < far k → Reach M t (far k) k
  one : ∀ k, onM M k t = true → 0 < far k ∧ far k ≤ 1
  q : ∀ k ∈ Q, 0 < far k
  sorted : Q.Pairwise (fun a b => far a ≤ far b)
  bound : ∀ h r, Q = h :: r → ∀ k, far k ≤ far h + 1
  done : ∀ j, 0 < far j → j ∉ Q → ∀ k, onM M k j = true → 0 < far k ∧ far k ≤ far j + 1
  bnd : ∀ k, far k + zeros (M.map (·.1)) far ≤ M.length + 1
theorem BfsIs.end {M : Mp} {t : Ad} {far : Ad → Nat} (h : BfsIs M t far []) : FarIs M t far := ⟨h.snd, h.one, fun j k hj hk => h.done j hj (by simp) k hk⟩
theorem zeros_le (all : List Ad) (far : Ad → Nat) : zeros all far ≤ all.length := List.length_filter_le ..
theorem bfs_start (M : Mp) (t : Ad) : BfsIs M t (fun a => if onM M a t then 1 else 0) ((M.map (·.1)).filter fun a => onM M a t) := by
  refine ⟨fun k hk => ?_, fun k hk => ?_, fun k hk => ?_, ?_, fun h r _ k => ?_, fun j hj hn => ?_, fun k => ?_⟩
  · by_cases h : onM M k t = true
    · simp only [h, if_true]; exact Reach.one h
    · simp [h] at hk
  · simp [hk]
  · have h2 := (List.mem_filter.1 hk).2
    show 0 < if onM M k t = true then 1 else 0
    rw [if_pos h2]; omega
  · refine List.pairwise_of_forall_mem_list fun a ha b hb => ?_
    have h1 := (List.mem_filter.1 ha).2
    have h2 := (List.mem_filter.1 hb).2
    show (if onM M a t = true then 1 else 0) ≤ (if onM M b t = true then 1 else 0)
    rw [if_pos h1, if_pos h2]; exact Nat.le_refl _
  · show (if onM M k t = true then 1 else 0) ≤ (if onM M h t = true then 1 else 0) + 1
    split <;> split <;> omega
  · exfalso
    by_cases h : onM M j t = true
    · exact hn (List.mem_filter.2 ⟨onM_key h, h⟩)
    · simp [h] at hj
  · have := zeros_le (M.map (·.1)) (fun a => if onM M a t then 1 else 0)
    rw [List.length_map] at this
    show (if onM M k t = true then 1 else 0) + _ ≤ _
    split <;> omega
/-- While one cell's users are met. -/
structure BfsIn (M : Mp) (t c : Ad) (far : Ad → Nat) (Q P : List Ad) : Prop where
  snd : ∀ k, 0 < far k → Reach M t (far k) k
  one : ∀ k, onM M k t = true → 0 < far k ∧ far k ≤ 1
  pos : 0 < far c
  q : ∀ k ∈ Q, 0 < far k ∧ far c ≤ far k
  sorted : Q.Pairwise (fun a b => far a ≤ far b)
  bound : ∀ k, far k ≤ far c + 1
  done : ∀ j, 0 < far j → j ∉ Q → j ≠ c → ∀ k, onM M k j = true → 0 < far k ∧ far k ≤ far j + 1
  cl : ∀ k ∈ P, onM M k c = true → 0 < far k
  bnd : ∀ k, far k + zeros (M.map (·.1)) far ≤ M.length + 1
theorem BfsIs.enter {M : Mp} {t c : Ad} {far : Ad → Nat} {Q : List Ad} (h : BfsIs M t far (c :: Q)) : BfsIn M t c far Q [] := by
  obtain ⟨h1, h2⟩ := List.pairwise_cons.1 h.sorted
  exact ⟨h.snd, h.one, h.q c (by simp), fun k hk => ⟨h.q k (by simp [hk]), h1 k hk⟩, h2, h.bound c Q rfl, fun j hj hn hc => h.done j hj (by simp [hn, hc]), fun k hk => (by cases hk), h.bnd⟩
theorem BfsIn.leave {M : Mp} {t c : Ad} {far : Ad → Nat} {Q : List Ad} (h : BfsIn M t c far Q (M.map (·.1))) : BfsIs M t far Q := by
  refine ⟨h.snd, h.one, fun k hk => (h.q k hk).1, h.sorted, fun x r e k => ?_, fun j hj hn k hk => ?_, h.bnd⟩
  · have := (h.q x (by rw [e]; simp)).2
    have := h.bound k
    omega
  · by_cases hc : j = c
    · subst hc
      exact ⟨h.cl k (onM_key hk) hk, h.bound k⟩
    · exact h.done j hj hn hc k hk
theorem BfsIn.skip {M : Mp} {t c k : Ad} {far : Ad → Nat} {Q P : List Ad} (h : BfsIn M t c far Q P) (hk : 0 < far k ∨ onM M k c = false) : BfsIn M t c far Q (P ++ [k]) :=
  ⟨h.snd, h.one, h.pos, h.q, h.sorted, h.bound, h.done, fun x hx hon => by
    rcases List.mem_append.1 hx with hx | hx
    · exact h.cl x hx hon
    · simp at hx; subst hx
      rcases hk with hk | hk
      · exact hk
      · exact absurd (hon.symm.trans hk) (by simp), h.bnd⟩
theorem zeros_upd {all : List Ad} {far : Ad → Nat} {k : Ad} {d : Nat} (hn : all.Nodup) (hk : k ∈ all) (h0 : far k = 0) (hd : 0 < d) : zeros all (updF far k d) + 1 = zeros all far := by
  induction all with
  | nil => cases hk
  | cons x r ih =>
    obtain ⟨h1, h2⟩ := List.nodup_cons.1 hn
    unfold zeros at ih ⊢
    rw [List.filter_cons, List.filter_cons]
    by_cases hx : x = k
    · subst hx
      have e1 : updF far x d x = d := if_pos rfl
      have e2 : r.filter (fun a => decide (updF far x d a = 0)) = r.filter (fun a => decide (far a = 0)) := List.filter_congr fun a ha => by
        have : a ≠ x := fun e => h1 (e ▸ ha)
        simp [updF, this]
      rw [e1, h0, e2]
      simp [show ¬ d = 0 by omega]
    · have e1 : updF far k d x = far x := if_neg hx
      have hk' : k ∈ r := by
        rcases List.mem_cons.1 hk with h | h
        · exact absurd h.symm hx
        · exact h
      rw [e1]
      have := ih h2 hk'
      by_cases hf : far x = 0 <;> simp [hf] <;> omega
theorem BfsIn.meet {M : Mp} {t c k : Ad} {far : Ad → Nat} {Q P : List Ad} (h : BfsIn M t c far Q P) (hs : SortedM M) (h0 : far k = 0) (hon : onM M k c = true) : BfsIn M t c (updF far k (far c + 1)) (Q ++ [k]) (P ++ [k]) := by
  have hkc : c ≠ k := fun e => by have := h.pos; rw [e, h0] at this; omega
  have e : ∀ x, x ≠ k → updF far k (far c + 1) x = far x := fun x hx => if_neg hx
  have ek : updF far k (far c + 1) k = far c + 1 := if_pos rfl
  have ec := e c hkc
  have hz := zeros_upd (far := far) (d := far c + 1) (nodup_M hs) (onM_key hon) h0 (by omega)
  have hq : ∀ x ∈ Q, x ≠ k := fun x hx he => by have := (h.q x hx).1; rw [he, h0] at this; omega
  have gr : ∀ x, 0 < far x → 0 < updF far k (far c + 1) x ∧ updF far k (far c + 1) x = far x := fun x hx => by
    have : x ≠ k := fun he => by rw [he, h0] at hx; omega
    rw [e x this]; exact ⟨hx, rfl⟩
  refine ⟨fun x hx => ?_, fun x hx => ?_, by rw [ec]; exact h.pos, fun x hx => ?_, ?_, fun x => ?_, fun j hj hn hc x hx => ?_, fun x hx hx2 => ?_, fun x => ?_⟩
  · by_cases hxk : x = k
    · subst hxk; rw [ek]; exact ⟨c, hon, h.snd c h.pos⟩
    · rw [e x hxk] at hx ⊢; exact h.snd x hx
  · obtain ⟨h1, h2⟩ := h.one x hx
    have := gr x h1; omega
  · rw [ec]
    rcases List.mem_append.1 hx with hx | hx
    · rw [e x (hq x hx)]; exact h.q x hx
    · simp at hx; subst hx; rw [ek]; omega
  · rw [List.pairwise_append]
    refine ⟨h.sorted.imp_of_mem fun {a b} ha hb hab => by rw [e a (hq a ha), e b (hq b hb)]; exact hab, by simp, fun a ha b hb => ?_⟩
    simp at hb; subst hb
    rw [ek, e a (hq a ha)]; exact h.bound a
  · rw [ec]
    by_cases hxk : x = k
    · subst hxk; rw [ek]; omega
    · rw [e x hxk]; exact h.bound x
  · have hjk : j ≠ k := fun he => hn (by simp [he])
    rw [e j hjk] at hj ⊢
    obtain ⟨h1, h2⟩ := h.done j hj (fun hm => hn (by simp [hm])) hc x hx
    have := gr x h1; omega
  · rcases List.mem_append.1 hx with hx | hx
    · exact (gr x (h.cl x hx hx2)).1
    · simp at hx; subst hx; rw [ek]; omega
  · have h1 := h.bnd x
    have h2 := h.bnd c
    by_cases hxk : x = k
    · subst hxk; rw [ek]; omega
    · rw [e x hxk]; omega
end Go.Proofs.Ytagfgkcipomopaa
