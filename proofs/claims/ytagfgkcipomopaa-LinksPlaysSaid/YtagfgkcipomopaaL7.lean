import Derived.Test.YtagfgkcipomopaaL6
import Derived.Test.YtagfgkcipomopaaA1
namespace Go.Proofs.Ytagfgkcipomopaa
open Go.RowKit Go.Sort

/-! ### Ready, as it is reckoned -/
def cntM (M : Mp) (a : Ad) (l : List Ad) : Nat := (l.filter fun b => onM M a b).length
def mayL (f : Ad → Bool) : List Ad → Nat → List Int
  | [], _ => []
  | x :: r, i => if f x then (i : Int) :: mayL f r (i + 1) else mayL f r (i + 1)
def freeM (M : Mp) (left : List Ad) (a : Ad) : Bool := decide (cntM M a left = 0)
def pickK (picks : List Int) (j m : Nat) : Int := if h : j < picks.length then (picks[j].tmod m + m).tmod m else 0
def readyGo (M : Mp) (picks : List Int) : Nat → List Ad → List Ad → Option (List Ad)
  | 0, left, out => if left = [] then some out else none
  | n + 1, left, out =>
    if left = [] then some out else
      let may := mayL (freeM M left) left 0
      if may = [] then none else
        let i := (may.getD (pickK picks out.length may.length).toNat 0).toNat
        readyGo M picks n (left.eraseIdx i) (out ++ [left.getD i (0, 0)])
theorem mayL_app (f : Ad → Bool) : ∀ (l r : List Ad) (i : Nat), mayL f (l ++ r) i = mayL f l i ++ mayL f r (i + l.length)
  | [], r, i => by simp [mayL]
  | x :: l, r, i => by
    simp only [List.cons_append, mayL]
    rw [mayL_app f l r (i + 1), show i + 1 + l.length = i + (x :: l).length by simp; omega]
    split <;> rfl
theorem mayL_take {f : Ad → Bool} {l : List Ad} {k : Nat} {x : Ad} (hx : l[k]? = some x) : mayL f (l.take (k + 1)) 0 = mayL f (l.take k) 0 ++ (if f x then [(k : Int)] else []) := by
  have hk : k < l.length := (List.getElem?_eq_some_iff.1 hx).1
  rw [List.take_add_one, hx, mayL_app]
  simp only [Option.toList_some, mayL]
  rw [List.length_take, show 0 + min k l.length = k by omega]
theorem mayL_len (f : Ad → Bool) : ∀ (l : List Ad) (i : Nat), (mayL f l i).length ≤ l.length
  | [], _ => by simp [mayL]
  | x :: l, i => by
    have := mayL_len f l (i + 1)
    unfold mayL; split <;> simp <;> omega
theorem mayL_mem {f : Ad → Bool} : ∀ {l : List Ad} {i : Nat} {n : Int}, n ∈ mayL f l i → ∃ j : Nat, n = (i + j : Nat) ∧ j < l.length
  | [], _, _, h => by simp [mayL] at h
  | x :: l, i, n, h => by
    unfold mayL at h
    split at h
    · rcases List.mem_cons.1 h with rfl | h
      · exact ⟨0, by simp, by simp⟩
      · obtain ⟨j, h1, h2⟩ := mayL_mem h
        exact ⟨j + 1, by rw [h1]; congr 1; omega, by simp; omega⟩
    · obtain ⟨j, h1, h2⟩ := mayL_mem h
      exact ⟨j + 1, by rw [h1]; congr 1; omega, by simp; omega⟩
theorem cntM_snoc (M : Mp) (a b : Ad) (l : List Ad) : cntM M a (l ++ [b]) = cntM M a l + (if onM M a b then 1 else 0) := by
  unfold cntM
  rw [List.filter_append, List.length_append]
  cases h : onM M a b <;> simp [h]
theorem cntM_take {M : Mp} {a : Ad} {l : List Ad} {k : Nat} {b : Ad} (hb : l[k]? = some b) : cntM M a (l.take (k + 1)) = cntM M a (l.take k) + (if onM M a b then 1 else 0) := by
  rw [List.take_add_one, hb]; exact cntM_snoc M a b _
theorem cntM_le (M : Mp) (a : Ad) (l : List Ad) : cntM M a l ≤ l.length := List.length_filter_le ..
theorem cntM_erase {M : Mp} {a : Ad} {l : List Ad} {i : Nat} {b : Ad} (hb : l[i]? = some b) : cntM M a l = cntM M a (l.eraseIdx i) + (if onM M a b then 1 else 0) := by
  have hi := (List.getElem?_eq_some_iff.1 hb)
  obtain ⟨hlt, hbe⟩ := hi
  have h1 : l = l.take i ++ b :: l.drop (i + 1) := by
    rw [← hbe, List.getElem_cons_drop]; exact (List.take_append_drop i l).symm
  rw [List.eraseIdx_eq_take_drop_succ]
  conv => lhs; rw [h1]
  unfold cntM
  simp only [List.filter_append, List.filter_cons, List.length_append]
  cases h : onM M a b <;> simp <;> omega
/-- How many wait: what the map tells of these cells. -/
def WaitIs (E : List (Ad × Value)) (L : List Ad) (f : Ad → Nat) : Prop := ∀ a, a ∈ L → (lk a E).getD (.int .i64 0) = .int .i64 (f a)
theorem WaitIs.up {E : List (Ad × Value)} {L : List Ad} {f g : Ad → Nat} (h : WaitIs E L f) {x : Ad} {n : Nat} (hx : g x = n) (ho : ∀ a, a ∈ L → a ≠ x → g a = f a) : WaitIs (upE x (.int .i64 n) E) L g := by
  intro a ha
  rw [lk_up]
  by_cases hax : x = a
  · subst hax; rw [if_pos rfl]; simp [hx]
  · rw [if_neg hax, h a ha, ho a ha (fun e => hax e.symm)]
theorem WaitIs.congr {E : List (Ad × Value)} {L : List Ad} {f g : Ad → Nat} (h : WaitIs E L f) (ho : ∀ a, a ∈ L → g a = f a) : WaitIs E L g := fun a ha => by rw [h a ha, ho a ha]
theorem WaitIs.sub {E : List (Ad × Value)} {L L' : List Ad} {f : Ad → Nat} (h : WaitIs E L f) (ho : ∀ a, a ∈ L' → a ∈ L) : WaitIs E L' f := fun a ha => h a (ho a ha)
end Go.Proofs.Ytagfgkcipomopaa
