import Derived.Test.YtagfgkcipomopaaL11
namespace Go.Proofs.Ytagfgkcipomopaa
open Go.RowKit Go.Sort

/-! ### the waves, cell by cell -/
def zeros (all : List Ad) (far : Ad → Nat) : Nat := (all.filter fun a => decide (far a = 0)).length
theorem waveN_snoc {M : Mp} {all wave : List Ad} {far : Ad → Nat} {k : Nat} {a : Ad} (ha : all[k]? = some a) :
    waveN M (all.take (k + 1)) wave far = waveN M (all.take k) wave far ++ (if (decide (far a = 0) && wave.any fun b => onM M a b) then [a] else []) := by
  unfold waveN
  rw [List.take_add_one, ha, List.filter_append]
  congr 1
  simp only [Option.toList_some, List.filter_cons, List.filter_nil]
theorem waveN_sub {M : Mp} {all wave : List Ad} {far : Ad → Nat} {x : Ad} (h : x ∈ waveN M all wave far) : x ∈ all ∧ far x = 0 := by
  unfold waveN at h
  obtain ⟨h1, h2⟩ := List.mem_filter.1 h
  rw [Bool.and_eq_true, decide_eq_true_eq] at h2
  exact ⟨h1, h2.1⟩
theorem zeros_wave {M : Mp} {all wave : List Ad} {far : Ad → Nat} {n : Nat} (hn : 0 < n) : zeros all (waveF M all wave n far) + (waveN M all wave far).length ≤ zeros all far := by
  have key : ∀ l : List Ad, (∀ x ∈ l, x ∈ all) → zeros l (waveF M all wave n far) + (waveN M l wave far).length ≤ zeros l far := by
    intro l
    induction l with
    | nil => intro _; simp [zeros, waveN]
    | cons x r ih =>
      intro hs
      have := ih fun y hy => hs y (List.mem_cons_of_mem _ hy)
      have hx := hs x (List.mem_cons_self ..)
      by_cases h0 : far x = 0
      · by_cases hw : (wave.any fun b => onM M x b) = true
        · have hm : x ∈ waveN M all wave far := by unfold waveN; exact List.mem_filter.2 ⟨hx, by simp only [h0, hw]; simp⟩
          have hf : waveF M all wave n far x = n := if_pos hm
          have e1 : zeros (x :: r) (waveF M all wave n far) = zeros r (waveF M all wave n far) := by unfold zeros; rw [List.filter_cons, hf]; simp [show ¬ n = 0 by omega]
          have e2 : zeros (x :: r) far = zeros r far + 1 := by unfold zeros; rw [List.filter_cons, h0]; simp
          have e3 : (waveN M (x :: r) wave far).length = (waveN M r wave far).length + 1 := by unfold waveN; rw [List.filter_cons, h0, hw]; simp
          omega
        · have hw' : (wave.any fun b => onM M x b) = false := by simpa using hw
          have hm : x ∉ waveN M all wave far := fun hm => by unfold waveN at hm; have := (List.mem_filter.1 hm).2; rw [hw'] at this; simp at this
          have hf : waveF M all wave n far x = 0 := (if_neg hm).trans h0
          have e1 : zeros (x :: r) (waveF M all wave n far) = zeros r (waveF M all wave n far) + 1 := by unfold zeros; rw [List.filter_cons, hf]; simp
          have e2 : zeros (x :: r) far = zeros r far + 1 := by unfold zeros; rw [List.filter_cons, h0]; simp
          have e3 : waveN M (x :: r) wave far = waveN M r wave far := by unfold waveN; rw [List.filter_cons, hw']; simp
          rw [e1, e2, e3]; omega
      · have hm : x ∉ waveN M all wave far := fun hm => h0 (waveN_sub hm).2
        have hf : waveF M all wave n far x = far x := if_neg hm
        have e1 : zeros (x :: r) (waveF M all wave n far) = zeros r (waveF M all wave n far) := by unfold zeros; rw [List.filter_cons, hf]; simp [h0]
        have e2 : zeros (x :: r) far = zeros r far := by unfold zeros; rw [List.filter_cons]; simp [h0]
        have e3 : waveN M (x :: r) wave far = waveN M r wave far := by unfold waveN; rw [List.filter_cons]; simp [h0]
        rw [e1, e2, e3]; omega
  exact key all fun _ h => h
/-- Within cell a, behind j of the wave: is it met? -/
def hitJ (M : Mp) (wave : List Ad) (far : Ad → Nat) (a : Ad) (j : Nat) : Bool := decide (far a = 0) && (wave.take j).any fun b => onM M a b
def nextJ (M : Mp) (all wave : List Ad) (far : Ad → Nat) (k : Nat) (a : Ad) (j : Nat) : List Ad := waveN M (all.take k) wave far ++ (if hitJ M wave far a j then [a] else [])
def farJ (M : Mp) (all wave : List Ad) (n : Nat) (far : Ad → Nat) (k : Nat) (a : Ad) (j : Nat) : Ad → Nat := fun x => if x = a ∧ hitJ M wave far a j = true then n else waveF M (all.take k) wave n far x
theorem hitJ_zero (M : Mp) (wave : List Ad) (far : Ad → Nat) (a : Ad) : hitJ M wave far a 0 = false := by unfold hitJ; simp
theorem hitJ_succ {M : Mp} {wave : List Ad} {far : Ad → Nat} {a b : Ad} {j : Nat} (hb : wave[j]? = some b) : hitJ M wave far a (j + 1) = (hitJ M wave far a j || (decide (far a = 0) && onM M a b)) := by
  unfold hitJ
  rw [List.take_add_one, hb, List.any_append]
  simp only [Option.toList_some, List.any_cons, List.any_nil, Bool.or_false]
  cases decide (far a = 0) <;> simp
theorem hitJ_end {M : Mp} {wave : List Ad} {far : Ad → Nat} {a : Ad} : hitJ M wave far a wave.length = (decide (far a = 0) && wave.any fun b => onM M a b) := by unfold hitJ; rw [List.take_length]
theorem nextJ_zero (M : Mp) (all wave : List Ad) (far : Ad → Nat) (k : Nat) (a : Ad) : nextJ M all wave far k a 0 = waveN M (all.take k) wave far := by unfold nextJ; rw [hitJ_zero]; simp
theorem nextJ_end {M : Mp} {all wave : List Ad} {far : Ad → Nat} {k : Nat} {a : Ad} (ha : all[k]? = some a) : nextJ M all wave far k a wave.length = waveN M (all.take (k + 1)) wave far := by
  rw [waveN_snoc ha]; unfold nextJ; rw [hitJ_end]
theorem farJ_zero (M : Mp) (all wave : List Ad) (n : Nat) (far : Ad → Nat) (k : Nat) (a : Ad) : farJ M all wave n far k a 0 = waveF M (all.take k) wave n far := by
  funext x; unfold farJ; rw [hitJ_zero, if_neg (by simp)]
theorem farJ_end {M : Mp} {all wave : List Ad} {n : Nat} {far : Ad → Nat} {k : Nat} {a : Ad} (ha : all[k]? = some a) : farJ M all wave n far k a wave.length = waveF M (all.take (k + 1)) wave n far := by
  funext x
  unfold farJ waveF
  rw [hitJ_end, waveN_snoc ha]
  cases hc : (decide (far a = 0) && wave.any fun b => onM M a b)
  · simp
  · by_cases hx : x = a
    · simp [hx]
    · simp [hx]
/-- What the map tells of a itself. -/
theorem farJ_self {M : Mp} {all wave : List Ad} {n : Nat} {far : Ad → Nat} {k : Nat} {a : Ad} {j : Nat} (hnd : a ∉ all.take k) : farJ M all wave n far k a j a = if hitJ M wave far a j then n else far a := by
  unfold farJ waveF
  by_cases h : hitJ M wave far a j = true
  · rw [if_pos ⟨rfl, h⟩, if_pos h]
  · rw [if_neg (fun e => h e.2), if_neg h, if_neg (fun hm => hnd (waveN_sub hm).1)]
theorem nextJ_same {M : Mp} {all wave : List Ad} {n : Nat} {far : Ad → Nat} {k : Nat} {a : Ad} {i j : Nat} (h : hitJ M wave far a i = hitJ M wave far a j) : nextJ M all wave far k a i = nextJ M all wave far k a j ∧ farJ M all wave n far k a i = farJ M all wave n far k a j := by
  unfold nextJ farJ; rw [h]; exact ⟨rfl, rfl⟩
theorem nextJ_hit {M : Mp} {all wave : List Ad} {far : Ad → Nat} {k : Nat} {a : Ad} {i j : Nat} (h : hitJ M wave far a i = false) (h2 : hitJ M wave far a j = true) : nextJ M all wave far k a j = nextJ M all wave far k a i ++ [a] := by
  unfold nextJ; rw [h, h2]; simp
theorem farJ_hit {M : Mp} {all wave : List Ad} {n : Nat} {far : Ad → Nat} {k : Nat} {a x : Ad} {i j : Nat} (h : hitJ M wave far a i = false) (h2 : hitJ M wave far a j = true) : farJ M all wave n far k a j x = if x = a then n else farJ M all wave n far k a i x := by
  unfold farJ; rw [h, h2]; by_cases hx : x = a <;> simp [hx]
theorem wave_len {M : Mp} {all wave : List Ad} {far : Ad → Nat} : (waveN M all wave far).length ≤ all.length := List.length_filter_le ..
theorem take_all (M : Mp) (all wave : List Ad) (n : Nat) (far : Ad → Nat) : waveF M (all.take all.length) wave n far = waveF M all wave n far ∧ waveN M (all.take all.length) wave far = waveN M all wave far := by rw [List.take_length]; exact ⟨rfl, rfl⟩
end Go.Proofs.Ytagfgkcipomopaa
