import Derived.Test.YtagfgkcipomopaaL10
namespace Go.Proofs.Ytagfgkcipomopaa
open Go.RowKit Go.Sort

/-! ### how far one cell is from another -/
/-- Some way of so many uses leads from a to t. -/
def Reach (M : Mp) (t : Ad) : Nat → Ad → Prop
  | 0, a => a = t
  | n + 1, a => ∃ b, onM M a b = true ∧ Reach M t n b
theorem Reach.trans {M : Mp} {t s : Ad} : ∀ {n m : Nat} {a : Ad}, Reach M s n a → Reach M t m s → Reach M t (n + m) a
  | 0, m, a, h, k => by unfold Reach at h; subst h; rw [Nat.zero_add]; exact k
  | n + 1, m, a, ⟨b, h1, h2⟩, k => by
    rw [show n + 1 + m = (n + m) + 1 by omega]
    exact ⟨b, h1, Reach.trans h2 k⟩
theorem Reach.one {M : Mp} {t a : Ad} (h : onM M a t = true) : Reach M t 1 a := ⟨t, h, rfl⟩
/-- These are the least ways, none at nought. -/
structure FarIs (M : Mp) (t : Ad) (far : Ad → Nat) : Prop where
  snd : ∀ k, 0 < far k → Reach M t (far k) k
  one : ∀ k, onM M k t = true → 0 < far k ∧ far k ≤ 1
  next : ∀ j k, 0 < far j → onM M k j = true → 0 < far k ∧ far k ≤ far j + 1
theorem FarIs.le {M : Mp} {t : Ad} {far : Ad → Nat} (h : FarIs M t far) : ∀ {d : Nat} {a : Ad}, Reach M t (d + 1) a → 0 < far a ∧ far a ≤ d + 1
  | 0, a, ⟨b, h1, h2⟩ => by unfold Reach at h2; subst h2; exact h.one a h1
  | d + 1, a, ⟨b, h1, h2⟩ => by
    obtain ⟨h3, h4⟩ := h.le h2
    obtain ⟨h5, h6⟩ := h.next b a h3 h1
    exact ⟨h5, by omega⟩
theorem FarIs.unique {M : Mp} {t : Ad} {f g : Ad → Nat} (h : FarIs M t f) (k : FarIs M t g) : f = g := by
  funext a
  have one : ∀ {f g : Ad → Nat}, FarIs M t f → FarIs M t g → 0 < f a → 0 < g a ∧ g a ≤ f a := by
    intro f g h k hf
    have := h.snd a hf
    rw [show f a = (f a - 1) + 1 by omega] at this
    have := k.le this
    omega
  by_cases hf : 0 < f a
  · have h1 := one h k hf
    have h2 := one k h h1.1
    omega
  · by_cases hg : 0 < g a
    · have := one k h hg; omega
    · omega
theorem least_of {p : Nat → Prop} : ∀ n, p n → ∃ m, p m ∧ ∀ k, p k → m ≤ k := by
  intro n
  induction n using Nat.strongRecOn with
  | ind n ih =>
    intro h
    by_cases hx : ∃ k, k < n ∧ p k
    · obtain ⟨k, h1, h2⟩ := hx
      exact ih k h1 h2
    · exact ⟨n, h, fun k hk => by rcases Nat.lt_or_ge k n with h1 | h1; · exact absurd ⟨k, h1, hk⟩ hx
                                  · exact h1⟩
theorem dist_ex (M : Mp) (t a : Ad) : ∃ d : Nat, (d = 0 ∧ ∀ n, ¬ Reach M t (n + 1) a) ∨ (∃ n, d = n + 1 ∧ Reach M t (n + 1) a ∧ ∀ k, Reach M t (k + 1) a → n ≤ k) := by
  by_cases hx : ∃ n, Reach M t (n + 1) a
  · obtain ⟨n, hn⟩ := hx
    obtain ⟨m, h1, h2⟩ := least_of (p := fun n => Reach M t (n + 1) a) n hn
    exact ⟨m + 1, Or.inr ⟨m, rfl, h1, h2⟩⟩
  · exact ⟨0, Or.inl ⟨rfl, fun n h => hx ⟨n, h⟩⟩⟩
/-- The least way from a to t, of one use or more; nought if there is none. -/
noncomputable def dist (M : Mp) (t a : Ad) : Nat := Classical.choose (dist_ex M t a)
theorem dist_is (M : Mp) (t : Ad) : FarIs M t (dist M t) := by
  have hs := fun a => Classical.choose_spec (dist_ex M t a)
  have key : ∀ {n a}, Reach M t (n + 1) a → 0 < dist M t a ∧ dist M t a ≤ n + 1 := by
    intro n a h
    rcases hs a with ⟨h1, h2⟩ | ⟨m, h1, h2, h3⟩
    · exact absurd h (h2 n)
    · have := h3 n h
      unfold dist; rw [h1]; omega
  have snd : ∀ k, 0 < dist M t k → Reach M t (dist M t k) k := by
    intro k hk
    rcases hs k with ⟨h1, h2⟩ | ⟨m, h1, h2, h3⟩
    · unfold dist at hk; rw [h1] at hk; omega
    · unfold dist; rw [h1]; exact h2
  refine ⟨snd, fun k hk => key (n := 0) (Reach.one hk), fun j k hj hk => ?_⟩
  have h1 := snd j hj
  exact key (n := dist M t j) ⟨j, hk, h1⟩
theorem FarIs.eq {M : Mp} {t : Ad} {f : Ad → Nat} (h : FarIs M t f) : f = dist M t := h.unique (dist_is M t)
theorem dist_pos {M : Mp} {t a : Ad} : 0 < dist M t a ↔ ∃ n, Reach M t (n + 1) a := by
  refine ⟨fun h => ?_, fun ⟨n, h⟩ => ((dist_is M t).le h).1⟩
  have := (dist_is M t).snd a h
  rw [show dist M t a = (dist M t a - 1) + 1 by omega] at this
  exact ⟨_, this⟩
/-! ### the waves of Links.ways -/
def waveN (M : Mp) (all wave : List Ad) (far : Ad → Nat) : List Ad := all.filter fun a => decide (far a = 0) && wave.any fun b => onM M a b
def waveF (M : Mp) (all wave : List Ad) (n : Nat) (far : Ad → Nat) : Ad → Nat := fun a => if a ∈ waveN M all wave far then n else far a
/-- What holds ahead of round n. -/
structure WaveIs (M : Mp) (t : Ad) (n : Nat) (wave : List Ad) (far : Ad → Nat) : Prop where
  pos : 0 < n
  snd : ∀ k, 0 < far k → Reach M t (far k) k
  low : ∀ k, far k < n
  wav1 : n = 1 → wave = [t]
  wav : 1 < n → ∀ k, k ∈ wave ↔ far k + 1 = n
  one : 1 < n → ∀ k, onM M k t = true → 0 < far k ∧ far k ≤ 1
  next : ∀ j k, 0 < far j → far j + 1 < n → onM M k j = true → 0 < far k ∧ far k ≤ far j + 1
theorem WaveIs.start (M : Mp) (t : Ad) : WaveIs M t 1 [t] (fun _ => 0) :=
  ⟨by omega, fun _ h => absurd h (by omega), fun _ => by omega, fun _ => rfl, fun h => absurd h (by omega), fun h => absurd h (by omega), fun _ _ h => absurd h (by omega)⟩
theorem WaveIs.done {M : Mp} {t : Ad} {n : Nat} {far : Ad → Nat} (h : WaveIs M t n [] far) : FarIs M t far := by
  have h1 : 1 < n := by
    rcases Nat.lt_or_ge 1 n with h1 | h1
    · exact h1
    · have := h.wav1 (by have := h.pos; omega); cases this
  refine ⟨h.snd, h.one h1, fun j k hj hk => h.next j k hj ?_ hk⟩
  have h2 := h.low j
  have h3 : ¬ far j + 1 = n := fun e => by have := (h.wav h1 j).2 e; cases this
  omega
theorem WaveIs.round {M : Mp} {t : Ad} {n : Nat} {all wave : List Ad} {far : Ad → Nat} (h : WaveIs M t n wave far) (hall : ∀ a b, onM M a b = true → a ∈ all) :
    WaveIs M t (n + 1) (waveN M all wave far) (waveF M all wave n far) := by
  have hn := h.pos
  have mem : ∀ a, a ∈ waveN M all wave far ↔ far a = 0 ∧ ∃ b ∈ wave, onM M a b = true := by
    intro a
    unfold waveN
    rw [List.mem_filter, Bool.and_eq_true, decide_eq_true_eq, List.any_eq_true]
    exact ⟨fun ⟨_, h2⟩ => h2, fun ⟨h1, b, h2, h3⟩ => ⟨hall a b h3, h1, b, h2, h3⟩⟩
  have hF : ∀ a, (a ∈ waveN M all wave far ∧ waveF M all wave n far a = n) ∨ (a ∉ waveN M all wave far ∧ waveF M all wave n far a = far a) := by
    intro a
    by_cases ha : a ∈ waveN M all wave far
    · exact Or.inl ⟨ha, if_pos ha⟩
    · exact Or.inr ⟨ha, if_neg ha⟩
  -- a cell of the wave is n - 1 away
  have wreach : ∀ b ∈ wave, Reach M t (n - 1) b := by
    intro b hb
    rcases Nat.lt_or_ge 1 n with h1 | h1
    · have := (h.wav h1 b).1 hb
      have h2 := h.snd b (by omega)
      rwa [show far b = n - 1 by omega] at h2
    · have hn1 : n = 1 := by omega
      rw [h.wav1 hn1] at hb
      rw [hn1]
      exact List.mem_singleton.1 hb
  refine ⟨by omega, fun k hk => ?_, fun k => ?_, fun e => absurd e (by omega), fun _ k => ?_, fun _ k hk => ?_, fun j k hj hjn hk => ?_⟩
  · rcases hF k with ⟨h1, h2⟩ | ⟨h1, h2⟩
    · obtain ⟨_, b, hb, hon⟩ := (mem k).1 h1
      rw [h2, show n = (n - 1) + 1 by omega]
      exact ⟨b, hon, wreach b hb⟩
    · rw [h2] at hk ⊢; exact h.snd k hk
  · have := h.low k
    rcases hF k with ⟨h1, h2⟩ | ⟨h1, h2⟩ <;> omega
  · have := h.low k
    rcases hF k with ⟨h1, h2⟩ | ⟨h1, h2⟩
    · exact ⟨fun _ => by omega, fun _ => h1⟩
    · exact ⟨fun e => absurd e h1, fun e => by omega⟩
  · rcases Nat.lt_or_ge 1 n with h1 | h1
    · have h3 := h.one h1 k hk
      rcases hF k with ⟨h4, h5⟩ | ⟨h4, h5⟩
      · have := ((mem k).1 h4).1; omega
      · omega
    · have hn1 : n = 1 := by omega
      have h0 : far k = 0 := by have := h.low k; omega
      have : k ∈ waveN M all wave far := (mem k).2 ⟨h0, t, by rw [h.wav1 hn1]; simp, hk⟩
      have : waveF M all wave n far k = n := if_pos this
      omega
  · rcases hF j with ⟨h1, h2⟩ | ⟨h1, h2⟩
    · omega
    · rw [h2] at hj hjn ⊢
      rcases Nat.lt_or_ge (far j + 1) n with h3 | h3
      · have h4 := h.next j k hj h3 hk
        rcases hF k with ⟨h5, h6⟩ | ⟨h5, h6⟩
        · have := ((mem k).1 h5).1; omega
        · omega
      · have h1n : 1 < n := by omega
        have hjw : j ∈ wave := (h.wav h1n j).2 (by omega)
        rcases hF k with ⟨h5, h6⟩ | ⟨h5, h6⟩
        · omega
        · have h0 : far k ≠ 0 := fun e => h5 ((mem k).2 ⟨e, j, hjw, hk⟩)
          have := h.low k
          omega
/-! ### the first shortest circle -/
/-- From x on, each next one the first in order that is one nearer. -/
def chainM (M : Mp) (far : Ad → Nat) (all : List Ad) : Nat → Ad → List Ad
  | 0, _ => []
  | n + 1, x =>
    match all.find? fun a => decide (far a = n + 1) && onM M x a with
    | some y => y :: chainM M far all n y
    | none => chainM M far all n x
noncomputable def circGo (M : Mp) (all : List Ad) : List Ad → List Ad × Bool
  | [] => ([], false)
  | f :: r => if dist M f f = 0 then circGo M all r else (f :: chainM M (dist M f) all (dist M f f - 1) f, true)
noncomputable def circleM (M : Mp) : List Ad × Bool := circGo M (M.map (·.1)) (M.map (·.1))
theorem circGo_no {M : Mp} {all : List Ad} : ∀ {l : List Ad}, (circGo M all l).2 = false → (circGo M all l).1 = [] ∧ ∀ f ∈ l, dist M f f = 0
  | [], _ => ⟨rfl, fun _ h => by cases h⟩
  | f :: r, h => by
    unfold circGo at h ⊢
    by_cases h0 : dist M f f = 0
    · rw [if_pos h0] at h ⊢
      obtain ⟨h1, h2⟩ := circGo_no h
      exact ⟨h1, fun x hx => by rcases List.mem_cons.1 hx with rfl | hx; · exact h0
                                · exact h2 x hx⟩
    · rw [if_neg h0] at h; cases h
theorem circGo_yes {M : Mp} {all : List Ad} : ∀ {l : List Ad}, (circGo M all l).2 = true → ∃ f ∈ l, 0 < dist M f f ∧ (circGo M all l).1 = f :: chainM M (dist M f) all (dist M f f - 1) f
  | [], h => by cases h
  | f :: r, h => by
    unfold circGo at h ⊢
    by_cases h0 : dist M f f = 0
    · rw [if_pos h0] at h ⊢
      obtain ⟨g, h1, h2, h3⟩ := circGo_yes h
      exact ⟨g, List.mem_cons_of_mem _ h1, h2, h3⟩
    · rw [if_neg h0]
      exact ⟨f, List.mem_cons_self .., by omega, rfl⟩
/-- Each uses the next one; the last one uses t. -/
def LinkTo (M : Mp) (t : Ad) : List Ad → Prop
  | [] => True
  | [x] => onM M x t = true
  | x :: y :: r => onM M x y = true ∧ LinkTo M t (y :: r)
theorem chain_ok {M : Mp} {t : Ad} {all : List Ad} (hall : ∀ a b, onM M a b = true → a ∈ all) : ∀ (n : Nat) (x : Ad), dist M t x = n + 1 → LinkTo M t (x :: chainM M (dist M t) all n x) ∧ (∀ y ∈ chainM M (dist M t) all n x, 0 < dist M t y ∧ dist M t y ≤ n) ∧ (x :: chainM M (dist M t) all n x).Nodup ∧ (chainM M (dist M t) all n x).length = n ∧ (∀ y ∈ chainM M (dist M t) all n x, y ∈ all)
  | 0, x, h => by
    have := (dist_is M t).snd x (by omega)
    rw [h] at this
    obtain ⟨b, h1, h2⟩ := this
    unfold Reach at h2; subst h2
    exact ⟨h1, by simp [chainM], by simp [chainM], rfl, by simp [chainM]⟩
  | n + 1, x, h => by
    have hr := (dist_is M t).snd x (by omega)
    rw [h] at hr
    obtain ⟨b, h1, h2⟩ := hr
    have hb := (dist_is M t).le h2
    have hb2 := ((dist_is M t).next b x hb.1 h1).2
    have hbd : dist M t b = n + 1 := by omega
    have hball : b ∈ all := by
      have := h2
      obtain ⟨c, h3, _⟩ := this
      exact hall b c h3
    unfold chainM
    cases hf : all.find? fun a => decide (dist M t a = n + 1) && onM M x a with
    | none =>
      have := List.find?_eq_none.1 hf b hball
      rw [hbd, h1] at this; simp at this
    | some y =>
      have hy := List.find?_some hf
      rw [Bool.and_eq_true, decide_eq_true_eq] at hy
      obtain ⟨i1, i2, i3, i4, i5⟩ := chain_ok hall n y hy.1
      have hya := List.mem_of_find?_eq_some hf
      refine ⟨⟨hy.2, i1⟩, fun z hz => ?_, ?_, by simp [i4], fun z hz => ?_⟩
      · rcases List.mem_cons.1 hz with rfl | hz
        · omega
        · have := i2 z hz; omega
      · refine List.nodup_cons.2 ⟨fun hx => ?_, i3⟩
        rcases List.mem_cons.1 hx with rfl | hx
        · omega
        · have := i2 x hx; omega
      · rcases List.mem_cons.1 hz with rfl | hz
        · exact hya
        · exact i5 z hz
theorem linkTo_get {M : Mp} {t : Ad} : ∀ {c : List Ad} {i : Nat} {x y : Ad}, LinkTo M t c → c[i]? = some x → c[i + 1]? = some y → onM M x y = true
  | [], _, _, _, _, h, _ => by simp at h
  | [x], i, _, _, _, _, h => by simp at h
  | a :: b :: r, 0, x, y, h, hx, hy => by
    simp at hx hy; subst hx hy; exact h.1
  | a :: b :: r, i + 1, x, y, h, hx, hy => linkTo_get (c := b :: r) (i := i) h.2 (by simpa using hx) (by simpa using hy)
theorem linkTo_last {M : Mp} {t : Ad} : ∀ {c : List Ad} {i : Nat} {x : Ad}, LinkTo M t c → c[i]? = some x → i + 1 = c.length → onM M x t = true
  | [], _, _, _, h, _ => by simp at h
  | [x], i, y, h, hx, hi => by
    have : i = 0 := by simpa using hi
    subst this
    simp at hx; subst hx; exact h
  | a :: b :: r, 0, x, h, hx, hi => by simp at hi
  | a :: b :: r, i + 1, x, h, hx, hi => linkTo_last (c := b :: r) (i := i) h.2 (by simpa using hx) (by simpa using hi)
/-- What comes out is a circle. -/
structure IsCirc (M : Mp) (c : List Ad) : Prop where
  ne : c ≠ []
  nodup : c.Nodup
  on : ∀ i x y, c[i]? = some x → c[(i + 1) % c.length]? = some y → onM M x y = true
theorem circleM_yes {M : Mp} (hall : ∀ a b, onM M a b = true → a ∈ M.map (·.1)) (h : (circleM M).2 = true) : IsCirc M (circleM M).1 ∧ (∀ x ∈ (circleM M).1, x ∈ M.map (·.1)) := by
  obtain ⟨f, h1, h2, h3⟩ := circGo_yes h
  obtain ⟨i1, i2, i3, i4, i5⟩ := chain_ok (t := f) hall (dist M f f - 1) f (by omega)
  have e : (circleM M).1 = f :: chainM M (dist M f) (M.map (·.1)) (dist M f f - 1) f := h3
  rw [e]
  generalize chainM M (dist M f) (M.map (·.1)) (dist M f f - 1) f = c at i1 i2 i3 i4 i5
  refine ⟨⟨by simp, i3, fun i x y hx hy => ?_⟩, fun x hx => ?_⟩
  · have hi := (List.getElem?_eq_some_iff.1 hx).1
    by_cases hl : i + 1 = (f :: c).length
    · rw [hl, Nat.mod_self] at hy
      simp at hy; subst hy
      exact linkTo_last i1 hx hl
    · rw [Nat.mod_eq_of_lt (by omega)] at hy
      exact linkTo_get i1 hx hy
  · rcases List.mem_cons.1 hx with rfl | hx
    · exact h1
    · exact i5 x hx
theorem circ_not_acyc {M : Mp} {c l : List Ad} (h : IsCirc M c) (hc : ∀ x ∈ c, x ∈ l) : ¬ Acyc M l := by
  intro ha
  obtain ⟨x, hx, hf⟩ := ha c h.ne hc
  obtain ⟨i, hi, rfl⟩ := List.mem_iff_getElem.1 hx
  have hpos : 0 < c.length := by omega
  have hm := Nat.mod_lt (i + 1) hpos
  have := h.on i c[i] c[(i + 1) % c.length] (List.getElem?_eq_getElem hi) (List.getElem?_eq_getElem hm)
  rw [hf _ (List.getElem_mem hm)] at this
  cases this
theorem nodup_len : ∀ {c S : List Ad}, c.Nodup → (∀ x ∈ c, x ∈ S) → c.length ≤ S.length
  | [], _, _, _ => by simp
  | x :: r, S, h, hs => by
    obtain ⟨h1, h2⟩ := List.nodup_cons.1 h
    have hx := hs x (List.mem_cons_self ..)
    have := nodup_len (S := S.erase x) h2 fun y hy => (List.mem_erase_of_ne (fun e : y = x => h1 (by rw [← e]; exact hy))).2 (hs y (List.mem_cons_of_mem _ hy))
    rw [List.length_erase_of_mem hx] at this
    have := List.length_pos_of_mem hx
    simp; omega
/-- Where no cell comes back to itself, each part has a free one. -/
theorem acyc_of {M : Mp} (hno : ∀ x n, ¬ Reach M x (n + 1) x) (l : List Ad) : Acyc M l := by
  intro S hS _
  refine Classical.byContradiction fun hnf => ?_
  have step : ∀ x ∈ S, ∃ y ∈ S, onM M x y = true := by
    intro x hx
    refine Classical.byContradiction fun h => hnf ⟨x, hx, fun y hy => ?_⟩
    cases hon : onM M x y
    · rfl
    · exact absurd ⟨y, hy, hon⟩ h
  -- walks of any length, no cell twice
  have long : ∀ n, ∃ c : List Ad, c.length = n + 1 ∧ c.Nodup ∧ (∀ x ∈ c, x ∈ S) ∧ ∃ h r, c = h :: r ∧ ∀ x ∈ r, ∃ k, Reach M h (k + 1) x := by
    intro n
    induction n with
    | zero =>
      obtain ⟨x, hx⟩ := List.exists_mem_of_ne_nil S hS
      exact ⟨[x], rfl, by simp, fun y hy => by rw [List.mem_singleton.1 hy]; exact hx, x, [], rfl, fun _ h => by cases h⟩
    | succ n ih =>
      obtain ⟨c, h1, h2, h3, h, r, rfl, h4⟩ := ih
      obtain ⟨y, hy, hon⟩ := step h (h3 h (List.mem_cons_self ..))
      have h5 : ∀ x ∈ h :: r, ∃ k, Reach M y (k + 1) x := by
        intro x hx
        rcases List.mem_cons.1 hx with rfl | hx
        · exact ⟨0, Reach.one hon⟩
        · obtain ⟨k, hk⟩ := h4 x hx
          exact ⟨k + 1, Reach.trans hk (Reach.one hon)⟩
      refine ⟨y :: h :: r, by simp at h1 ⊢; omega, List.nodup_cons.2 ⟨fun hm => ?_, h2⟩, fun x hx => ?_, y, h :: r, rfl, h5⟩
      · obtain ⟨k, hk⟩ := h5 y hm
        exact hno y k hk
      · rcases List.mem_cons.1 hx with rfl | hx
        · exact hy
        · exact h3 x hx
  obtain ⟨c, h1, h2, h3, _⟩ := long S.length
  have := nodup_len h2 h3
  omega
theorem circleM_no {M : Mp} (hall : ∀ a b, onM M a b = true → a ∈ M.map (·.1)) (h : (circleM M).2 = false) (l : List Ad) : (circleM M).1 = [] ∧ Acyc M l := by
  obtain ⟨h1, h2⟩ := circGo_no h
  refine ⟨h1, acyc_of (fun x n hr => ?_) l⟩
  have hx : x ∈ M.map (·.1) := by obtain ⟨b, h3, _⟩ := hr; exact hall x b h3
  have := (dist_pos (M := M)).2 ⟨n, hr⟩
  have := h2 x hx
  omega
/-! ### all that hang on some -/
/-- A cell that hangs on one of these. -/
def Hangs (M : Mp) (at_ : List Ad) (a : Ad) : Prop := ∃ b ∈ at_, ∃ n, Reach M b (n + 1) a
open Classical in
noncomputable def aboveM (M : Mp) (at_ : List Ad) : List Ad := (M.map (·.1)).filter fun a => decide (Hangs M at_ a)
/-- A set that is closed, and in which all are that use one of these, has all that hang on these. -/
theorem hangs_in {M : Mp} {at_ : List Ad} {p : Ad → Prop} (h1 : ∀ b ∈ at_, ∀ a, onM M a b = true → p a) (h2 : ∀ a b, p b → onM M a b = true → p a) : ∀ a, Hangs M at_ a → p a := by
  rintro a ⟨b, hb, n, h⟩
  induction n generalizing a with
  | zero => obtain ⟨c, h3, h4⟩ := h; unfold Reach at h4; subst h4; exact h1 _ hb a h3
  | succ n ih => obtain ⟨c, h3, h4⟩ := h; exact h2 a c (ih c h4) h3
theorem hangs_one {M : Mp} {at_ : List Ad} {a b : Ad} (hb : b ∈ at_) (h : onM M a b = true) : Hangs M at_ a := ⟨b, hb, 0, Reach.one h⟩
theorem hangs_step {M : Mp} {at_ : List Ad} {a b : Ad} (hb : Hangs M at_ b) (h : onM M a b = true) : Hangs M at_ a := by
  obtain ⟨c, h1, n, h2⟩ := hb
  exact ⟨c, h1, n + 1, b, h, h2⟩
open Classical in
theorem mem_above {M : Mp} (hall : ∀ a b, onM M a b = true → a ∈ M.map (·.1)) {at_ : List Ad} {a : Ad} : a ∈ aboveM M at_ ↔ Hangs M at_ a := by
  unfold aboveM
  rw [List.mem_filter, decide_eq_true_eq]
  refine ⟨fun h => h.2, fun h => ⟨?_, h⟩⟩
  obtain ⟨b, _, n, c, h1, _⟩ := h
  exact hall a c h1
/-- What one walk of the closure does to the cells that are met. -/
structure MetBy (M : Mp) (b : Ad) (m m' : Ad → Bool) : Prop where
  grow : ∀ a, m a = true → m' a = true
  snd : ∀ a, m' a = true → m a = true ∨ Hangs M [b] a
  cls : ∀ x a, m' x = true → m x = false → onM M a x = true → m' a = true
theorem MetBy.refl (M : Mp) (b : Ad) (m : Ad → Bool) : MetBy M b m m := ⟨fun _ h => h, fun _ h => Or.inl h, fun x a h k => by rw [h] at k; cases k⟩
/-- One more cell is met, and walked from. -/
theorem MetBy.step {M : Mp} {b a : Ad} {m m1 m2 : Ad → Bool} (h : MetBy M b m m1) (hon : onM M a b = true) (k : MetBy M a (fun x => m1 x || decide (x = a)) m2) (hk : ∀ c, onM M c a = true → m2 c = true) : MetBy M b m m2 := by
  have g : ∀ c, m1 c = true → m2 c = true := fun c hc => k.grow c (by simp [hc])
  refine ⟨fun c hc => g c (h.grow c hc), fun c hc => ?_, fun x c hx hmx hon' => ?_⟩
  · rcases k.snd c hc with h1 | h1
    · rw [Bool.or_eq_true, decide_eq_true_eq] at h1
      rcases h1 with h1 | rfl
      · exact h.snd c h1
      · exact Or.inr (hangs_one (by simp) hon)
    · refine Or.inr (hangs_in (p := Hangs M [b]) ?_ ?_ c h1)
      · intro y hy z hz
        rw [List.mem_singleton.1 hy] at hz
        exact hangs_step (hangs_one (by simp) hon) hz
      · intro y z hz hyz; exact hangs_step hz hyz
  · by_cases h1 : m1 x = true
    · exact g c (h.cls x c h1 hmx hon')
    · by_cases hxa : x = a
      · subst hxa; exact hk c hon'
      · exact k.cls x c hx (by simp [hxa]; simpa using h1) hon'
open Classical in
theorem above_of {M : Mp} {at_ : List Ad} {m : Ad → Bool} (h1 : ∀ a, m a = true → Hangs M at_ a) (h2 : ∀ b ∈ at_, ∀ a, onM M a b = true → m a = true) (h3 : ∀ x a, m x = true → onM M a x = true → m a = true) :
    (M.map (·.1)).filter m = aboveM M at_ := by
  unfold aboveM
  refine List.filter_congr fun a _ => ?_
  rw [Bool.eq_iff_iff, decide_eq_true_eq]
  exact ⟨h1 a, hangs_in (p := fun a => m a = true) h2 (fun a b hb hab => h3 b a hb hab) a⟩
end Go.Proofs.Ytagfgkcipomopaa
