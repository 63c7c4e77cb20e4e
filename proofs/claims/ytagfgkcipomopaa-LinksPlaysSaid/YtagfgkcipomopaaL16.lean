import Derived.Test.YtagfgkcipomopaaL15
namespace Go.Proofs.Ytagfgkcipomopaa
open Go.RowKit Go.Sort

/-! ### append, and where what it leaves lies -/
section
variable {P : Program}
theorem run_append_where (w : World) (t ty e : TypeId) (i : TypeInfo) (z : Value) (size bytes : Nat) (ht : P.underlying t = some (.slice e)) (hi : P.info? e = some i) (hz : i.zero = some z)
    (hsize : i.size = size) (hby : i.bytes = bytes) (hzs : z.cells.size = size) (hsz : 0 < size)
    (v : Value) (n : Nat) (xs : List Value) (hown : w.ownsRow 0 e size v n xs)
    (a : Addr) (m c : Nat) (news : List Value) (hl : news.length = m * size) (hnews : ∀ j u, news[j]? = some u → w.cell? (a.add j) = some u) (h1 : ∀ u ∈ news, u.oneCell' = true)
    (h63 : n + m ≤ maxLen) (hbytes : (n + m) * bytes ≤ 140737488355328) :
    ∃ v' w', (Builtin.append_ #[t, t] ty #[v, .slice (some a) m c]).run P w = .ok v' w' ∧ w'.ownsRow 0 e size v' (n + m) (xs ++ news) ∧ w.grownBy w' v.ownBlock ∧
      (v'.ownBlock = v.ownBlock ∨ ∀ g, v'.ownBlock = some g → w.heap.size ≤ g) := by
  obtain ⟨v', w', hr, h2, h3, h4⟩ := run_append_own (P := P) w 0 t ty e i z size bytes ht hi hz hsize hby hzs hsz v n xs hown a m c news hl hnews h1 h63 hbytes (Nat.zero_le _)
  refine ⟨v', w', hr, h2, h3, ?_⟩
  rcases hown.2 with ⟨rfl, rfl⟩ | ⟨g, cap, cur, rfl, hbg, hg, hnc, hcm, hcs, htake⟩
  · have hx : xs = [] := List.eq_nil_of_length_eq_zero (by simpa using hown.1)
    subst hx
    obtain ⟨v2, w2, hr2, k2, k3, k4⟩ := run_append_own (P := P) w w.heap.size t ty e i z size bytes ht hi hz hsize hby hzs hsz (.slice none 0 0) 0 [] (World.ownsRow_nil _ _ _ _) a m c news hl hnews h1 h63 hbytes (Nat.le_refl _)
    rw [hr] at hr2
    cases hr2
    exact Or.inr fun g hg => (World.ownsRow.lt k2 g hg).1
  · subst hsize hby
    have hsmall : n + m ≤ 9223372036854775807 := by simp only [maxLen] at h63; omega
    by_cases hroom : n + m ≤ cap
    · have hfit : n * i.size + news.length ≤ cur.size := by rw [hl, hcs, ← Nat.add_mul]; exact Nat.mul_le_mul_right _ hroom
      have hr2 := run_append_room (P := P) w t ty e i ht hi g n cap cur hg a m c news hl hnews h1 hroom hfit
      rw [hr] at hr2
      cases hr2
      exact Or.inl rfl
    · have holds : ∀ j u, xs[j]? = some u → w.cell? ((⟨g, 0, none⟩ : Addr).add j) = some u := hown.cells (g := g) rfl
      have hr2 := run_append_grow (P := P) w t ty e i z ht hi hz ⟨g, 0, none⟩ n cap xs hown.1 holds a m c news hl hnews (by omega) (by omega) (growslice_fits (by omega) hbytes)
      rw [hr] at hr2
      cases hr2
      exact Or.inr fun q hq => by cases hq; exact Nat.le_refl _
theorem wpList_append_where (w : World) {ops : Array Oper} {rest : List Oper} {o : Oper} {a : Act} {Q : Exit → Act → World → Prop} (hgd : o.guard = none) (s x : Operand) (t : TypeId)
    (ho : o.op = .call { callee := .builtin .append, args := #[s, x], argTypes := #[t, t] })
    (e : TypeId) (i : TypeInfo) (z : Value) (size bytes : Nat) (ht : P.underlying t = some (.slice e)) (hi : P.info? e = some i) (hz : i.zero = some z)
    (hsize : i.size = size) (hby : i.bytes = bytes) (hzs : z.cells.size = size) (hsz : 0 < size)
    (v : Value) (n : Nat) (xs : List Value) (hs : a.eval s = v) (hown : w.ownsRow 0 e size v n xs)
    (ad : Addr) (m c : Nat) (news : List Value) (hx : a.eval x = .slice (some ad) m c) (hl : news.length = m * size) (hnews : ∀ j u, news[j]? = some u → w.cell? (ad.add j) = some u) (h1 : ∀ u ∈ news, u.oneCell' = true)
    (h63 : n + m ≤ maxLen) (hbytes : (n + m) * bytes ≤ 140737488355328)
    (h : ∀ v' w', w'.ownsRow 0 e size v' (n + m) (xs ++ news) → w.grownBy w' v.ownBlock → (v'.ownBlock = v.ownBlock ∨ ∀ g, v'.ownBlock = some g → w.heap.size ≤ g) → wpList P ops Q rest (a.put o.dst v') w') : wpList P ops Q (o :: rest) a w := by
  refine wpList_plain hgd fun K' hK' => ?_
  obtain ⟨v', w', hr, h2, h3, h4⟩ := run_append_where (P := P) w t o.type e i z size bytes ht hi hz hsize hby hzs hsz v n xs hown ad m c news hl hnews h1 h63 hbytes
  unfold Oper.wp execOp
  simp only [ho, resolve, invoke, builtin, Sem.run_bind, Sem.run_pure, Result.andThen_ok, List.map_toArray, List.map_cons, List.map_nil, hs, hx, hr]
  exact hK' _ _ (h v' w' h2 h3 h4)
end
/-! ### the rows, one more or one less -/
theorem EachR.ob {w : World} {F : Nat → Prop} {px : Nat} {ob ob' : Option Nat} {R : List (Ad × SV)} {M : Mp} (h : EachR w F px ob R M) (hob : ob' = ob ∨ ∀ g, ob' = some g → w.heap.size ≤ g) : EachR w F px ob' R M :=
  ⟨h.1, fun i x y hx hy => by
    obtain ⟨h1, h2, h3⟩ := h.2 i x y hx hy
    refine ⟨h1, h2, fun a ha => ?_⟩
    obtain ⟨q1, q2, q3, q4⟩ := h3 a ha
    refine ⟨q1, q2, fun e => ?_, q4⟩
    rcases hob with hob | hob
    · exact q3 (hob ▸ e)
    · have := hob _ e; omega⟩
theorem EachR.ins {w : World} {F : Nat → Prop} {px : Nat} {ob : Option Nat} {R : List (Ad × SV)} {M : Mp} (h : EachR w F px ob R M) {k : Nat} (hk : k ≤ M.length) {a : Ad} {s : SV} {l : List Ar} (hs : SlOf w arC 4 (slV s) l) (hb : ∀ b : Addr, s.1 = some b → F b.block ∧ b.block ≠ px ∧ ob ≠ some b.block ∧ b.block < w.heap.size) :
    EachR w F px ob (R.take k ++ (a, s) :: R.drop k) (M.take k ++ (a, l) :: M.drop k) := by
  have hl := h.1
  refine ⟨by simp [hl], fun i x y hx hy => ?_⟩
  have e1 : (R.take k).length = k := by rw [List.length_take]; omega
  have e2 : (M.take k).length = k := by rw [List.length_take]; omega
  rcases Nat.lt_trichotomy i k with hi | hi | hi
  · rw [List.getElem?_append_left (by omega), List.getElem?_take, if_pos hi] at hx hy
    exact h.2 i x y hx hy
  · subst hi
    rw [List.getElem?_append_right (by omega), e1, Nat.sub_self] at hx
    rw [List.getElem?_append_right (by omega), e2, Nat.sub_self] at hy
    simp at hx hy
    subst hx hy
    exact ⟨rfl, hs, hb⟩
  · obtain ⟨j, rfl⟩ : ∃ j, i = k + (j + 1) := ⟨i - k - 1, by omega⟩
    rw [List.getElem?_append_right (by omega), e1, show k + (j + 1) - k = j + 1 by omega, List.getElem?_cons_succ, List.getElem?_drop] at hx
    rw [List.getElem?_append_right (by omega), e2, show k + (j + 1) - k = j + 1 by omega, List.getElem?_cons_succ, List.getElem?_drop] at hy
    exact h.2 _ x y hx hy
theorem EachR.set {w : World} {F : Nat → Prop} {px : Nat} {ob : Option Nat} {R : List (Ad × SV)} {M : Mp} (h : EachR w F px ob R M) {k : Nat} {a : Ad} {s : SV} {l : List Ar} (hs : SlOf w arC 4 (slV s) l) (hb : ∀ b : Addr, s.1 = some b → F b.block ∧ b.block ≠ px ∧ ob ≠ some b.block ∧ b.block < w.heap.size) :
    EachR w F px ob (R.set k (a, s)) (M.set k (a, l)) := by
  have hl := h.1
  refine ⟨by simp [hl], fun i x y hx hy => ?_⟩
  rw [List.getElem?_set] at hx hy
  by_cases hi : k = i
  · subst hi
    rw [if_pos rfl] at hx hy
    split at hx
    · rw [if_pos (by omega)] at hy
      cases hx; cases hy
      exact ⟨rfl, hs, hb⟩
    · cases hx
  · rw [if_neg hi] at hx hy
    exact h.2 i x y hx hy
theorem EachR.erase {w : World} {F : Nat → Prop} {px : Nat} {ob : Option Nat} {R : List (Ad × SV)} {M : Mp} (h : EachR w F px ob R M) (k : Nat) : EachR w F px ob (R.eraseIdx k) (M.eraseIdx k) := by
  have hl := h.1
  refine ⟨by rw [List.length_eraseIdx, List.length_eraseIdx, hl], fun i x y hx hy => ?_⟩
  rw [List.getElem?_eraseIdx] at hx hy
  split at hx
  · rename_i hi; rw [if_pos hi] at hy; exact h.2 _ x y hx hy
  · rename_i hi; rw [if_neg hi] at hy; exact h.2 _ x y hx hy
end Go.Proofs.Ytagfgkcipomopaa
