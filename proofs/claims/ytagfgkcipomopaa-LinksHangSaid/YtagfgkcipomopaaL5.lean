import Derived.Test.YtagfgkcipomopaaL3
import Derived.Lib.SlicesCompact
import Derived.Lib.SliceRun
import Derived.Laws.IdiomCopy
namespace Go.Proofs.Ytagfgkcipomopaa
open Go.RowKit Go.Sort Go.MapKept

/-! ### a row of structs that is written in place -/
theorem setCells_row (g : Nat) (T : TypeId) : ∀ (vs : List Value) (o : Nat) (w : World) (cur : Array Value), w.heap[g]? = some (.cells cur T (0, 0)) →
    ∃ cur', (w.setCells g o vs).heap[g]? = some (.cells cur' T (0, 0)) ∧ cur'.size = cur.size ∧ ∀ t, cur'[t]? = if o ≤ t ∧ t < o + vs.length ∧ t < cur.size then vs[t - o]? else cur[t]?
  | [], o, w, cur, h => ⟨cur, h, rfl, fun t => by rw [if_neg (by simp; omega)]⟩
  | v :: r, o, w, cur, h => by
    have h1 : (w.setCell ⟨g, o, none⟩ v).heap[g]? = some (.cells (cur.setIfInBounds o v) T (0, 0)) := by
      simp [World.setCell, Array.getElem?_modify, h]
    obtain ⟨cur', q1, q2, q3⟩ := setCells_row g T r (o + 1) _ _ h1
    refine ⟨cur', q1, by rw [q2]; simp, fun t => ?_⟩
    rw [q3 t]
    simp only [List.length_cons, Array.size_setIfInBounds]
    by_cases ht : t = o
    · subst ht
      rw [if_neg (by omega)]
      by_cases hc : t < cur.size
      · rw [if_pos (by omega), Nat.sub_self]; simp [hc]
      · rw [if_neg (by omega)]; simp [hc]
    · by_cases hb : o + 1 ≤ t ∧ t < o + 1 + r.length ∧ t < cur.size
      · rw [if_pos hb, if_pos (by omega)]
        obtain ⟨s, rfl⟩ : ∃ s, t = o + 1 + s := ⟨t - (o + 1), by omega⟩
        rw [show o + 1 + s - (o + 1) = s by omega, show o + 1 + s - o = s + 1 by omega]
        simp
      · rw [if_neg hb, if_neg (by omega), Array.getElem?_setIfInBounds_ne (by omega)]
theorem setCells_grown (g : Nat) : ∀ (vs : List Value) (o : Nat) (w : World), w.grownBy (w.setCells g o vs) (some g)
  | [], _, w => ⟨rfl, rfl, rfl, Nat.le_refl _, fun _ _ _ => rfl⟩
  | v :: r, o, w => by
    have h1 : w.grownBy (w.setCell ⟨g, o, none⟩ v) (some g) := ⟨rfl, rfl, rfl, by simp, fun k _ hk => Below.heap_setCell _ _ _ _ (fun e => hk (by rw [e]))⟩
    have h2 := setCells_grown g r (o + 1) (w.setCell ⟨g, o, none⟩ v)
    exact ⟨h2.os.trans h1.os, h2.tape.trans h1.tape, h2.output.trans h1.output, Nat.le_trans h1.size h2.size, fun k hk hne => (h2.block k (by simpa using hk) hne).trans (h1.block k hk hne)⟩
section
variable {α : Type} {enc : α → List Value} {k : Nat}
/-- Block g is a row with room for cap elements; the first ones are these. -/
def RowL (w : World) (g : Nat) (T : TypeId) (cap k : Nat) (enc : α → List Value) (d : List α) : Prop :=
  ∃ cur : Array Value, w.heap[g]? = some (.cells cur T (0, 0)) ∧ cur.size = cap * k ∧ d.length ≤ cap ∧ ∀ j x, d[j]? = some x → ∀ i u, (enc x)[i]? = some u → cur[j * k + i]? = some u
theorem RowL.of_own {w : World} {base : Nat} {T : TypeId} {v : Value} {l : List α} (h : OwnL w base T k enc v l) (hk : ∀ x, (enc x).length = k) (hl : l ≠ []) : ∃ g cap, v = .slice (some ⟨g, 0, none⟩) l.length cap ∧ base ≤ g ∧ cap ≤ maxLen ∧ RowL w g T cap k enc l := by
  rcases h.2 with ⟨rfl, h0⟩ | ⟨g, cap, cur, rfl, hb, hg, hn, hc, hs, ht⟩
  · exact absurd (List.length_eq_zero_iff.1 h0) hl
  · refine ⟨g, cap, rfl, hb, hc, cur, hg, hs, hn, fun j x hx i u hu => ?_⟩
    have hi : i < k := by rw [← hk x]; exact (List.getElem?_eq_some_iff.1 hu).1
    have hf := flat_get hk l j i x hx hi
    rw [hu, ← ht, List.getElem?_take] at hf
    split at hf
    · simpa using hf
    · cases hf
theorem RowL.own {w : World} {g : Nat} {T : TypeId} {cap : Nat} {d : List α} (h : RowL w g T cap k enc d) (hk : ∀ x, (enc x).length = k) (hc : cap ≤ maxLen) {base : Nat} (hb : base ≤ g) (m : Nat) (hm : m ≤ d.length) :
    OwnL w base T k enc (.slice (some ⟨g, 0, none⟩) m cap) (d.take m) := by
  obtain ⟨cur, hg, hs, hd, hc2⟩ := h
  have hml : (d.take m).length = m := by rw [List.length_take]; omega
  refine ⟨by rw [flat_len hk], Or.inr ⟨g, cap, cur, by rw [hml], hb, hg, by omega, hc, hs, ?_⟩⟩
  rw [hml]
  apply List.ext_getElem?
  intro t
  rw [List.getElem?_take]
  by_cases ht : t < m * k
  · have k0 : 0 < k := by rcases Nat.eq_zero_or_pos k with h | h; · subst h; simp at ht
                          · exact h
    have hj : t / k < m := by rw [Nat.div_lt_iff_lt_mul k0]; exact ht
    have hi : t % k < k := Nat.mod_lt _ k0
    obtain ⟨x, hx⟩ : ∃ x, d[t / k]? = some x := ⟨d[t / k]'(by omega), by simp⟩
    have hf := flat_get hk (d.take m) (t / k) (t % k) x (by rw [List.getElem?_take, if_pos hj]; exact hx) hi
    rw [Nat.div_add_mod' t k] at hf
    have hl2 : t % k < (enc x).length := by rw [hk]; exact hi
    have := hc2 (t / k) x hx (t % k) _ (List.getElem?_eq_getElem hl2)
    rw [Nat.div_add_mod' t k] at this
    rw [if_pos ht, hf, List.getElem?_eq_getElem hl2]
    simpa using this
  · rw [if_neg ht, List.getElem?_eq_none (by rw [flat_len hk, hml]; omega)]
theorem RowL.cell {w : World} {g : Nat} {T : TypeId} {cap : Nat} {d : List α} (h : RowL w g T cap k enc d) {j : Nat} {x : α} (hx : d[j]? = some x) : ∀ i u, (enc x)[i]? = some u → w.cell? ⟨g, j * k + i, none⟩ = some u := by
  obtain ⟨cur, hg, hs, hd, hc⟩ := h
  intro i u hu
  rw [cell_of_row w g _ cur T (0, 0) hg]
  exact hc j x hx i u hu
theorem RowL.has {w : World} {g : Nat} {T : TypeId} {cap : Nat} {d : List α} (h : RowL w g T cap k enc d) {o : Nat} (ho : o < cap * k) : (w.cell? ⟨g, o, none⟩).isSome = true := by
  obtain ⟨cur, hg, hs, _⟩ := h
  rw [cell_of_row w g _ cur T (0, 0) hg, Array.getElem?_eq_getElem (by rw [hs]; exact ho)]; rfl
theorem RowL.froz {w : World} {g : Nat} {T : TypeId} {cap : Nat} {d : List α} (h : RowL w g T cap k enc d) (o : Nat) : w.frozen? ⟨g, o, none⟩ = false := by
  obtain ⟨cur, hg, _⟩ := h
  simp [World.frozen?, hg]
theorem RowL.of_heap {w w' : World} {g : Nat} {T : TypeId} {cap : Nat} {d : List α} (h : RowL w g T cap k enc d) (hb : w'.heap[g]? = w.heap[g]?) : RowL w' g T cap k enc d := by
  obtain ⟨cur, hg, r⟩ := h
  exact ⟨cur, hb.trans hg, r⟩
theorem RowL.set {w : World} {g : Nat} {T : TypeId} {cap : Nat} {d : List α} (h : RowL w g T cap k enc d) (hk : ∀ x, (enc x).length = k) {j : Nat} (hj : j < d.length) (y : α) : RowL (w.setCells g (j * k) (enc y)) g T cap k enc (d.set j y) := by
  obtain ⟨cur, hg, hs, hd, hc⟩ := h
  obtain ⟨cur', q1, q2, q3⟩ := setCells_row g T (enc y) (j * k) w cur hg
  refine ⟨cur', q1, q2.trans hs, by simpa using hd, fun i x hx t u hu => ?_⟩
  have ht : t < k := by rw [← hk x]; exact (List.getElem?_eq_some_iff.1 hu).1
  have hjk : j * k + k ≤ cap * k := by have := Nat.mul_le_mul_right k (show j + 1 ≤ cap by omega); rwa [Nat.add_mul, Nat.one_mul] at this
  rw [q3, hk y]
  rw [List.getElem?_set] at hx
  by_cases hij : j = i
  · subst hij
    rw [if_pos rfl, if_pos hj] at hx
    cases hx
    rw [if_pos (by omega), show j * k + t - j * k = t by omega]
    exact hu
  · rw [if_neg hij] at hx
    rw [if_neg]
    · exact hc i x hx t u hu
    · rintro ⟨h1, h2, _⟩
      rcases Nat.lt_or_ge i j with h3 | h3
      · have := Nat.mul_le_mul_right k (show i + 1 ≤ j from h3); rw [Nat.add_mul, Nat.one_mul] at this; omega
      · have := Nat.mul_le_mul_right k (show j + 1 ≤ i by omega); rw [Nat.add_mul, Nat.one_mul] at this; omega
/-- The first m stay when cells from m on are written. -/
theorem RowL.tail {w : World} {g : Nat} {T : TypeId} {cap : Nat} {d : List α} (h : RowL w g T cap k enc d) (hk : ∀ x, (enc x).length = k) (m : Nat) (vs : List Value) : RowL (w.setCells g (m * k) vs) g T cap k enc (d.take m) := by
  obtain ⟨cur, hg, hs, hd, hc⟩ := h
  obtain ⟨cur', q1, q2, q3⟩ := setCells_row g T vs (m * k) w cur hg
  refine ⟨cur', q1, q2.trans hs, by rw [List.length_take]; omega, fun i x hx t u hu => ?_⟩
  have ht : t < k := by rw [← hk x]; exact (List.getElem?_eq_some_iff.1 hu).1
  rw [List.getElem?_take] at hx
  split at hx
  · rename_i him
    have := Nat.mul_le_mul_right k (show i + 1 ≤ m from him); rw [Nat.add_mul, Nat.one_mul] at this
    rw [q3, if_neg (by omega)]
    exact hc i x hx t u hu
  · cases hx
theorem RowL.app {w : World} {g : Nat} {T : TypeId} {cap : Nat} {d : List α} {cur : Array Value} (hk : ∀ x, (enc x).length = k) (hg : w.heap[g]? = some (.cells cur T (0, 0))) (hs : cur.size = cap * k)
    (hc : ∀ j x, d[j]? = some x → ∀ i u, (enc x)[i]? = some u → cur[j * k + i]? = some u) (i : Nat) (hi : i ≤ d.length) (e : List α) (he : i + e.length ≤ cap) :
    RowL (w.setRow g (cur.toList.take (i * k) ++ e.flatMap enc ++ cur.toList.drop (i * k + (e.flatMap enc).length)).toArray) g T cap k enc (d.take i ++ e) := by
  have hfl := flat_len hk e
  have hle : i * k + e.length * k ≤ cap * k := by rw [← Nat.add_mul]; exact Nat.mul_le_mul_right _ he
  have htl : (cur.toList.take (i * k)).length = i * k := by rw [List.length_take]; simp; omega
  have hil : (d.take i).length = i := by rw [List.length_take]; omega
  refine ⟨_, setRow_heap w g cur _ T _ hg, ?_, by rw [List.length_append, hil]; exact he, fun j x hx t u hu => ?_⟩
  · simp only [List.size_toArray, List.length_append, htl, hfl, List.length_drop, Array.length_toList]; omega
  · have ht : t < k := by rw [← hk x]; exact (List.getElem?_eq_some_iff.1 hu).1
    simp only [List.getElem?_toArray]
    by_cases hji : j < i
    · have h1 : j * k + t < i * k := by have := Nat.mul_le_mul_right k (show j + 1 ≤ i from hji); rw [Nat.add_mul, Nat.one_mul] at this; omega
      rw [List.append_assoc, List.getElem?_append_left (by rw [htl]; exact h1), List.getElem?_take, if_pos h1]
      rw [List.getElem?_append_left (by rw [hil]; exact hji), List.getElem?_take, if_pos hji] at hx
      simpa using hc j x hx t u hu
    · rw [List.getElem?_append_right (by rw [hil]; omega), hil] at hx
      have hje : j - i < e.length := (List.getElem?_eq_some_iff.1 hx).1
      obtain ⟨m, rfl⟩ : ∃ m, j = i + m := ⟨j - i, by omega⟩
      rw [show i + m - i = m by omega] at hx hje
      have h2 : (i + m) * k + t = i * k + (m * k + t) := by rw [Nat.add_mul]; omega
      have h3 : m * k + t < e.length * k := by have := Nat.mul_le_mul_right k (show m + 1 ≤ e.length from hje); rw [Nat.add_mul, Nat.one_mul] at this; omega
      rw [h2, List.append_assoc, List.getElem?_append_right (by rw [htl]; omega), htl, show i * k + (m * k + t) - i * k = m * k + t by omega, List.getElem?_append_left (by rw [hfl]; exact h3), flat_get hk e m t x hx ht]
      exact hu
end
section
variable {P : Program} (w : World) {ops : Array Oper} {rest : List Oper} {o : Oper} {a : Act} {Q : Exit → Act → World → Prop}
/-- 'append' within the row's own room, whatever lies where. -/
theorem wpList_append_in (hgd : o.guard = none) (s x : Operand) (t : TypeId) (ho : o.op = .call { callee := .builtin .append, args := #[s, x], argTypes := #[t, t] }) (e : TypeId) (i : TypeInfo) (ht : P.underlying t = some (.slice e)) (hi : P.info? e = some i)
    (g sLen sCap : Nat) (cur : Array Value) (hg : w.heap[g]? = some (.cells cur e (0, 0))) (ad : Addr) (m c : Nat) (news : List Value) (hl : news.length = m * i.size) (hnews : ∀ j u, news[j]? = some u → w.cell? (ad.add j) = some u) (h1 : ∀ u ∈ news, u.oneCell' = true)
    (hroom : sLen + m ≤ sCap) (hfit : sLen * i.size + news.length ≤ cur.size) (hs : a.eval s = .slice (some ⟨g, 0, none⟩) sLen sCap) (hx : a.eval x = .slice (some ad) m c)
    (hK : wpList P ops Q rest (a.put o.dst (.slice (some ⟨g, 0, none⟩) (sLen + m) sCap)) (w.setRow g (cur.toList.take (sLen * i.size) ++ news ++ cur.toList.drop (sLen * i.size + news.length)).toArray)) : wpList P ops Q (o :: rest) a w := by
  refine wpList_plain hgd fun K' hK' => ?_
  have hr := run_append_room (P := P) w t o.type e i ht hi g sLen sCap cur hg ad m c news hl hnews h1 hroom hfit
  unfold Oper.wp execOp
  simp only [ho, resolve, invoke, builtin, Sem.run_bind, Sem.run_pure, Result.andThen_ok, List.map_toArray, List.map_cons, List.map_nil, hs, hx, hr]
  exact hK' _ _ hK
end
theorem run_clear_k {P : Program} (w : World) (t e ty : TypeId) (z : Value) (ht : P.underlying t = some (.slice e)) (hv : ∀ w, (zeroValue e).run P w = .ok z w) (b o n c : Nat) (hn : 0 < n) (h1 : ∀ v ∈ z.cells, v.oneCell' = true)
    (hc : ∀ j, j < n * z.cells.size → (w.cell? ⟨b, o + j, none⟩).isSome = true) (hf : ∀ j, j < n * z.cells.size → w.frozen? ⟨b, o + j, none⟩ = false) :
    (Builtin.clear_ #[t] ty #[.slice (some ⟨b, o, none⟩) n c]).run P w = .ok (.tuple #[]) (w.setCells b o (Builtin.zeroCells z.cells n).toList) := by
  have hst := run_storeCells_cells (P := P) b o (Builtin.zeroCells z.cells n).toList 0 w (by simpa [Builtin.zeroCells] using hc) (by simpa [Builtin.zeroCells] using hf) (by
    intro v hv'
    simp only [Builtin.zeroCells, Array.toList_map, List.mem_map, Array.toList_range, List.mem_range] at hv'
    obtain ⟨i, hi, rfl⟩ := hv'
    have hp : 0 < z.cells.size := by rcases Nat.eq_zero_or_pos z.cells.size with h | h; · rw [h] at hi; simp at hi
                                     · exact h
    rw [getElem!_pos z.cells _ (Nat.mod_lt _ hp)]
    exact h1 _ (Array.getElem_mem _))
  simp only [Nat.add_zero] at hst
  obtain ⟨m, rfl⟩ : ∃ m, n = m + 1 := ⟨n - 1, by omega⟩
  simp [Builtin.clear_, run_underlying ht, hv, hst]
end Go.Proofs.Ytagfgkcipomopaa
