import Derived.Test.YtagfgkcipomopaaA1
import Derived.Lib.SlicesCompact
import Derived.Lib.SliceRun
import Derived.Laws.IdiomCopy
import Derived.Deep.RegionWith
namespace Go.Proofs.Ytagfgkcipomopaa
open Go.RowKit Go.Sort Go.MapKept

/-! ### a row of structs that is written in place -/
theorem setCells_row (g : Nat) (T : TypeId) : ∀ (vs : List Value) (o : Nat) (w : World) (cur : Array Value), w.heap[g]? = some (.cells cur T (0, 0)) →
    ∃ cur', (w.setCells g o vs).heap[g]? = some (.cells cur' T (0, 0)) ∧ cur'.size = cur.size ∧ ∀ t, cur'[t]? = if o ≤ t ∧ t < o + vs.length ∧ t < cur.size then vs[t - o]? else cur[t]?
  | [], o, w, cur, h => ⟨cur, h, rfl, fun t => by rw [if_neg (by simp; omega)]⟩
  | v :: r, o, w, cur, h => by
    have h1 : (w.setCell ⟨g, o, none⟩ v).heap[g]? = some (.cells (cur.setIfInBounds o v) T (0, 0)) := by
      simp [World.setCell, Array.getElem?_modify, h]
    obtain ⟨cur', q1, q2, q3⟩ := setCells_row g T r (o + 1) _ _ h1
    refine ⟨cur', q1, by rw [q2]; simp, fun t => ?_⟩
    rw [q3 t]
    simp only [List.length_cons, Array.size_setIfInBounds]
    by_cases ht : t = o
    · subst ht
      rw [if_neg (by omega)]
      by_cases hc : t < cur.size
      · rw [if_pos (by omega), Nat.sub_self]; simp [hc]
      · rw [if_neg (by omega)]; simp [hc]
    · by_cases hb : o + 1 ≤ t ∧ t < o + 1 + r.length ∧ t < cur.size
      · rw [if_pos hb, if_pos (by omega)]
        obtain ⟨s, rfl⟩ : ∃ s, t = o + 1 + s := ⟨t - (o + 1), by omega⟩
        rw [show o + 1 + s - (o + 1) = s by omega, show o + 1 + s - o = s + 1 by omega]
        simp
      · rw [if_neg hb, if_neg (by omega), Array.getElem?_setIfInBounds_ne (by omega)]
theorem setCells_grown (g : Nat) : ∀ (vs : List Value) (o : Nat) (w : World), w.grownBy (w.setCells g o vs) (some g)
  | [], _, w => ⟨rfl, rfl, rfl, Nat.le_refl _, fun _ _ _ => rfl⟩
  | v :: r, o, w => by
    have h1 : w.grownBy (w.setCell ⟨g, o, none⟩ v) (some g) := ⟨rfl, rfl, rfl, by simp, fun k _ hk => Below.heap_setCell _ _ _ _ (fun e => hk (by rw [e]))⟩
    have h2 := setCells_grown g r (o + 1) (w.setCell ⟨g, o, none⟩ v)
    exact ⟨h2.os.trans h1.os, h2.tape.trans h1.tape, h2.output.trans h1.output, Nat.le_trans h1.size h2.size, fun k hk hne => (h2.block k (by simpa using hk) hne).trans (h1.block k hk hne)⟩
section
variable {α : Type} {enc : α → List Value} {k : Nat}
/-- Block g is a row with room for cap elements; the first ones are these. -/
def RowL (w : World) (g : Nat) (T : TypeId) (cap k : Nat) (enc : α → List Value) (d : List α) : Prop :=
  ∃ cur : Array Value, w.heap[g]? = some (.cells cur T (0, 0)) ∧ cur.size = cap * k ∧ d.length ≤ cap ∧ ∀ j x, d[j]? = some x → ∀ i u, (enc x)[i]? = some u → cur[j * k + i]? = some u
theorem RowL.of_own {w : World} {base : Nat} {T : TypeId} {v : Value} {l : List α} (h : OwnL w base T k enc v l) (hk : ∀ x, (enc x).length = k) (hl : l ≠ []) : ∃ g cap, v = .slice (some ⟨g, 0, none⟩) l.length cap ∧ base ≤ g ∧ cap ≤ maxLen ∧ RowL w g T cap k enc l := by
  rcases h.2 with ⟨rfl, h0⟩ | ⟨g, cap, cur, rfl, hb, hg, hn, hc, hs, ht⟩
  · exact absurd (List.length_eq_zero_iff.1 h0) hl
  · refine ⟨g, cap, rfl, hb, hc, cur, hg, hs, hn, fun j x hx i u hu => ?_⟩
    have hi : i < k := by rw [← hk x]; exact (List.getElem?_eq_some_iff.1 hu).1
    have hf := flat_get hk l j i x hx hi
    rw [hu, ← ht, List.getElem?_take] at hf
    split at hf
    · simpa using hf
    · cases hf
theorem RowL.own {w : World} {g : Nat} {T : TypeId} {cap : Nat} {d : List α} (h : RowL w g T cap k enc d) (hk : ∀ x, (enc x).length = k) (hc : cap ≤ maxLen) {base : Nat} (hb : base ≤ g) (m : Nat) (hm : m ≤ d.length) :
    OwnL w base T k enc (.slice (some ⟨g, 0, none⟩) m cap) (d.take m) := by
  obtain ⟨cur, hg, hs, hd, hc2⟩ := h
  have hml : (d.take m).length = m := by rw [List.length_take]; omega
  refine ⟨by rw [flat_len hk], Or.inr ⟨g, cap, cur, by rw [hml], hb, hg, by omega, hc, hs, ?_⟩⟩
  rw [hml]
  apply List.ext_getElem?
  intro t
  rw [List.getElem?_take]
  by_cases ht : t < m * k
  · have k0 : 0 < k := by rcases Nat.eq_zero_or_pos k with h | h; · subst h; simp at ht
                          · exact h
    have hj : t / k < m := by rw [Nat.div_lt_iff_lt_mul k0]; exact ht
    have hi : t % k < k := Nat.mod_lt _ k0
    obtain ⟨x, hx⟩ : ∃ x, d[t / k]? = some x := ⟨d[t / k]'(by omega), by simp⟩
    have hf := flat_get hk (d.take m) (t / k) (t % k) x (by rw [List.getElem?_take, if_pos hj]; exact hx) hi
    rw [Nat.div_add_mod' t k] at hf
    have hl2 : t % k < (enc x).length := by rw [hk]; exact hi
    have := hc2 (t / k) x hx (t % k) _ (List.getElem?_eq_getElem hl2)
    rw [Nat.div_add_mod' t k] at this
    rw [if_pos ht, hf, List.getElem?_eq_getElem hl2]
    simpa using this
  · rw [if_neg ht, List.getElem?_eq_none (by rw [flat_len hk, hml]; omega)]
theorem RowL.cell {w : World} {g : Nat} {T : TypeId} {cap : Nat} {d : List α} (h : RowL w g T cap k enc d) {j : Nat} {x : α} (hx : d[j]? = some x) : ∀ i u, (enc x)[i]? = some u → w.cell? ⟨g, j * k + i, none⟩ = some u := by
  obtain ⟨cur, hg, hs, hd, hc⟩ := h
  intro i u hu
  rw [cell_of_row w g _ cur T (0, 0) hg]
  exact hc j x hx i u hu
theorem RowL.has {w : World} {g : Nat} {T : TypeId} {cap : Nat} {d : List α} (h : RowL w g T cap k enc d) {o : Nat} (ho : o < cap * k) : (w.cell? ⟨g, o, none⟩).isSome = true := by
  obtain ⟨cur, hg, hs, _⟩ := h
  rw [cell_of_row w g _ cur T (0, 0) hg, Array.getElem?_eq_getElem (by rw [hs]; exact ho)]; rfl
theorem RowL.froz {w : World} {g : Nat} {T : TypeId} {cap : Nat} {d : List α} (h : RowL w g T cap k enc d) (o : Nat) : w.frozen? ⟨g, o, none⟩ = false := by
  obtain ⟨cur, hg, _⟩ := h
  simp [World.frozen?, hg]
theorem RowL.of_heap {w w' : World} {g : Nat} {T : TypeId} {cap : Nat} {d : List α} (h : RowL w g T cap k enc d) (hb : w'.heap[g]? = w.heap[g]?) : RowL w' g T cap k enc d := by
  obtain ⟨cur, hg, r⟩ := h
  exact ⟨cur, hb.trans hg, r⟩
theorem RowL.set {w : World} {g : Nat} {T : TypeId} {cap : Nat} {d : List α} (h : RowL w g T cap k enc d) (hk : ∀ x, (enc x).length = k) {j : Nat} (hj : j < d.length) (y : α) : RowL (w.setCells g (j * k) (enc y)) g T cap k enc (d.set j y) := by
  obtain ⟨cur, hg, hs, hd, hc⟩ := h
  obtain ⟨cur', q1, q2, q3⟩ := setCells_row g T (enc y) (j * k) w cur hg
  refine ⟨cur', q1, q2.trans hs, by simpa using hd, fun i x hx t u hu => ?_⟩
  have ht : t < k := by rw [← hk x]; exact (List.getElem?_eq_some_iff.1 hu).1
  have hjk : j * k + k ≤ cap * k := by have := Nat.mul_le_mul_right k (show j + 1 ≤ cap by omega); rwa [Nat.add_mul, Nat.one_mul] at this
  rw [q3, hk y]
  rw [List.getElem?_set] at hx
  by_cases hij : j = i
  · subst hij
    rw [if_pos rfl, if_pos hj] at hx
    cases hx
    rw [if_pos (by omega), show j * k + t - j * k = t by omega]
    exact hu
  · rw [if_neg hij] at hx
    rw [if_neg]
    · exact hc i x hx t u hu
    · rintro ⟨h1, h2, _⟩
      rcases Nat.lt_or_ge i j with h3 | h3
      · have := Nat.mul_le_mul_right k (show i + 1 ≤ j from h3); rw [Nat.add_mul, Nat.one_mul] at this; omega
      · have := Nat.mul_le_mul_right k (show j + 1 ≤ i by omega); rw [Nat.add_mul, Nat.one_mul] at this; omega
/-- The first m stay when cells from m on are written. -/
theorem RowL.tail {w : World} {g : Nat} {T : TypeId} {cap : Nat} {d : List α} (h : RowL w g T cap k enc d) (hk : ∀ x, (enc x).length = k) (m : Nat) (vs : List Value) : RowL (w.setCells g (m * k) vs) g T cap k enc (d.take m) := by
  obtain ⟨cur, hg, hs, hd, hc⟩ := h
  obtain ⟨cur', q1, q2, q3⟩ := setCells_row g T vs (m * k) w cur hg
  refine ⟨cur', q1, q2.trans hs, by rw [List.length_take]; omega, fun i x hx t u hu => ?_⟩
  have ht : t < k := by rw [← hk x]; exact (List.getElem?_eq_some_iff.1 hu).1
  rw [List.getElem?_take] at hx
  split at hx
  · rename_i him
    have := Nat.mul_le_mul_right k (show i + 1 ≤ m from him); rw [Nat.add_mul, Nat.one_mul] at this
    rw [q3, if_neg (by omega)]
    exact hc i x hx t u hu
  · cases hx
theorem RowL.app {w : World} {g : Nat} {T : TypeId} {cap : Nat} {d : List α} {cur : Array Value} (hk : ∀ x, (enc x).length = k) (hg : w.heap[g]? = some (.cells cur T (0, 0))) (hs : cur.size = cap * k)
    (hc : ∀ j x, d[j]? = some x → ∀ i u, (enc x)[i]? = some u → cur[j * k + i]? = some u) (i : Nat) (hi : i ≤ d.length) (e : List α) (he : i + e.length ≤ cap) :
    RowL (w.setRow g (cur.toList.take (i * k) ++ e.flatMap enc ++ cur.toList.drop (i * k + (e.flatMap enc).length)).toArray) g T cap k enc (d.take i ++ e) := by
  have hfl := flat_len hk e
  have hle : i * k + e.length * k ≤ cap * k := by rw [← Nat.add_mul]; exact Nat.mul_le_mul_right _ he
  have htl : (cur.toList.take (i * k)).length = i * k := by rw [List.length_take]; simp; omega
  have hil : (d.take i).length = i := by rw [List.length_take]; omega
  refine ⟨_, setRow_heap w g cur _ T _ hg, ?_, by rw [List.length_append, hil]; exact he, fun j x hx t u hu => ?_⟩
  · simp only [List.size_toArray, List.length_append, htl, hfl, List.length_drop, Array.length_toList]; omega
  · have ht : t < k := by rw [← hk x]; exact (List.getElem?_eq_some_iff.1 hu).1
    simp only [List.getElem?_toArray]
    by_cases hji : j < i
    · have h1 : j * k + t < i * k := by have := Nat.mul_le_mul_right k (show j + 1 ≤ i from hji); rw [Nat.add_mul, Nat.one_mul] at this; omega
      rw [List.append_assoc, List.getElem?_append_left (by rw [htl]; exact h1), List.getElem?_take, if_pos h1]
      rw [List.getElem?_append_left (by rw [hil]; exact hji), List.getElem?_take, if_pos hji] at hx
      simpa using hc j x hx t u hu
    · rw [List.getElem?_append_right (by rw [hil]; omega), hil] at hx
      have hje : j - i < e.length := (List.getElem?_eq_some_iff.1 hx).1
      obtain ⟨m, rfl⟩ : ∃ m, j = i + m := ⟨j - i, by omega⟩
      rw [show i + m - i = m by omega] at hx hje
      have h2 : (i + m) * k + t = i * k + (m * k + t) := by rw [Nat.add_mul]; omega
      have h3 : m * k + t < e.length * k := by have := Nat.mul_le_mul_right k (show m + 1 ≤ e.length from hje); rw [Nat.add_mul, Nat.one_mul] at this; omega
      rw [h2, List.append_assoc, List.getElem?_append_right (by rw [htl]; omega), htl, show i * k + (m * k + t) - i * k = m * k + t by omega, List.getElem?_append_left (by rw [hfl]; exact h3), flat_get hk e m t x hx ht]
      exact hu
end
section
variable {P : Program} (w : World) {ops : Array Oper} {rest : List Oper} {o : Oper} {a : Act} {Q : Exit → Act → World → Prop}
/-- 'append' within the row's own room, whatever lies where. -/
theorem wpList_append_in (hgd : o.guard = none) (s x : Operand) (t : TypeId) (ho : o.op = .call { callee := .builtin .append, args := #[s, x], argTypes := #[t, t] }) (e : TypeId) (i : TypeInfo) (ht : P.underlying t = some (.slice e)) (hi : P.info? e = some i)
    (g sLen sCap : Nat) (cur : Array Value) (hg : w.heap[g]? = some (.cells cur e (0, 0))) (ad : Addr) (m c : Nat) (news : List Value) (hl : news.length = m * i.size) (hnews : ∀ j u, news[j]? = some u → w.cell? (ad.add j) = some u) (h1 : ∀ u ∈ news, u.oneCell' = true)
    (hroom : sLen + m ≤ sCap) (hfit : sLen * i.size + news.length ≤ cur.size) (hs : a.eval s = .slice (some ⟨g, 0, none⟩) sLen sCap) (hx : a.eval x = .slice (some ad) m c)
    (hK : wpList P ops Q rest (a.put o.dst (.slice (some ⟨g, 0, none⟩) (sLen + m) sCap)) (w.setRow g (cur.toList.take (sLen * i.size) ++ news ++ cur.toList.drop (sLen * i.size + news.length)).toArray)) : wpList P ops Q (o :: rest) a w := by
  refine wpList_plain hgd fun K' hK' => ?_
  have hr := run_append_room (P := P) w t o.type e i ht hi g sLen sCap cur hg ad m c news hl hnews h1 hroom hfit
  unfold Oper.wp execOp
  simp only [ho, resolve, invoke, builtin, Sem.run_bind, Sem.run_pure, Result.andThen_ok, List.map_toArray, List.map_cons, List.map_nil, hs, hx, hr]
  exact hK' _ _ hK
end
theorem run_clear_k {P : Program} (w : World) (t e ty : TypeId) (z : Value) (ht : P.underlying t = some (.slice e)) (hv : ∀ w, (zeroValue e).run P w = .ok z w) (b o n c : Nat) (hn : 0 < n) (h1 : ∀ v ∈ z.cells, v.oneCell' = true)
    (hc : ∀ j, j < n * z.cells.size → (w.cell? ⟨b, o + j, none⟩).isSome = true) (hf : ∀ j, j < n * z.cells.size → w.frozen? ⟨b, o + j, none⟩ = false) :
    (Builtin.clear_ #[t] ty #[.slice (some ⟨b, o, none⟩) n c]).run P w = .ok (.tuple #[]) (w.setCells b o (Builtin.zeroCells z.cells n).toList) := by
  have hst := run_storeCells_cells (P := P) b o (Builtin.zeroCells z.cells n).toList 0 w (by simpa [Builtin.zeroCells] using hc) (by simpa [Builtin.zeroCells] using hf) (by
    intro v hv'
    simp only [Builtin.zeroCells, Array.toList_map, List.mem_map, Array.toList_range, List.mem_range] at hv'
    obtain ⟨i, hi, rfl⟩ := hv'
    have hp : 0 < z.cells.size := by rcases Nat.eq_zero_or_pos z.cells.size with h | h; · rw [h] at hi; simp at hi
                                     · exact h
    rw [getElem!_pos z.cells _ (Nat.mod_lt _ hp)]
    exact h1 _ (Array.getElem_mem _))
  simp only [Nat.add_zero] at hst
  obtain ⟨m, rfl⟩ : ∃ m, n = m + 1 := ⟨n - 1, by omega⟩
  simp [Builtin.clear_, run_underlying ht, hv, hst]
end Go.Proofs.Ytagfgkcipomopaa
namespace Go.Proofs.Ytagfgkcipomopaa
open Go.RowKit Go.Sort Go.Lib

theorem eql34 (w : World) (a b c d : Int) : (binOp .eql 34 (.agg #[.int .i64 a, .int .i64 b]) (.agg #[.int .i64 c, .int .i64 d])).run Try.prog w = .ok (.bool (decide ((a, b) = (c, d)))) w := by
  have := eqAd w (a, b) (c, d)
  simp only [adV] at this
  simp only [binOp]
  simp [this]
theorem neq34 (w : World) (a b c d : Int) : (binOp .neq 34 (.agg #[.int .i64 a, .int .i64 b]) (.agg #[.int .i64 c, .int .i64 d])).run Try.prog w = .ok (.bool (!decide ((a, b) = (c, d)))) w := by
  have := eqAd w (a, b) (c, d)
  simp only [adV] at this
  simp only [binOp]
  simp [this]
/-- Neighbours that are one are told once. -/
def compL {α : Type} [Inhabited α] [DecidableEq α] (l : List α) : List α := compactUpTo l.toArray l.length
instance : Inhabited Ad := ⟨(0, 0)⟩
instance : Inhabited Ar := ⟨((0, 0), (0, 0))⟩
def CompR (w : World) (B : Nat) (T : TypeId) (k : Nat) {α : Type} (enc : α → List Value) (v : Value) (l : List α) (e : Ending) (w' : World) : Prop :=
  ∃ v', e = .returned v' ∧ OwnL w' B T k enc v' l ∧ w.grownBy w' v.ownBlock ∧ (v'.ownBlock = v.ownBlock)
theorem compL_short {α : Type} [Inhabited α] [DecidableEq α] {l : List α} (h : l.length < 2) : compL l = l := by
  unfold compL
  rw [compactUpTo_all _ _ (fun j hj => keeps_lt_one _ j (by omega))]
  have := range_map_get l.toArray
  simpa using this
theorem compAd_short {B : Nat} {v : Value} {l : List Ad} {w : World} (h : OwnL w B 34 2 adC v l) (hl : l.length < 2) :
    Calls Try.prog 39 #[v] w (CompR w B 34 2 adC v (compL l)) := by
  obtain ⟨a, cap, rfl, _⟩ := h.sl adC_len
  have H := Lib.hid h
  clear h
  go_enter Try.func39, Try.ntmps39
  go_wp2
  go_ret
  exact ⟨_, rfl, by rw [compL_short hl]; exact H.out, ⟨rfl, rfl, rfl, Nat.le_refl _, fun _ _ _ => rfl⟩, rfl⟩

theorem at_get {α : Type} [Inhabited α] {l : List α} {j : Nat} {x : α} (h : l[j]? = some x) : l.toArray[j]! = x := by
  have hj := (List.getElem?_eq_some_iff.1 h).1
  rw [getElem!_pos _ _ (by simpa using hj)]
  simpa using (List.getElem?_eq_some_iff.1 h).2
theorem get_at {α : Type} [Inhabited α] {d : Array α} {j : Nat} (hj : j < d.size) : d.toList[j]? = some d[j]! := by
  rw [getElem!_pos d j hj]; simp [hj]
theorem gr_drewN {w w' : World} {r : Option Nat} (h : w.grownBy w' r) (n : Nat) : w.grownBy (w'.drewN n) r := ⟨h.os, h.tape, h.output, h.size, h.block⟩
theorem gr_then {a b c : World} {r : Option Nat} (h : a.grownBy b r) (k : b.grownBy c r) : a.grownBy c r := h.trans k
set_option maxHeartbeats 2000000 in
set_option maxRecDepth 100000 in
theorem compAd_long (B g cap : Nat) (l : List Ad) (w : World) (hR : RowL w g 34 cap 2 adC l) (hB : B ≤ g) (hcap : cap ≤ maxLen) (h2 : 2 ≤ l.length) :
    Calls Try.prog 39 #[.slice (some ⟨g, 0, none⟩) l.length cap] w (CompR w B 34 2 adC (.slice (some ⟨g, 0, none⟩) l.length cap) (compL l)) := by
  have hlc : l.length ≤ cap := by obtain ⟨_, _, _, h, _⟩ := hR; exact h
  have hcap' : cap ≤ 9223372036854775807 := by unfold maxLen at hcap; omega
  have HR := Lib.hid hR
  clear hR
  go_enter Try.func39, Try.ntmps39
  go_wp2
  go_loopg [3] l.length (fun gk s3 wr => ∃ k q : Nat, 1 ≤ k ∧ k ≤ l.length ∧ l.length - k ≤ gk ∧ s3 = .int .i64 k ∧ wr = w.drewN q ∧ ∀ j, j < k → keeps l.toArray j = true)
  case atStart => exact ⟨1, 0, Nat.le_refl _, by omega, by omega, rfl, rfl, keeps_lt_one _⟩
  case round =>
    obtain ⟨k, q, hk1, hk, hg, rfl, rfl, hall⟩ := hrel
    by_cases hlt : k < l.length
    · obtain ⟨x, hx⟩ : ∃ x, l[k]? = some x := ⟨l[k], by simp⟩
      obtain ⟨y, hy⟩ : ∃ y, l[k - 1]? = some y := ⟨l[k - 1]'(by omega), by simp⟩
      obtain ⟨c0, c1⟩ := ad_cells (HR.out.cell hx)
      obtain ⟨d0, d1⟩ := ad_cells (HR.out.cell hy)
      have e1 : IntKind.i64.wrap ((k : Int) - 1) = (k : Int) - 1 := IntWalk.i64_in _ (by omega)
      have e2 : ((k : Int) - 1).toNat = k - 1 := by omega
      have e3 : (0 : Int) ≤ (k : Int) - 1 := by omega
      have e4 : (k : Int) - 1 < (l.length : Int) := by omega
      have e5 : (1 : Int) ≤ (k : Int) := by omega
      have HK := Lib.hid hall
      have HX := Lib.hid hx
      have HY := Lib.hid hy
      clear hall hx hy
      by_cases hdup : x = y
      · have heq : ∀ W, (binOp .eql 34 (.agg #[.int .i64 x.1, .int .i64 x.2]) (.agg #[.int .i64 y.1, .int .i64 y.2])).run Try.prog W = .ok (.bool true) W := fun W => by rw [eql34]; simp [hdup]
        have HD := Lib.hid hdup
        clear hdup
        go_wp2_with fail
        go_quiet (fail)
        clear e1 e2 e3 e4 e5 heq c0 c1 d0 d1
        go_wp2_with fail
        go_loopg [3, 5] l.length (fun gk s3 s5 wr => ∃ (kk k2 : Nat) (dk : Array Ad), s3 = .int .i64 kk ∧ s5 = .int .i64 k2 ∧ 1 ≤ k2 ∧ k + k2 ≤ l.length ∧ l.length - (k + k2) ≤ gk ∧ RowL wr g 34 cap 2 adC dk.toList ∧ w.grownBy wr (some g) ∧ Hid (CompInv l.toArray (k + k2) kk dk))
        case atStart => exact ⟨k, 1, l.toArray, rfl, rfl, Nat.le_refl _, by omega, by omega, (by simpa using HR.out.of_heap (w' := w.drewN (q + nq)) rfl), ⟨rfl, rfl, rfl, Nat.le_refl _, fun _ _ _ => rfl⟩, CompInv.start HK.out (keeps_neg (by omega) (by rw [at_get HX.out, at_get HY.out, HD.out]))⟩
        case round =>
          obtain ⟨kk, k2, dk, rfl, rfl, h1, hle, hg2, hR2, hgr, HI⟩ := hrel
          have hkk := HI.out.lt
          have hds : dk.size = l.length := by have := HI.out.size; simpa using this
          have HR2 := Lib.hid hR2
          have HG := Lib.hid hgr
          clear hR2 hgr
          by_cases hlt2 : k + k2 < l.length
          · obtain ⟨u, hu⟩ : ∃ u, l[k + k2]? = some u := ⟨l[k + k2], by simp⟩
            obtain ⟨v, hv⟩ : ∃ v, l[k + k2 - 1]? = some v := ⟨l[k + k2 - 1]'(by omega), by simp⟩
            have hu' : dk.toList[k + k2]? = some u := by rw [get_at (by omega), HI.out.high _ (by omega), at_get hu]
            have hv' : dk.toList[k + k2 - 1]? = some v := by rw [get_at (by omega), HI.out.high _ (by omega), at_get hv]
            have hk' : dk.toList[kk]? = some dk[kk]! := get_at (by omega)
            obtain ⟨c0, c1⟩ := ad_cells (HR2.out.cell hu')
            obtain ⟨d0, d1⟩ := ad_cells (HR2.out.cell hv')
            obtain ⟨b0, b1⟩ := ad_cells (HR2.out.cell hk')
            have f0 := HR2.out.froz (kk * 2)
            have f1 := HR2.out.froz (kk * 2 + 1)
            rw [show (k + k2) * 2 = k * 2 + k2 * 2 by omega] at c0 c1
            rw [show (k + k2 - 1) * 2 = k * 2 + (k2 - 1) * 2 by omega] at d0 d1
            have e1 : IntKind.i64.wrap ((k2 : Int) - 1) = (k2 : Int) - 1 := IntWalk.i64_in _ (by omega)
            have e2 : ((k2 : Int) - 1).toNat = k2 - 1 := by omega
            have e3 : (0 : Int) ≤ (k2 : Int) - 1 := by omega
            have e4 : (k2 : Int) - 1 < ((l.length - k : Nat) : Int) := by omega
            have e5 : (1 : Int) ≤ (k2 : Int) := by omega
            have e6 : (k2 : Int) < ((l.length - k : Nat) : Int) := by omega
            have e7 : k2 < l.length - k := by omega
            have HU := Lib.hid hu
            have HV := Lib.hid hv
            clear hu hv hu' hv' hk'
            generalize dk[kk]! = old at b0 b1
            by_cases huv : u = v
            · have heq : ∀ W, (binOp .neq 34 (.agg #[.int .i64 u.1, .int .i64 u.2]) (.agg #[.int .i64 v.1, .int .i64 v.2])).run Try.prog W = .ok (.bool false) W := fun W => by rw [neq34]; simp [huv]
              have HD2 := Lib.hid huv
              clear huv
              go_wp2_with fail
              go_quiet (fail)
              clear e1 e2 e3 e4 e5 e6
              go_wp2_with fail
              go_roundg (l.length - (k + (k2 + 1)))
              case measure => omega
              case rel => exact ⟨kk, k2 + 1, dk, rfl, by go_num, by omega, by omega, Nat.le_refl _, HR2.out.of_heap rfl, gr_drewN HG.out _, HI.out.skip (keeps_neg (by omega) (by rw [at_get HU.out, at_get HV.out]; exact HD2.out))⟩
            · have heq : ∀ W, (binOp .neq 34 (.agg #[.int .i64 u.1, .int .i64 u.2]) (.agg #[.int .i64 v.1, .int .i64 v.2])).run Try.prog W = .ok (.bool true) W := fun W => by rw [neq34, decide_eq_false (show ¬ ((u.1, u.2) = (v.1, v.2)) from huv)]; rfl
              have HD2 := Lib.hid huv
              clear huv
              go_wp2_with fail
              go_quiet (fail)
              clear e1 e2 e3 e4 e5
              go_wp2_with fail
              go_roundg (l.length - (k + (k2 + 1)))
              case measure => omega
              case rel =>
                refine ⟨kk + 1, k2 + 1, dk.setIfInBounds kk u, by go_num, by go_num, by omega, by omega, Nat.le_refl _, ?_, ?_, ?_⟩
                · have := (HR2.out.set adC_len (show kk < dk.toList.length by simp; omega) u).of_heap (w' := ((wr.drewN nq).setCells g (kk * 2) (adC u))) rfl
                  rw [show (dk.setIfInBounds kk u).toList = dk.toList.set kk u by simp]; exact this
                · exact gr_then (gr_drewN HG.out nq) (setCells_grown g (adC u) (kk * 2) (wr.drewN nq))
                · have := HI.out.keep (by simpa using hlt2) (keeps_pos (by rw [at_get HU.out, at_get HV.out]; exact HD2.out))
                  rwa [at_get HU.out] at this
          · have hend : k + k2 = l.length := by omega
            have hcl : ∀ ty, (Builtin.clear_ #[23] ty #[.slice (some ⟨g, kk * 2, none⟩) (l.length - kk) (cap - kk)]).run Try.prog wr = .ok (.tuple #[]) (wr.setCells g (kk * 2) (Builtin.zeroCells (Value.agg #[.int .i64 0, .int .i64 0]).cells (l.length - kk)).toList) :=
              fun ty => run_clear_k wr 23 34 ty _ Try.underlying23 Try.zeroValue34 g (kk * 2) _ _ (by omega) (by intro v hv; simp [Value.cells] at hv; subst hv; rfl) (fun j hj => by
                have hj' : j < (l.length - kk) * 2 := by simpa [Value.cells] using hj
                have hc := HR2.out.cell (get_at (d := dk) (j := kk + j / 2) (by omega)) (j % 2)
                have h2 : ∃ u, (adC dk[kk + j / 2]!)[j % 2]? = some u := by rcases Nat.mod_two_eq_zero_or_one j with h | h <;> rw [h] <;> exact ⟨_, rfl⟩
                obtain ⟨u, hu⟩ := h2
                have := hc u hu
                rw [show (kk + j / 2) * 2 + j % 2 = kk * 2 + j by omega] at this
                rw [this]; rfl) (fun j _ => HR2.out.froz _)
            generalize (Builtin.zeroCells (Value.agg #[.int .i64 0, .int .i64 0]).cells (l.length - kk)).toList = zs at hcl
            go_wp2_with fail
            go_ret
            have hI := HI.out
            rw [hend] at hI
            have ec : compL l = (dk.toList.take kk).take kk := by
              unfold compL
              apply List.ext_getElem?
              intro j
              have hl1 := hI.len
              have hlow := hI.low j
              rw [List.getElem?_take, List.getElem?_take]
              by_cases hj : j < kk
              · rw [hlow hj, if_pos hj, if_pos hj, get_at (by omega)]
              · rw [if_neg hj, List.getElem?_eq_none (by rw [hl1]; omega)]
            refine ⟨_, rfl, ?_, gr_then HG.out (setCells_grown g zs (kk * 2) wr), rfl⟩
            rw [ec]
            exact (HR2.out.tail adC_len kk zs).own adC_len hcap hB kk (by rw [List.length_take]; simp; omega)
      · have heq : ∀ W, (binOp .eql 34 (.agg #[.int .i64 x.1, .int .i64 x.2]) (.agg #[.int .i64 y.1, .int .i64 y.2])).run Try.prog W = .ok (.bool false) W := fun W => by rw [eql34]; simp; exact fun h1 h2 => hdup (Prod.ext h1 h2)
        have HD := Lib.hid hdup
        clear hdup
        go_wp2_with fail
        go_quiet (fail)
        clear e1 e2 e3 e4 heq c0 c1 d0 d1
        go_wp2_with fail
        go_roundg (l.length - (k + 1))
        case measure => omega
        case rel =>
          refine ⟨k + 1, q + nq, by omega, by omega, Nat.le_refl _, by go_num, by simp, fun j hj => ?_⟩
          by_cases e : j = k
          · subst e
            exact keeps_pos (by rw [at_get HX.out, at_get HY.out]; exact HD.out)
          · exact HK.out j (by omega)
    · have hkl : k = l.length := by omega
      subst hkl
      have HK := Lib.hid hall
      clear hall
      go_wp2_with fail
      go_ret
      have e : compL l = l := by
        unfold compL
        rw [compactUpTo_all _ _ HK.out]
        have := range_map_get l.toArray
        simpa using this
      refine ⟨_, rfl, ?_, ⟨rfl, rfl, rfl, Nat.le_refl _, fun _ _ _ => rfl⟩, rfl⟩
      rw [e]
      have := (HR.out.of_heap (w' := w.drewN q) rfl).own adC_len hcap hB l.length (Nat.le_refl _)
      rwa [List.take_length] at this
end Go.Proofs.Ytagfgkcipomopaa
namespace Go.Proofs.Ytagfgkcipomopaa
open Go.RowKit Go.Sort Go.Lib

/-! ### the same of areas -/
theorem stood41 : Try.prog.stoodInHeld 41 = false := by kernel_rfl
theorem und41 : Try.prog.underlying 41 = some (.struct (Try.prog.fieldsOf 41)) := by kernel_rfl
theorem eqAr (w : World) (a b c d a' b' c' d' : Int) : (Op.equal 41 (.agg #[.int .i64 a, .int .i64 b, .int .i64 c, .int .i64 d]) (.agg #[.int .i64 a', .int .i64 b', .int .i64 c', .int .i64 d'])).run Try.prog w = .ok (decide (((a, b), (c, d)) = ((a', b'), (c', d')))) w := by
  have h := run_equalIn_struct (P := Try.prog) w 9999 41 #[.int .i64 a, .int .i64 b, .int .i64 c, .int .i64 d] #[.int .i64 a', .int .i64 b', .int .i64 c', .int .i64 d'] und41 stood41
  simp only [Op.equal, Op.maxDepth]
  rw [show (10000 : Nat) = 9999 + 1 from rfl, h]
  simp only [Program.fieldsOf, Try.underlying41]
  have h2 : ∀ (a b c d : Int) (w : World), (Op.equalIn 9999 34 (.agg #[.int .i64 a, .int .i64 b]) (.agg #[.int .i64 c, .int .i64 d])).run Try.prog w = .ok (decide ((a, b) = (c, d))) w := by
    intro a b c d w
    have h := run_equalIn_struct (P := Try.prog) w 9998 34 #[.int .i64 a, .int .i64 b] #[.int .i64 c, .int .i64 d] und34 stood34
    rw [show (9999 : Nat) = 9998 + 1 from rfl, h]
    simp only [Program.fieldsOf, Try.underlying34]
    go_simp
    by_cases h1 : a = c <;> by_cases h2 : b = d <;> simp [h1, h2]
  go_simp
  by_cases h1 : a = a' <;> by_cases h3 : b = b' <;> by_cases h4 : c = c' <;> by_cases h5 : d = d' <;> simp [h1, h3, h4, h5]
theorem eql41 (w : World) (a b c d a' b' c' d' : Int) : (binOp .eql 41 (.agg #[.int .i64 a, .int .i64 b, .int .i64 c, .int .i64 d]) (.agg #[.int .i64 a', .int .i64 b', .int .i64 c', .int .i64 d'])).run Try.prog w = .ok (.bool (decide (((a, b), (c, d)) = ((a', b'), (c', d'))))) w := by
  simp only [binOp]
  simp [eqAr]
theorem neq41 (w : World) (a b c d a' b' c' d' : Int) : (binOp .neq 41 (.agg #[.int .i64 a, .int .i64 b, .int .i64 c, .int .i64 d]) (.agg #[.int .i64 a', .int .i64 b', .int .i64 c', .int .i64 d'])).run Try.prog w = .ok (.bool (!decide (((a, b), (c, d)) = ((a', b'), (c', d'))))) w := by
  simp only [binOp]
  simp [eqAr]
theorem compAr_short {B : Nat} {v : Value} {l : List Ar} {w : World} (h : OwnL w B 41 4 arC v l) (hl : l.length < 2) :
    Calls Try.prog 47 #[v] w (CompR w B 41 4 arC v (compL l)) := by
  obtain ⟨a, cap, rfl, _⟩ := h.sl arC_len
  have H := Lib.hid h
  clear h
  go_enter Try.func47, Try.ntmps47
  go_wp2
  go_ret
  exact ⟨_, rfl, by rw [compL_short hl]; exact H.out, ⟨rfl, rfl, rfl, Nat.le_refl _, fun _ _ _ => rfl⟩, rfl⟩

set_option maxHeartbeats 2000000 in
set_option maxRecDepth 100000 in
theorem compAr_long (B g cap : Nat) (l : List Ar) (w : World) (hR : RowL w g 41 cap 4 arC l) (hB : B ≤ g) (hcap : cap ≤ maxLen) (h2 : 2 ≤ l.length) :
    Calls Try.prog 47 #[.slice (some ⟨g, 0, none⟩) l.length cap] w (CompR w B 41 4 arC (.slice (some ⟨g, 0, none⟩) l.length cap) (compL l)) := by
  have hlc : l.length ≤ cap := by obtain ⟨_, _, _, h, _⟩ := hR; exact h
  have hcap' : cap ≤ 9223372036854775807 := by unfold maxLen at hcap; omega
  have HR := Lib.hid hR
  clear hR
  go_enter Try.func47, Try.ntmps47
  go_wp2
  go_loopg [3] l.length (fun gk s3 wr => ∃ k q : Nat, 1 ≤ k ∧ k ≤ l.length ∧ l.length - k ≤ gk ∧ s3 = .int .i64 k ∧ wr = w.drewN q ∧ ∀ j, j < k → keeps l.toArray j = true)
  case atStart => exact ⟨1, 0, Nat.le_refl _, by omega, by omega, rfl, rfl, keeps_lt_one _⟩
  case round =>
    obtain ⟨k, q, hk1, hk, hg, rfl, rfl, hall⟩ := hrel
    by_cases hlt : k < l.length
    · obtain ⟨x, hx⟩ : ∃ x, l[k]? = some x := ⟨l[k], by simp⟩
      obtain ⟨y, hy⟩ : ∃ y, l[k - 1]? = some y := ⟨l[k - 1]'(by omega), by simp⟩
      obtain ⟨c0, c1, c2, c3⟩ := ar_cells (HR.out.cell hx)
      obtain ⟨d0, d1, d2, d3⟩ := ar_cells (HR.out.cell hy)
      have e1 : IntKind.i64.wrap ((k : Int) - 1) = (k : Int) - 1 := IntWalk.i64_in _ (by omega)
      have e2 : ((k : Int) - 1).toNat = k - 1 := by omega
      have e3 : (0 : Int) ≤ (k : Int) - 1 := by omega
      have e4 : (k : Int) - 1 < (l.length : Int) := by omega
      have e5 : (1 : Int) ≤ (k : Int) := by omega
      have HK := Lib.hid hall
      have HX := Lib.hid hx
      have HY := Lib.hid hy
      clear hall hx hy
      by_cases hdup : x = y
      · have heq : ∀ W, (binOp .eql 41 (.agg #[.int .i64 x.1.1, .int .i64 x.1.2, .int .i64 x.2.1, .int .i64 x.2.2]) (.agg #[.int .i64 y.1.1, .int .i64 y.1.2, .int .i64 y.2.1, .int .i64 y.2.2])).run Try.prog W = .ok (.bool true) W := fun W => by rw [eql41]; simp [hdup]
        have HD := Lib.hid hdup
        clear hdup
        go_wp2_with fail
        go_quiet (fail)
        clear e1 e2 e3 e4 e5 heq c0 c1 c2 c3 d0 d1 d2 d3
        go_wp2_with fail
        go_loopg [3, 5] l.length (fun gk s3 s5 wr => ∃ (kk k2 : Nat) (dk : Array Ar), s3 = .int .i64 kk ∧ s5 = .int .i64 k2 ∧ 1 ≤ k2 ∧ k + k2 ≤ l.length ∧ l.length - (k + k2) ≤ gk ∧ RowL wr g 41 cap 4 arC dk.toList ∧ w.grownBy wr (some g) ∧ Hid (CompInv l.toArray (k + k2) kk dk))
        case atStart => exact ⟨k, 1, l.toArray, rfl, rfl, Nat.le_refl _, by omega, by omega, (by simpa using HR.out.of_heap (w' := w.drewN (q + nq)) rfl), ⟨rfl, rfl, rfl, Nat.le_refl _, fun _ _ _ => rfl⟩, CompInv.start HK.out (keeps_neg (by omega) (by rw [at_get HX.out, at_get HY.out, HD.out]))⟩
        case round =>
          obtain ⟨kk, k2, dk, rfl, rfl, h1, hle, hg2, hR2, hgr, HI⟩ := hrel
          have hkk := HI.out.lt
          have hds : dk.size = l.length := by have := HI.out.size; simpa using this
          have HR2 := Lib.hid hR2
          have HG := Lib.hid hgr
          clear hR2 hgr
          by_cases hlt2 : k + k2 < l.length
          · obtain ⟨u, hu⟩ : ∃ u, l[k + k2]? = some u := ⟨l[k + k2], by simp⟩
            obtain ⟨v, hv⟩ : ∃ v, l[k + k2 - 1]? = some v := ⟨l[k + k2 - 1]'(by omega), by simp⟩
            have hu' : dk.toList[k + k2]? = some u := by rw [get_at (by omega), HI.out.high _ (by omega), at_get hu]
            have hv' : dk.toList[k + k2 - 1]? = some v := by rw [get_at (by omega), HI.out.high _ (by omega), at_get hv]
            have hk' : dk.toList[kk]? = some dk[kk]! := get_at (by omega)
            obtain ⟨c0, c1, c2, c3⟩ := ar_cells (HR2.out.cell hu')
            obtain ⟨d0, d1, d2, d3⟩ := ar_cells (HR2.out.cell hv')
            obtain ⟨b0, b1, b2, b3⟩ := ar_cells (HR2.out.cell hk')
            have f0 := HR2.out.froz (kk * 4)
            have f1 := HR2.out.froz (kk * 4 + 1)
            have f2 := HR2.out.froz (kk * 4 + 2)
            have f3 := HR2.out.froz (kk * 4 + 3)
            rw [show (k + k2) * 4 = k * 4 + k2 * 4 by omega] at c0 c1 c2 c3
            rw [show (k + k2 - 1) * 4 = k * 4 + (k2 - 1) * 4 by omega] at d0 d1 d2 d3
            have e1 : IntKind.i64.wrap ((k2 : Int) - 1) = (k2 : Int) - 1 := IntWalk.i64_in _ (by omega)
            have e2 : ((k2 : Int) - 1).toNat = k2 - 1 := by omega
            have e3 : (0 : Int) ≤ (k2 : Int) - 1 := by omega
            have e4 : (k2 : Int) - 1 < ((l.length - k : Nat) : Int) := by omega
            have e5 : (1 : Int) ≤ (k2 : Int) := by omega
            have e6 : (k2 : Int) < ((l.length - k : Nat) : Int) := by omega
            have e7 : k2 < l.length - k := by omega
            have HU := Lib.hid hu
            have HV := Lib.hid hv
            clear hu hv hu' hv' hk'
            generalize dk[kk]! = old at b0 b1 b2 b3
            by_cases huv : u = v
            · have heq : ∀ W, (binOp .neq 41 (.agg #[.int .i64 u.1.1, .int .i64 u.1.2, .int .i64 u.2.1, .int .i64 u.2.2]) (.agg #[.int .i64 v.1.1, .int .i64 v.1.2, .int .i64 v.2.1, .int .i64 v.2.2])).run Try.prog W = .ok (.bool false) W := fun W => by rw [neq41]; simp [huv]
              have HD2 := Lib.hid huv
              clear huv
              go_wp2_with fail
              go_quiet (fail)
              clear e1 e2 e3 e4 e5 e6
              go_wp2_with fail
              go_roundg (l.length - (k + (k2 + 1)))
              case measure => omega
              case rel => exact ⟨kk, k2 + 1, dk, rfl, by go_num, by omega, by omega, Nat.le_refl _, HR2.out.of_heap rfl, gr_drewN HG.out _, HI.out.skip (keeps_neg (by omega) (by rw [at_get HU.out, at_get HV.out]; exact HD2.out))⟩
            · have heq : ∀ W, (binOp .neq 41 (.agg #[.int .i64 u.1.1, .int .i64 u.1.2, .int .i64 u.2.1, .int .i64 u.2.2]) (.agg #[.int .i64 v.1.1, .int .i64 v.1.2, .int .i64 v.2.1, .int .i64 v.2.2])).run Try.prog W = .ok (.bool true) W := fun W => by rw [neq41, decide_eq_false (show ¬ (((u.1.1, u.1.2), (u.2.1, u.2.2)) = ((v.1.1, v.1.2), (v.2.1, v.2.2))) from huv)]; rfl
              have HD2 := Lib.hid huv
              clear huv
              go_wp2_with fail
              go_quiet (fail)
              clear e1 e2 e3 e4 e5
              go_wp2_with fail
              go_roundg (l.length - (k + (k2 + 1)))
              case measure => omega
              case rel =>
                refine ⟨kk + 1, k2 + 1, dk.setIfInBounds kk u, by go_num, by go_num, by omega, by omega, Nat.le_refl _, ?_, ?_, ?_⟩
                · have := (HR2.out.set arC_len (show kk < dk.toList.length by simp; omega) u).of_heap (w' := ((wr.drewN nq).setCells g (kk * 4) (arC u))) rfl
                  rw [show (dk.setIfInBounds kk u).toList = dk.toList.set kk u by simp]; exact this
                · exact gr_then (gr_drewN HG.out nq) (setCells_grown g (arC u) (kk * 4) (wr.drewN nq))
                · have := HI.out.keep (by simpa using hlt2) (keeps_pos (by rw [at_get HU.out, at_get HV.out]; exact HD2.out))
                  rwa [at_get HU.out] at this
          · have hend : k + k2 = l.length := by omega
            have hcl : ∀ ty, (Builtin.clear_ #[42] ty #[.slice (some ⟨g, kk * 4, none⟩) (l.length - kk) (cap - kk)]).run Try.prog wr = .ok (.tuple #[]) (wr.setCells g (kk * 4) (Builtin.zeroCells (Value.agg #[.int .i64 0, .int .i64 0, .int .i64 0, .int .i64 0]).cells (l.length - kk)).toList) :=
              fun ty => run_clear_k wr 42 41 ty _ Try.underlying42 Try.zeroValue41 g (kk * 4) _ _ (by omega) (by intro v hv; simp [Value.cells] at hv; subst hv; rfl) (fun j hj => by
                have hj' : j < (l.length - kk) * 4 := by simpa [Value.cells] using hj
                have hc := HR2.out.cell (get_at (d := dk) (j := kk + j / 4) (by omega)) (j % 4)
                have h2 : ∃ u, (arC dk[kk + j / 4]!)[j % 4]? = some u := by
                  have h4 : j % 4 = 0 ∨ j % 4 = 1 ∨ j % 4 = 2 ∨ j % 4 = 3 := by omega
                  rcases h4 with h | h | h | h <;> rw [h] <;> exact ⟨_, rfl⟩
                obtain ⟨u, hu⟩ := h2
                have := hc u hu
                rw [show (kk + j / 4) * 4 + j % 4 = kk * 4 + j by omega] at this
                rw [this]; rfl) (fun j _ => HR2.out.froz _)
            generalize (Builtin.zeroCells (Value.agg #[.int .i64 0, .int .i64 0, .int .i64 0, .int .i64 0]).cells (l.length - kk)).toList = zs at hcl
            go_wp2_with fail
            go_ret
            have hI := HI.out
            rw [hend] at hI
            have ec : compL l = (dk.toList.take kk).take kk := by
              unfold compL
              apply List.ext_getElem?
              intro j
              have hl1 := hI.len
              have hlow := hI.low j
              rw [List.getElem?_take, List.getElem?_take]
              by_cases hj : j < kk
              · rw [hlow hj, if_pos hj, if_pos hj, get_at (by omega)]
              · rw [if_neg hj, List.getElem?_eq_none (by rw [hl1]; omega)]
            refine ⟨_, rfl, ?_, gr_then HG.out (setCells_grown g zs (kk * 4) wr), rfl⟩
            rw [ec]
            exact (HR2.out.tail arC_len kk zs).own arC_len hcap hB kk (by rw [List.length_take]; simp; omega)
      · have heq : ∀ W, (binOp .eql 41 (.agg #[.int .i64 x.1.1, .int .i64 x.1.2, .int .i64 x.2.1, .int .i64 x.2.2]) (.agg #[.int .i64 y.1.1, .int .i64 y.1.2, .int .i64 y.2.1, .int .i64 y.2.2])).run Try.prog W = .ok (.bool false) W := fun W => by rw [eql41, decide_eq_false (show ¬ (((x.1.1, x.1.2), (x.2.1, x.2.2)) = ((y.1.1, y.1.2), (y.2.1, y.2.2))) from hdup)]
        have HD := Lib.hid hdup
        clear hdup
        go_wp2_with fail
        go_quiet (fail)
        clear e1 e2 e3 e4 heq c0 c1 c2 c3 d0 d1 d2 d3
        go_wp2_with fail
        go_roundg (l.length - (k + 1))
        case measure => omega
        case rel =>
          refine ⟨k + 1, q + nq, by omega, by omega, Nat.le_refl _, by go_num, by simp, fun j hj => ?_⟩
          by_cases e : j = k
          · subst e
            exact keeps_pos (by rw [at_get HX.out, at_get HY.out]; exact HD.out)
          · exact HK.out j (by omega)
    · have hkl : k = l.length := by omega
      subst hkl
      have HK := Lib.hid hall
      clear hall
      go_wp2_with fail
      go_ret
      have e : compL l = l := by
        unfold compL
        rw [compactUpTo_all _ _ HK.out]
        have := range_map_get l.toArray
        simpa using this
      refine ⟨_, rfl, ?_, ⟨rfl, rfl, rfl, Nat.le_refl _, fun _ _ _ => rfl⟩, rfl⟩
      rw [e]
      have := (HR.out.of_heap (w' := w.drewN q) rfl).own arC_len hcap hB l.length (Nat.le_refl _)
      rwa [List.take_length] at this
end Go.Proofs.Ytagfgkcipomopaa
namespace Go.Proofs.Ytagfgkcipomopaa
open Go.RowKit Go.Sort

theorem xt_drew {w w1 : World} (h : Xt w.drew w1) : Xt w w1 := ⟨h.os, h.tape, h.output, h.size, h.block⟩
/-! ### slices.Clone -/
def CloneR (w : World) (T : TypeId) (k : Nat) {α : Type} (enc : α → List Value) (l : List α) (e : Ending) (w' : World) : Prop := ∃ v', e = .returned v' ∧ OwnL w' w.heap.size T k enc v' l ∧ Xt w w'
theorem sl_news {α : Type} {w : World} {enc : α → List Value} {k : Nat} {a : Addr} {l : List α} (hk : ∀ x, (enc x).length = k) (h : l ≠ [] → ∃ b off, some a = some ⟨b, off, none⟩ ∧ ∀ j x, l[j]? = some x → ∀ i u, (enc x)[i]? = some u → w.cell? ⟨b, off + j * k + i, none⟩ = some u) :
    ∀ (j : Nat) (u : Value), (l.flatMap enc)[j]? = some u → w.cell? (a.add j) = some u := by
  intro t u hu
  have hl : l ≠ [] := by intro e; subst e; simp at hu
  obtain ⟨b, off, ha, hc⟩ := h hl
  cases ha
  have htl : t < l.length * k := by rw [← flat_len hk]; exact (List.getElem?_eq_some_iff.1 hu).1
  have k0 : 0 < k := by rcases Nat.eq_zero_or_pos k with h | h; · subst h; simp at htl
                        · exact h
  have hj : t / k < l.length := by rw [Nat.div_lt_iff_lt_mul k0]; exact htl
  have hi : t % k < k := Nat.mod_lt _ k0
  have hf := flat_get hk l (t / k) (t % k) l[t / k] (by simp [hj]) hi
  rw [Nat.div_add_mod' t k, hu] at hf
  have := hc (t / k) l[t / k] (by simp [hj]) (t % k) u hf.symm
  rw [Nat.add_assoc, Nat.div_add_mod' t k] at this
  rw [show (⟨b, off, none⟩ : Addr).add t = ⟨b, off + t, none⟩ from Addr.add_lit ..]
  exact this
set_option maxRecDepth 20000 in
set_option maxHeartbeats 400000 in
theorem cloneAr_any (v : Value) (l : List Ar) (w : World) (h : SlOf w arC 4 v l) (hb : l.length ≤ 4398046511104) : Calls Try.prog 44 #[v] w (CloneR w 41 4 arC l) := by
  obtain ⟨i0, hi, hz0, hz1, hz2⟩ := info_parts info41
  obtain ⟨a, cap, rfl, q1, q2, hc⟩ := h
  have q22 : ∀ (w : World) (a : Option Addr) (n c n' c' : Nat), (binOp .eql 42 (.slice a n c) (.slice none n' c')).run Try.prog w = .ok (.bool a.isNone) w := fun w a n c n' c' => Lib.run_eql_slice_nil w _ _ a n c n' c' Try.underlying42
  cases a with
  | none =>
    have hl : l = [] := Classical.byContradiction fun h => by obtain ⟨b, off, h1, _⟩ := hc h; cases h1
    subst hl
    clear hc
    go_enter Try.func44, Try.ntmps44
    go_wp2
    go_ret
    exact ⟨_, rfl, World.ownsRow_nil _ _ _ _, Xt.refl _⟩
  | some ad =>
    have A := Lib.hid (sl_news arC_len hc)
    have hlen : (l.flatMap arC).length = l.length * 4 := flat_len arC_len l
    have HL := Lib.hid hlen
    have hone : ∀ u ∈ l.flatMap arC, u.oneCell' = true := by
      intro u hu
      obtain ⟨x, _, hx⟩ := List.mem_flatMap.1 hu
      exact arC_one x u hx
    have HO := Lib.hid hone
    clear hc hlen hone
    go_enter Try.func44, Try.ntmps44
    go_wp2_with (at_builtin; refine wpList_append_own _ rfl _ _ 42 rfl w.heap.size 41 i0 (.agg #[.int .i64 0, .int .i64 0, .int .i64 0, .int .i64 0]) 4 32 Try.underlying42 hi hz0 hz1 hz2 rfl (by decide) _ _ _ rfl (World.ownsRow_made w #[] 0 (Nat.le_refl _) (Nat.zero_le _) (by simp)) ad l.length cap (l.flatMap arC) rfl HL.out ?q2 HO.out ?q4 ?q5 ?q6 ?_)
    case q2 => intro j u hj; exact Lib.cell?_alloc_some _ (A.out j u hj)
    case q4 => unfold maxLen; omega
    case q5 => omega
    case q6 => first | omega | simp
    intro v' w1 hown hgrow hnil
    go_wp2
    go_ret
    refine ⟨v', rfl, by simpa [OwnL] using hown, ?_⟩
    exact ((Below.refl _ w).alloc (Nat.le_refl _) _).grown hgrow (by simp) (by intro k hk; simp [Value.ownBlock] at hk; omega)
set_option maxRecDepth 20000 in
set_option maxHeartbeats 400000 in
theorem cloneAd_any (v : Value) (l : List Ad) (w : World) (h : SlOf w adC 2 v l) (hb : l.length ≤ 8796093022208) : Calls Try.prog 36 #[v] w (CloneR w 34 2 adC l) := by
  obtain ⟨i0, hi, hz0, hz1, hz2⟩ := info_parts info34
  obtain ⟨a, cap, rfl, q1, q2, hc⟩ := h
  have q22 : ∀ (w : World) (a : Option Addr) (n c n' c' : Nat), (binOp .eql 23 (.slice a n c) (.slice none n' c')).run Try.prog w = .ok (.bool a.isNone) w := fun w a n c n' c' => Lib.run_eql_slice_nil w _ _ a n c n' c' Try.underlying23
  cases a with
  | none =>
    have hl : l = [] := Classical.byContradiction fun h => by obtain ⟨b, off, h1, _⟩ := hc h; cases h1
    subst hl
    clear hc
    go_enter Try.func36, Try.ntmps36
    go_wp2
    go_ret
    exact ⟨_, rfl, World.ownsRow_nil _ _ _ _, Xt.refl _⟩
  | some ad =>
    have A := Lib.hid (sl_news adC_len hc)
    have hlen : (l.flatMap adC).length = l.length * 2 := flat_len adC_len l
    have HL := Lib.hid hlen
    have hone : ∀ u ∈ l.flatMap adC, u.oneCell' = true := by
      intro u hu
      obtain ⟨x, _, hx⟩ := List.mem_flatMap.1 hu
      exact adC_one x u hx
    have HO := Lib.hid hone
    clear hc hlen hone
    go_enter Try.func36, Try.ntmps36
    go_wp2_with (at_builtin; refine wpList_append_own _ rfl _ _ 23 rfl w.heap.size 34 i0 (.agg #[.int .i64 0, .int .i64 0]) 2 16 Try.underlying23 hi hz0 hz1 hz2 rfl (by decide) _ _ _ rfl (World.ownsRow_made w #[] 0 (Nat.le_refl _) (Nat.zero_le _) (by simp)) ad l.length cap (l.flatMap adC) rfl HL.out ?q2 HO.out ?q4 ?q5 ?q6 ?_)
    case q2 => intro j u hj; exact Lib.cell?_alloc_some _ (A.out j u hj)
    case q4 => unfold maxLen; omega
    case q5 => omega
    case q6 => first | omega | simp
    intro v' w1 hown hgrow hnil
    go_wp2
    go_ret
    refine ⟨v', rfl, by simpa [OwnL] using hown, ?_⟩
    exact ((Below.refl _ w).alloc (Nat.le_refl _) _).grown hgrow (by simp) (by intro k hk; simp [Value.ownBlock] at hk; omega)

/-! ### Uses -/
set_option maxRecDepth 20000 in
set_option maxHeartbeats 400000 in
theorem uses_any (pb bm : Nat) (F : Nat → Prop) (M : Mp) (a : Ad) (w : World) (h : Lk w pb bm F M) (hF : ∀ b, F b → b < w.heap.size) :
    Calls Try.prog 27 #[.pointer (some ⟨pb, 0, none⟩), .agg #[.int .i64 a.1, .int .i64 a.2]] w (CloneR w 41 4 arC ((lkM a M).getD [])) := by
  obtain ⟨E, hm, he⟩ := h.map
  have hbm' := hm.lt
  obtain ⟨w0, hw0, hb0, hs0, c0, c1⟩ := box1 w a.1 a.2 34
  have hpb' : pb < w.heap.size := World.block_lt_of_cell? w _ h.cell
  have hm0 : MapIs w0 bm E := hm.of_heap (hb0.block _ hbm')
  have hpb0 : w0.cell? ⟨pb, 0, none⟩ = some (.map (some bm)) := (hb0.cell (p := ⟨pb, 0, none⟩) hpb').trans h.cell
  have hlk : (Instr.lookup 74 (.map (some bm)) (.agg #[.int .i64 a.1, .int .i64 a.2]) false).run Try.prog w0.drew = .ok ((lk a E).getD (.slice none 0 0)) w0.drew :=
    hm0.lookup (w := w0.drew) adrKey Try.underlying74 zero42 a
  obtain ⟨hsl, hin, _⟩ := he.look a
  have hsl0 : SlOf w0.drew arC 4 ((lk a E).getD (.slice none 0 0)) ((lkM a M).getD []) := hsl.keep hin (fun b hb => hb0.block b (hF b hb))
  have hfew := h.fewAt a
  generalize (lk a E).getD (.slice none 0 0) = v at hlk hsl0
  generalize (lkM a M).getD [] = l at hsl0 hfew ⊢
  have HS := Lib.hid hsl0
  clear hsl0 hsl hin hm hm0 he h hF
  go_enter Try.func27, Try.ntmps27
  go_wp2_with fail
  clear hw0
  refine wp_region_still_tail 6 (by kernel_rfl) (by kernel_rfl) ?_
  change wpStill _ _ (World.drew _) _ _ _
  simp only [List.take_succ_cons, List.take_zero, List.drop_succ_cons, List.drop_zero]
  still_step
  still_step
  still_step
  still_step
  still_step
  still_step
  refine wpStill_nil ?_
  change wpList _ _ _ _ _ (World.drew _)
  go_wp2_with fail
  refine (cloneAr_any v l _ HS.out (by omega)).mono ?_
  rintro e w1 ⟨v1, rfl, hown, hx⟩
  go_wp2_with fail
  go_ret
  exact ⟨v1, rfl, hown.base (by show w.heap.size ≤ w0.heap.size; omega), Xt.trans (show Xt w w0 from hb0) (xt_drew hx)⟩
end Go.Proofs.Ytagfgkcipomopaa
