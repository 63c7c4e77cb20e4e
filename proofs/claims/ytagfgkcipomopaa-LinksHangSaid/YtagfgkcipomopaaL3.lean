import Derived.Test.YtagfgkcipomopaaL2
import Derived.Shelf.SlSortCmp.WholeK
import Derived.Sort.LotA
namespace Go.Proofs.Ytagfgkcipomopaa
open Go.RowKit Go.Sort Go.MapKept

/-! ### rows of the call's own, element by element -/
section
variable {α : Type} {enc : α → List Value} {k : Nat}
theorem flat_len (hk : ∀ x, (enc x).length = k) : ∀ (l : List α), (l.flatMap enc).length = l.length * k
  | [] => by simp
  | x :: l => by simp [List.flatMap_cons, hk, flat_len hk l, Nat.add_mul, Nat.add_comm]
theorem flat_get (hk : ∀ x, (enc x).length = k) : ∀ (l : List α) (j i : Nat) (x : α), l[j]? = some x → i < k → (l.flatMap enc)[j * k + i]? = (enc x)[i]?
  | [], _, _, _, h, _ => by simp at h
  | y :: l, 0, i, x, h, hi => by
    simp only [List.getElem?_cons_zero, Option.some.injEq] at h
    subst h
    rw [List.flatMap_cons, Nat.zero_mul, Nat.zero_add, List.getElem?_append_left (by rw [hk]; exact hi)]
  | y :: l, j + 1, i, x, h, hi => by
    simp only [List.getElem?_cons_succ] at h
    rw [List.flatMap_cons, List.getElem?_append_right (by rw [hk, Nat.add_mul]; omega), hk, show (j + 1) * k + i - k = j * k + i by rw [Nat.add_mul]; omega]
    exact flat_get hk l j i x h hi
/-- A slice of the call's own, by its elements. -/
def OwnL (w : World) (base : Nat) (T : TypeId) (k : Nat) (enc : α → List Value) (v : Value) (l : List α) : Prop := w.ownsRow base T k v l.length (l.flatMap enc)
theorem OwnL.sl {w : World} {base : Nat} {T : TypeId} {v : Value} {l : List α} (h : OwnL w base T k enc v l) (hk : ∀ x, (enc x).length = k) : SlOf w enc k v l := by
  obtain ⟨h1, h2⟩ := h
  rcases h2 with ⟨rfl, h0⟩ | ⟨g, cap, cur, rfl, hb, hg, hn, hc, hs, ht⟩
  · refine ⟨none, 0, by rw [h0], by omega, by omega, fun hl => ?_⟩
    exact absurd (List.length_eq_zero_iff.1 h0) hl
  · refine ⟨_, cap, rfl, hn, by unfold maxLen at hc; omega, fun _ => ⟨g, 0, rfl, fun j x hx i u hu => ?_⟩⟩
    have hi : i < k := by rw [← hk x]; exact (List.getElem?_eq_some_iff.1 hu).1
    have hf := flat_get hk l j i x hx hi
    rw [hu, ← ht] at hf
    rw [List.getElem?_take] at hf
    split at hf
    · rw [Nat.zero_add, cell_of_row w g _ cur T (0, 0) hg]
      simpa using hf
    · cases hf
theorem OwnL.inF {w : World} {base : Nat} {T : TypeId} {v : Value} {l : List α} (h : OwnL w base T k enc v l) : slIn (fun b => base ≤ b) v := by
  intro a n c hv
  rcases h.2 with ⟨h0, _⟩ | ⟨g, cap, cur, h0, hb, _⟩
  · rw [h0] at hv; cases hv
  · rw [h0] at hv; cases hv; exact hb
theorem OwnL.base {w : World} {base base' : Nat} {T : TypeId} {v : Value} {l : List α} (h : OwnL w base T k enc v l) (hb : base' ≤ base) : OwnL w base' T k enc v l := by
  refine ⟨h.1, ?_⟩
  rcases h.2 with h0 | ⟨g, cap, cur, h0, h1, r⟩
  · exact Or.inl h0
  · exact Or.inr ⟨g, cap, cur, h0, by omega, r⟩
theorem Xt.grown {a b : World} (h : Xt a b) (row : Option Nat) : a.grownBy b row := ⟨h.os, h.tape, h.output, h.size, fun k hk _ => Below.block h k hk⟩
theorem OwnL.xt {w w' : World} {base : Nat} {T : TypeId} {v : Value} {l : List α} (h : OwnL w base T k enc v l) (hx : Xt w w') : OwnL w' base T k enc v l :=
  World.ownsRow.kept h (hx.grown none) (by cases v.ownBlock <;> simp)
theorem own_ne {w : World} {base n size : Nat} {T : TypeId} {v : Value} {xs : List Value} (h : w.ownsRow base T size v n xs) {r : Nat} (hr : r < base) : v.ownBlock = none ∨ v.ownBlock ≠ some r := by
  cases hv : v.ownBlock with
  | none => exact Or.inl rfl
  | some q => exact Or.inr fun e => by cases e; have := (World.ownsRow.lt h _ hv).1; omega
theorem news_at (W : World) (cs : List Value) (T : TypeId) {b : Nat} (hb : b = W.heap.size) : ∀ (j : Nat) (u : Value), cs[j]? = some u → (W.alloc (.cells cs.toArray T)).cell? ((⟨b, 0, none⟩ : Addr).add j) = some u := by
  intro j u hu
  subst hb
  rw [show (⟨W.heap.size, 0, none⟩ : Addr).add j = ⟨W.heap.size, 0 + j, none⟩ from Addr.add_lit .., Nat.zero_add, World.cell?_alloc_new]
  simpa using hu
theorem holdsK_of [Inhabited α] {w : World} {g : Nat} {T : TypeId} {cur : Array Value} {l : List α} (hk : ∀ x, (enc x).length = k) (hg : w.heap[g]? = some (.cells cur T (0, 0))) (ht : cur.toList.take (l.length * k) = l.flatMap enc) : HoldsK enc k w g 0 l.toArray := by
  intro t hts
  rw [size_flatK] at hts
  have htl : t < l.length * k := by simpa using hts
  have k0 : 0 < k := by rcases Nat.eq_zero_or_pos k with h | h; · subst h; simp at htl
                        · exact h
  have hj : t / k < l.length := by rw [Nat.div_lt_iff_lt_mul k0]; exact htl
  have hi : t % k < k := Nat.mod_lt _ k0
  refine ⟨?_, ?_⟩
  · rw [get_flatK enc k _ t hts, Nat.zero_add, cell_of_row w g t cur T (0, 0) hg]
    have hf := flat_get hk l (t / k) (t % k) l[t / k] (by simp [hj]) hi
    rw [Nat.div_add_mod' t k, ← ht, List.getElem?_take, if_pos htl] at hf
    have e1 : (enc (l.toArray[t / k]!)) = enc l[t / k] := by rw [getElem!_pos _ _ (by simpa using hj)]; simp
    rw [e1]
    have hl2 : t % k < (enc l[t / k]).length := by rw [hk]; exact hi
    rw [getElem!_pos (enc l[t / k]) (t % k) hl2]
    rw [List.getElem?_eq_getElem hl2] at hf
    simpa using hf
  · simp [World.frozen?, hg]
theorem putCells_take (F cur : Array Value) (h : F.size ≤ cur.size) : (putCells id 0 F cur).size = cur.size ∧ (putCells id 0 F cur).toList.take F.size = F.toList := by
  refine ⟨by simp [putCells], ?_⟩
  apply List.ext_getElem?
  intro i
  rw [List.getElem?_take]
  by_cases hi : i < F.size
  · have hc : i < cur.size := by omega
    rw [if_pos hi, Array.getElem?_toList, Array.getElem?_toList]
    simp only [putCells, Array.getElem?_mapIdx, Array.getElem?_eq_getElem hc, Option.map_some, Nat.zero_le, Nat.zero_add, hi, and_self, if_true, id, Nat.sub_zero, Array.getElem?_eq_getElem hi]
    rw [getElem!_pos F i hi]
  · rw [if_neg hi]
    simp [Array.getElem?_eq_none (Nat.le_of_not_lt hi)]
theorem flatK_toList [Inhabited α] (hk : ∀ x, (enc x).length = k) (d : Array α) : (flatK enc k d).toList = d.toList.flatMap enc := by
  apply List.ext_getElem?
  intro t
  by_cases htl : t < d.size * k
  · have k0 : 0 < k := by rcases Nat.eq_zero_or_pos k with h | h; · subst h; simp at htl
                          · exact h
    have hj : t / k < d.size := by rw [Nat.div_lt_iff_lt_mul k0]; exact htl
    have hi : t % k < k := Nat.mod_lt _ k0
    have hf := flat_get hk d.toList (t / k) (t % k) d[t / k] (by simp [hj]) hi
    rw [Nat.div_add_mod' t k] at hf
    rw [hf, Array.getElem?_toList, Array.getElem?_eq_getElem (by simpa using htl), ← getElem!_pos (flatK enc k d) t (by simpa using htl), get_flatK enc k d t htl]
    rw [getElem!_pos d _ hj]
    have hl2 : t % k < (enc d[t / k]).length := by rw [hk]; exact hi
    rw [List.getElem?_eq_getElem hl2, getElem!_pos (enc d[t / k]) (t % k) hl2]
  · have h1 : (d.toList.flatMap enc).length = d.size * k := by rw [flat_len hk]; simp
    rw [List.getElem?_eq_none (l := d.toList.flatMap enc) (by rw [h1]; omega), List.getElem?_eq_none (by simp; omega)]
theorem ah_heap (w : World) (m : Nat) : (Go.Sort.ahead w m).heap = w.heap := rfl
theorem owns_sortWorld [Inhabited α] (hk : ∀ x, (enc x).length = k) {w : World} {g B : Nat} {T : TypeId} {cur : Array Value} {cap m : Nat} {d : Array α} {os : Array Obj} (hg : w.heap[g]? = some (.cells cur T (0, 0))) (hB : B ≤ g)
    (hn : d.size ≤ cap) (hc : cap ≤ maxLen) (hs : cur.size = cap * k) :
    (sortWorldK enc k w g 0 m d os).ownsRow B T k (.slice (some ⟨g, 0, none⟩) d.size cap) d.size (d.toList.flatMap enc) ∧ w.grownBy (sortWorldK enc k w g 0 m d os) (some g) := by
  have hlt : g < w.heap.size := (Array.getElem?_eq_some_iff.1 hg).1
  have hF : (flatK enc k d).size ≤ cur.size := by rw [size_flatK, hs]; exact Nat.mul_le_mul_right _ hn
  obtain ⟨p1, p2⟩ := putCells_take (flatK enc k d) cur hF
  have hh : (sortWorldK enc k w g 0 m d os).heap[g]? = some (.cells (putCells id 0 (flatK enc k d) cur) T (0, 0)) := by
    simp only [sortWorldK, grow, putRowK, putRow, mapBlock, ah_heap]
    rw [Array.getElem?_append_left (by simpa using hlt), Array.getElem?_modify, if_pos rfl, hg]
    rfl
  refine ⟨⟨by rw [flat_len hk]; simp, Or.inr ⟨g, cap, _, rfl, hB, hh, hn, hc, by rw [p1, hs], ?_⟩⟩, ⟨rfl, rfl, rfl, ?_, fun i hi hne => ?_⟩⟩
  · rw [← flatK_toList hk d, ← p2, size_flatK]
  · simp [sortWorldK, grow, putRowK, putRow, mapBlock]
  · simp only [sortWorldK, grow, putRowK, putRow, mapBlock, ah_heap]
    rw [Array.getElem?_append_left (by simpa using hi), Array.getElem?_modify, if_neg (fun e => hne (by rw [e]))]
end
end Go.Proofs.Ytagfgkcipomopaa
