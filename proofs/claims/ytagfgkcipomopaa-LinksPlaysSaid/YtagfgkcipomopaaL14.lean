import Derived.Test.YtagfgkcipomopaaL13
import Derived.Test.YtagfgkcipomopaaW19
import Derived.Laws.CopyRow
namespace Go.Proofs.Ytagfgkcipomopaa
open Go.RowKit Go.Sort

/-! ### copy, of elements of many cells -/
theorem run_copy_k {P : Program} (w : World) (dT sT ty elem : TypeId) (i : TypeInfo) (k : Nat) (g o dLen dCap : Nat) (a : Addr) (sLen sCap : Nat) (cur : Array Value) (t : TypeId) (cs : List Value)
    (hu : P.underlying dT = some (.slice elem)) (hq : P.info? elem = some i) (hi : i.size = k)
    (hg : w.heap[g]? = some (.cells cur t (0, 0))) (m : Nat) (hm : m = Nat.min sLen dLen) (hn : cs.length = m * k)
    (hsrc : ∀ j v, cs[j]? = some v → w.cell? (a.add j) = some v) (hfit : o + cs.length ≤ cur.size) (h1 : ∀ v ∈ cs, v.oneCell' = true) :
    (Builtin.copy_ #[dT, sT] ty #[.slice (some ⟨g, o, none⟩) dLen dCap, .slice (some a) sLen sCap]).run P w =
      .ok (goInt m) (w.setRow g (cur.toList.take o ++ cs ++ cur.toList.drop (o + cs.length)).toArray) := by
  have hl := run_loadCells_list (P := P) w a cs hsrc
  have hst := run_storeCells_at P g o t cs 0 cur w hg (by simpa using hfit) h1
  rw [hn] at hl
  simp [Builtin.copy_, run_underlying hu, Builtin.lenOf, Builtin.firstCells, sizeOf, typeInfo, hq, hi, ← hm, hl, hst, hn]
theorem run_copy_no {P : Program} (w : World) (dT sT ty elem : TypeId) (i : TypeInfo) (d a : Option Addr) (dLen dCap sLen sCap : Nat) (hu : P.underlying dT = some (.slice elem)) (hq : P.info? elem = some i) (hn : Nat.min sLen dLen = 0) :
    (Builtin.copy_ #[dT, sT] ty #[.slice d dLen dCap, .slice a sLen sCap]).run P w = .ok (goInt 0) w := by
  have hl : ∀ (x : Addr), (loadCells x 0).run P w = .ok #[] w := fun x => by simpa using run_loadCells_list (P := P) w x [] (by simp)
  cases d <;> cases a <;> simp [Builtin.copy_, run_underlying hu, Builtin.lenOf, Builtin.firstCells, sizeOf, typeInfo, hq, hn, storeCells, hl]
/-! ### a row's end, moved by one -/
section
variable {α : Type} {enc : α → List Value} {K : Nat}
theorem row_news {w : World} {g cap : Nat} {T : TypeId} {d : List α} (hk : ∀ x, (enc x).length = K) (hR : RowL w g T cap K enc d) (s : Nat) (e : List α) (he : ∀ j x, e[j]? = some x → d[s + j]? = some x) : ∀ (j : Nat) (u : Value), (e.flatMap enc)[j]? = some u → w.cell? ((⟨g, s * K, none⟩ : Addr).add j) = some u := by
  intro t u hu
  have hne : e ≠ [] := by intro h; subst h; simp at hu
  have := sl_news (w := w) (a := ⟨g, s * K, none⟩) (l := e) hk (fun _ => ⟨g, s * K, rfl, fun j x hx i v hv => by
    have := hR.cell (he j x hx) i v hv
    rw [show (s + j) * K + i = s * K + j * K + i by rw [Nat.add_mul]] at this
    exact this⟩) t u hu
  exact this
structure ShiftS (w : World) (T E : TypeId) (K g cap n k : Nat) (enc : α → List Value) (v1 : Value) (d : List α) (vd vs : Value) (w' : World) : Prop where
  hd : ∀ W, (Instr.slice T v1 (some (.int .i64 ((k : Int) + 1))) none none).run Try.prog W = .ok vd W
  hs : ∀ W, (Instr.slice T v1 (some (.int .i64 k)) none none).run Try.prog W = .ok vs W
  run : ∀ ty, (Builtin.copy_ #[T, T] ty #[vd, vs]).run Try.prog w = .ok (goInt (n - k : Nat)) w'
  row : Hid (RowL w' g E cap K enc (d.take (k + 1) ++ (d.drop k).take (n - k)) ∧ w.grownBy w' (some g))
  size : w'.heap.size = w.heap.size
/-- 'copy(l[k+1:], l[k:])', l with one place more at its end. -/
theorem shift_run {w : World} {T E : TypeId} {i : TypeInfo} {g cap n k : Nat} {d : List α} (hT : Try.prog.underlying T = some (.slice (Try.prog.elem T))) (hE : Try.prog.elem T = E) (hz : ∀ w, (sizeOf E).run Try.prog w = .ok K w) (hq : Try.prog.info? E = some i) (hi : i.size = K) (hpos : 0 < K)
    (hk : ∀ x, (enc x).length = K) (hone : ∀ x, ∀ u ∈ enc x, u.oneCell' = true) (hR : RowL w g E cap K enc d) (hd : d.length = n + 1) (hkn : k ≤ n) (hcap : cap ≤ 9223372036854775807) :
    ∃ vd vs w', ShiftS w T E K g cap n k enc (.slice (some ⟨g, 0, none⟩) (n + 1) cap) d vd vs w' := by
  obtain ⟨cur, hg, hs, hdc, hc⟩ := hR
  have hR' : RowL w g E cap K enc d := ⟨cur, hg, hs, hdc, hc⟩
  have run1 : ∀ (j : Nat), j ≤ n + 1 → ∀ W, (Instr.slice T (.slice (some ⟨g, 0, none⟩) (n + 1) cap) (some (.int .i64 (j : Int))) none none).run Try.prog W = .ok (sliced (some ⟨g, 0, none⟩) j (n + 1) cap K) W := by
    intro j hj W
    rw [run_slice_l W T _ (n + 1) cap hT .i64 j (by omega) (by omega), hE, hz]
    simp
  by_cases hk0 : n - k = 0
  · refine ⟨_, _, w, ⟨fun W => by rw [show ((k : Int) + 1) = ((k + 1 : Nat) : Int) by omega]; exact run1 (k + 1) (by omega) W, fun W => run1 k (by omega) W, fun ty => ?_, ⟨?_, ⟨rfl, rfl, rfl, Nat.le_refl _, fun _ _ _ => rfl⟩⟩, rfl⟩⟩
    · rw [hk0]
      exact run_copy_no w T T ty E i _ _ _ _ _ _ (by rw [hT, hE]) hq (by show min (n + 1 - k) (n + 1 - (k + 1)) = 0; omega)
    · rw [hk0]
      simp only [List.take_zero, List.append_nil]
      rw [List.take_of_length_le (by omega)]; exact hR'
  · have hle : (k + 1) + (n - k) ≤ cap := by omega
    have hel : ((d.drop k).take (n - k)).length = n - k := by rw [List.length_take, List.length_drop]; omega
    have hfl := flat_len hk ((d.drop k).take (n - k))
    rw [hel] at hfl
    refine ⟨_, _, w.setRow g (cur.toList.take ((k + 1) * K) ++ ((d.drop k).take (n - k)).flatMap enc ++ cur.toList.drop ((k + 1) * K + (((d.drop k).take (n - k)).flatMap enc).length)).toArray, ⟨fun W => by rw [show ((k : Int) + 1) = ((k + 1 : Nat) : Int) by omega]; exact run1 (k + 1) (by omega) W, fun W => run1 k (by omega) W, fun ty => ?_, ⟨?_, setRow_grown⟩, ?_⟩⟩
    rotate_left
    · exact RowL.app hk hg hs hc (k + 1) (by omega) ((d.drop k).take (n - k)) (by rw [hel]; exact hle)
    · simp
    · unfold sliced
      rw [if_neg (by omega)]
      simp only [Option.map_some, Addr.add_lit, Nat.zero_add]
      by_cases hk1 : cap = k
      · omega
      · rw [if_neg hk1]
        try simp only [Option.map_some, Addr.add_lit, Nat.zero_add]
        refine run_copy_k w T T ty E i K g ((k + 1) * K) _ _ ⟨g, k * K, none⟩ _ _ cur E (((d.drop k).take (n - k)).flatMap enc) (by rw [hT, hE]) hq hi hg (n - k) ?_ ?_ ?_ ?_ ?_
        · show n - k = min (n + 1 - k) (n + 1 - (k + 1)); omega
        · rw [hfl]
        · exact row_news hk hR' k _ (fun j x hx => by
            rw [List.getElem?_take] at hx
            split at hx
            · rw [List.getElem?_drop] at hx; exact hx
            · cases hx)
        · rw [hfl, hs, ← Nat.add_mul]; exact Nat.mul_le_mul_right _ hle
        · intro u hu
          obtain ⟨x, _, hx⟩ := List.mem_flatMap.1 hu
          exact hone x u hx
/-- What the list is behind it, and behind the store. -/
theorem shift_list {o : List α} {z x : α} {n k : Nat} (ho : o.length = n) (hkn : k ≤ n) : ((o ++ [z]).take (k + 1) ++ ((o ++ [z]).drop k).take (n - k)).set k x = o.take k ++ x :: o.drop k := by
  subst ho
  have h1 : ((o ++ [z]).drop k).take (o.length - k) = o.drop k := by
    rw [List.drop_append_of_le_length hkn, List.take_append_of_le_length (by rw [List.length_drop]; omega), List.take_of_length_le (by rw [List.length_drop]; omega)]
  rw [h1]
  have hl : ((o ++ [z]).take (k + 1)).length = k + 1 := by rw [List.length_take, List.length_append]; simp; omega
  rw [List.set_append_left _ _ (by rw [hl]; omega)]
  have h2 : ((o ++ [z]).take (k + 1)).set k x = o.take k ++ [x] := by
    apply List.ext_getElem?
    intro j
    rw [List.getElem?_set, hl]
    by_cases hj : k = j
    · subst hj
      rw [if_pos rfl, if_pos (by omega), List.getElem?_append_right (by rw [List.length_take]; omega), List.length_take, show min k o.length = k by omega, Nat.sub_self]; rfl
    · rw [if_neg hj, List.getElem?_take]
      by_cases hjk : j < k
      · rw [if_pos (by omega), List.getElem?_append_left (by omega), List.getElem?_append_left (by rw [List.length_take]; omega), List.getElem?_take, if_pos hjk]
      · rw [if_neg (by omega), List.getElem?_eq_none]
        rw [List.length_append, List.length_take]; simp; omega
  rw [h2, List.append_assoc]; rfl
end
end Go.Proofs.Ytagfgkcipomopaa
