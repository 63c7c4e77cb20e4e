import Derived.Test.YtagfgkcipomopaaL17
import Derived.Test.YtagfgkcipomopaaL16
namespace Go.Proofs.Ytagfgkcipomopaa
open Go.RowKit Go.Sort

/-! ### a queue: its head is taken, its end is appended to -/
/-- A slice of the call's own, anywhere in its row, of elements of k cells. -/
def QOwn {α : Type} (enc : α → List Value) (k : Nat) (T : TypeId) (w : World) (base : Nat) (v : Value) (l : List α) : Prop :=
  (v = .slice none 0 0 ∧ l = []) ∨ ∃ g o cap cur, v = .slice (some ⟨g, o * k, none⟩) l.length cap ∧ base ≤ g ∧ w.heap[g]? = some (.cells cur T (0, 0)) ∧ l.length ≤ cap ∧ (o + cap) * k ≤ cur.size ∧ cap ≤ 9223372036854775807 ∧
    ∀ j x, l[j]? = some x → ∀ i u, (enc x)[i]? = some u → cur[(o + j) * k + i]? = some u
section
variable {α : Type} {enc : α → List Value} {k : Nat} {T : TypeId}
theorem QOwn.lt {w : World} {base : Nat} {v : Value} {l : List α} (h : QOwn enc k T w base v l) : ∀ g, v.ownBlock = some g → base ≤ g ∧ g < w.heap.size := by
  intro g hg
  rcases h with ⟨rfl, _⟩ | ⟨g', o, cap, cur, rfl, hb, hc, _⟩
  · cases hg
  · cases hg; exact ⟨hb, (Array.getElem?_eq_some_iff.1 hc).1⟩
theorem QOwn.kept {w w' : World} {base : Nat} {v : Value} {l : List α} (h : QOwn enc k T w base v l) (hk : ∀ g, v.ownBlock = some g → w'.heap[g]? = w.heap[g]?) : QOwn enc k T w' base v l := by
  rcases h with h | ⟨g, o, cap, cur, rfl, hb, hc, r⟩
  · exact Or.inl h
  · exact Or.inr ⟨g, o, cap, cur, rfl, hb, (hk g rfl).trans hc, r⟩
theorem QOwn.xt {w w' : World} {base : Nat} {v : Value} {l : List α} (h : QOwn enc k T w base v l) (hx : Xt w w') : QOwn enc k T w' base v l :=
  h.kept fun g hg => RowKit.Below.block hx g (h.lt g hg).2
theorem QOwn.shape {w : World} {base : Nat} {v : Value} {l : List α} (h : QOwn enc k T w base v l) : ∃ a c, v = .slice a l.length c := by
  rcases h with ⟨rfl, rfl⟩ | ⟨g, o, cap, cur, rfl, _⟩
  · exact ⟨none, 0, rfl⟩
  · exact ⟨_, _, rfl⟩
theorem QOwn.cells {w : World} {base : Nat} {a : Option Addr} {n c : Nat} {l : List α} (h : QOwn enc k T w base (.slice a n c) l) (hl : l ≠ []) : ∃ g o, a = some ⟨g, o, none⟩ ∧ base ≤ g ∧ n = l.length ∧ ∀ j x, l[j]? = some x → ∀ i u, (enc x)[i]? = some u → w.cell? ⟨g, o + j * k + i, none⟩ = some u := by
  rcases h with ⟨_, h⟩ | ⟨g, o, cap, cur, e, hb, hc, h1, h2, h3, h4⟩
  · exact absurd h hl
  · cases e
    refine ⟨g, o * k, rfl, hb, rfl, fun j x hx i u hu => ?_⟩
    rw [cell_of_row w g _ cur T (0, 0) hc, ← Nat.add_mul]
    exact h4 j x hx i u hu
/-- 'q = q[1:]' -/
theorem QOwn.pop {w : World} {base : Nat} {a : Option Addr} {n c : Nat} {x : α} {l : List α} {S : TypeId} (hS : Try.prog.underlying S = some (.slice (Try.prog.elem S))) (hE : Try.prog.elem S = T) (hz : ∀ w, (sizeOf T).run Try.prog w = .ok k w) (h : QOwn enc k T w base (.slice a n c) (x :: l)) :
    ∃ v', (∀ W, (Instr.slice S (.slice a n c) (some (.int .i64 1)) none none).run Try.prog W = .ok v' W) ∧ QOwn enc k T w base v' l ∧ v'.ownBlock = (Value.slice a n c).ownBlock := by
  rcases h with ⟨_, h⟩ | ⟨g, o, cap, cur, e, hb, hc, h1, h2, h3, h4⟩
  · cases h
  · cases e
    refine ⟨sliced (some ⟨g, o * k, none⟩) 1 (l.length + 1) c k, fun W => ?_, Or.inr ?_, ?_⟩
    · rw [show (x :: l).length = l.length + 1 from rfl, run_slice_l W S _ (l.length + 1) c hS .i64 1 (by omega) (by omega), hE, hz]
      simp
    · by_cases hc1 : c = 1
      · have hl0 : l.length = 0 := by simp at h1; omega
        refine ⟨g, o, 0, cur, by simp [sliced, hc1, hl0], hb, hc, by omega, ?_, by omega, fun j y hy => ?_⟩
        · exact Nat.le_trans (Nat.mul_le_mul_right k (by omega)) h2
        · rw [List.length_eq_zero_iff.1 hl0] at hy; simp at hy
      · refine ⟨g, o + 1, c - 1, cur, ?_, hb, hc, by simp at h1; omega, ?_, by omega, fun j y hy i u hu => ?_⟩
        · simp [sliced, hc1, Addr.add_lit, Nat.add_mul]
        · simp at h1; rw [show o + 1 + (c - 1) = o + c by omega]; exact h2
        · rw [show o + 1 + j = o + (j + 1) by omega]; exact h4 (j + 1) y (by simpa using hy) i u hu
    · simp only [sliced, Value.ownBlock]
      split <;> rename_i he
      · split at he
        · simp at he; simp [← he]
        · simp [Addr.add_lit] at he; simp [← he]
      · exfalso
        split at he <;> simp at he
theorem setCells_in (g : Nat) {cur : Array Value} {w : World} (hg : w.heap[g]? = some (.cells cur T (0, 0))) (o : Nat) (vs : List Value) : ∃ cur', (w.setRow g (cur.toList.take o ++ vs ++ cur.toList.drop (o + vs.length)).toArray).heap[g]? = some (.cells cur' T (0, 0)) ∧ (o + vs.length ≤ cur.size → cur'.size = cur.size ∧ (∀ t, t < o → cur'[t]? = cur[t]?) ∧ ∀ t, t < vs.length → cur'[o + t]? = vs[t]?) := by
  refine ⟨_, setRow_heap w g cur _ T _ hg, fun h => ⟨?_, fun t ht => ?_, fun t ht => ?_⟩⟩
  · simp; omega
  · rw [List.getElem?_toArray, List.append_assoc, List.getElem?_append_left (by rw [List.length_take]; simp; omega), List.getElem?_take, if_pos ht]; simp
  · have hl : (cur.toList.take o).length = o := by rw [List.length_take]; simp; omega
    rw [List.getElem?_toArray, List.append_assoc, List.getElem?_append_right (by omega), hl, show o + t - o = t by omega, List.getElem?_append_left ht]
/-- 'q = append(q, x)' -/
theorem QOwn.push {w : World} {base : Nat} {v : Value} {l : List α} {S : TypeId} {i : TypeInfo} {z : Value} {bytes : Nat} (hS : Try.prog.underlying S = some (.slice T)) (hi : Try.prog.info? T = some i) (hz : i.zero = some z) (hsz : i.size = k) (hby : i.bytes = bytes) (hzk : z.cells.size = k) (hpos : 0 < k)
    (hk : ∀ x, (enc x).length = k) (hone : ∀ x, ∀ u ∈ enc x, u.oneCell' = true) (h : QOwn enc k T w base v l) (hb : base ≤ w.heap.size) (ty : TypeId) (x : α) (ad : Addr) (c : Nat) (hnews : ∀ j u, (enc x)[j]? = some u → w.cell? (ad.add j) = some u) (hlen : l.length + 1 ≤ 1000000) (hb47 : bytes ≤ 1000) :
    ∃ v' w', (Builtin.append_ #[S, S] ty #[v, .slice (some ad) 1 c]).run Try.prog w = .ok v' w' ∧ QOwn enc k T w' base v' (l ++ [x]) ∧ w.grownBy w' v.ownBlock ∧ (v'.ownBlock = v.ownBlock ∨ ∀ g, v'.ownBlock = some g → w.heap.size ≤ g) := by
  have hbt : (l.length + 1) * bytes ≤ 140737488355328 := by
    have := Nat.mul_le_mul hlen hb47; omega
  have own_q : ∀ {w' : World} {b : Nat} {v' : Value} {n : Nat} {xs : List Value}, w'.ownsRow b T k v' n xs → n = (l ++ [x]).length → xs = (l ++ [x]).flatMap enc → base ≤ b → QOwn enc k T w' base v' (l ++ [x]) := by
    intro w' b v' n xs ho hn hxs hbb
    rcases ho.2 with ⟨_, h0⟩ | ⟨g, cap, cur, hv, hbg, hg, hnc, hcm, hcs, ht⟩
    · rw [hn] at h0; simp at h0
    · refine Or.inr ⟨g, 0, cap, cur, by rw [hv, hn, Nat.zero_mul], by omega, hg, by omega, by rw [Nat.zero_add, hcs]; exact Nat.le_refl _, by unfold maxLen at hcm; omega, fun j y hy t u hu => ?_⟩
      have htk : t < k := by rw [← hk y]; exact (List.getElem?_eq_some_iff.1 hu).1
      have hf := flat_get hk (l ++ [x]) j t y hy htk
      rw [hu, ← hxs, ← ht, List.getElem?_take] at hf
      rw [Nat.zero_add]
      split at hf
      · simpa using hf
      · cases hf
  rcases h with ⟨rfl, rfl⟩ | ⟨g, o, cap, cur, rfl, hbg, hg, hlc, hfit, hcap, hc⟩
  · obtain ⟨v2, w2, hr2, k2, k3, k4⟩ := run_append_own (P := Try.prog) w w.heap.size S ty T i z k bytes hS hi hz hsz hby hzk hpos (.slice none 0 0) 0 [] (World.ownsRow_nil _ _ _ _) ad 1 c (enc x) (by rw [hk, Nat.one_mul]) hnews (hone x) (by unfold maxLen; omega) (by simpa using hbt) (Nat.le_refl _)
    exact ⟨v2, w2, hr2, own_q k2 (by simp) (by simp) hb, k3, Or.inr fun q hq => (World.ownsRow.lt k2 q hq).1⟩
  · by_cases hroom : l.length + 1 ≤ cap
    · have hle : (o + l.length) * k + k ≤ cur.size := by
        have := Nat.mul_le_mul_right k (show o + l.length + 1 ≤ o + cap by omega)
        rw [Nat.add_mul _ 1, Nat.one_mul] at this; omega
      have hf := run_firstCells_some (P := Try.prog) w k 1 ad 1 c (enc x) (by rw [hk, Nat.one_mul]) hnews
      have hst := run_storeCells_at Try.prog g ((o + l.length) * k) T (enc x) 0 cur w hg (by rw [hk]; simpa using hle) (hone x)
      simp only [Nat.add_zero] at hst
      refine ⟨.slice (some ⟨g, o * k, none⟩) (l.length + 1) cap, w.setRow g (cur.toList.take ((o + l.length) * k) ++ enc x ++ cur.toList.drop ((o + l.length) * k + (enc x).length)).toArray, ?_, ?_, setRow_grown, Or.inl rfl⟩
      · simp [Builtin.append_, run_underlying hS, sizeOf, typeInfo, hi, hsz, Builtin.lenOf, hroom, hf, Addr.add_lit, ← Nat.add_mul, hst]
      · obtain ⟨cur', q1, q2⟩ := setCells_in g hg ((o + l.length) * k) (enc x)
        obtain ⟨q2, q3, q4⟩ := q2 (by rw [hk]; exact hle)
        refine Or.inr ⟨g, o, cap, cur', by simp, hbg, q1, by simpa using hroom, by rw [q2]; exact hfit, hcap, fun j y hy t u hu => ?_⟩
        have htk : t < k := by rw [← hk y]; exact (List.getElem?_eq_some_iff.1 hu).1
        rcases Nat.lt_or_ge j l.length with hj | hj
        · rw [List.getElem?_append_left hj] at hy
          rw [q3]
          · exact hc j y hy t u hu
          · have := Nat.mul_le_mul_right k (show o + j + 1 ≤ o + l.length by omega)
            rw [Nat.add_mul _ 1, Nat.one_mul] at this; omega
        · have hjl : j = l.length := by have := (List.getElem?_eq_some_iff.1 hy).1; simp at this; omega
          subst hjl
          rw [List.getElem?_append_right (Nat.le_refl _), Nat.sub_self] at hy
          simp at hy; subst hy
          rw [q4 t (by rw [hk]; exact htk)]; exact hu
    · have holds : ∀ j u, (l.flatMap enc)[j]? = some u → w.cell? ((⟨g, o * k, none⟩ : Addr).add j) = some u := by
        refine sl_news hk fun _ => ⟨g, o * k, rfl, fun j y hy t u hu => ?_⟩
        rw [cell_of_row w g _ cur T (0, 0) hg, ← Nat.add_mul]
        exact hc j y hy t u hu
      have hcl : cap = l.length := by omega
      subst hsz hby
      have hr2 := run_append_grow (P := Try.prog) w S ty T i z hS hi hz ⟨g, o * i.size, none⟩ l.length cap (l.flatMap enc) (by rw [flat_len hk]) holds ad 1 c (enc x) (by rw [hk, Nat.one_mul]) hnews (by omega) (by omega) (growslice_fits (by omega) hbt)
      refine ⟨_, _, hr2, ?_, ⟨rfl, rfl, rfl, by simp, fun b hb' _ => heap_alloc_old w.drew _ hb'⟩, Or.inr fun q hq => by cases hq; exact Nat.le_refl _⟩
      have hge := grownCap_ge w (l.length + 1) cap T
      have hcm := grownCap_le_maxLen w (l.length + 1) cap T (by unfold maxLen; omega)
      have hfl := flat_len hk l
      refine Or.inr ⟨w.heap.size, 0, grownCap w (l.length + 1) cap T, _, by simp, hb, heap_alloc_new w.drew _, by simpa using hge, ?_, by unfold maxLen at hcm; omega, fun j y hy t u hu => ?_⟩
      · simp only [Array.size_append, List.size_toArray, size_zeroCells, hzk, hfl, hk, Nat.zero_add]
        have : grownCap w (l.length + 1) cap T * i.size = l.length * i.size + i.size + (grownCap w (l.length + 1) cap T - (l.length + 1)) * i.size := by
          rw [Nat.sub_mul, Nat.add_mul, Nat.one_mul]
          have := Nat.mul_le_mul_right i.size hge
          rw [Nat.add_mul, Nat.one_mul] at this
          omega
        omega
      · have htk : t < i.size := by rw [← hk y]; exact (List.getElem?_eq_some_iff.1 hu).1
        have hf := flat_get hk (l ++ [x]) j t y hy htk
        rw [hu, List.flatMap_append] at hf
        simp only [List.flatMap_cons, List.flatMap_nil, List.append_nil] at hf
        have hjl : j * i.size + t < (l.flatMap enc ++ enc x).length := (List.getElem?_eq_some_iff.1 hf).1
        rw [Nat.zero_add, Array.getElem?_append_left (by simpa using hjl)]
        simpa using hf
end
theorem wpList_append_eq {P : Program} {w : World} {ops : Array Oper} {rest : List Oper} {o : Oper} {a : Act} {Q : Exit → Act → World → Prop} (hgd : o.guard = none) (s x : Operand) (t : TypeId)
    (ho : o.op = .call { callee := .builtin .append, args := #[s, x], argTypes := #[t, t] }) (v u : Value) (hs : a.eval s = v) (hx : a.eval x = u) {v' : Value} {w' : World} (hr : (Builtin.append_ #[t, t] o.type #[v, u]).run P w = .ok v' w')
    (h : wpList P ops Q rest (a.put o.dst v') w') : wpList P ops Q (o :: rest) a w := by
  refine wpList_plain hgd fun K' hK' => ?_
  unfold Oper.wp execOp
  simp only [ho, resolve, invoke, builtin, Sem.run_bind, Sem.run_pure, Result.andThen_ok, List.map_toArray, List.map_cons, List.map_nil, hs, hx, hr]
  exact hK' _ _ h
end Go.Proofs.Ytagfgkcipomopaa
