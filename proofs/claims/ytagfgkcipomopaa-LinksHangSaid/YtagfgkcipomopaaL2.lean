import Derived.Test.YtagfgkcipomopaaG1
import Derived.Test.YtagfgkcipomopaaL1
import Derived.Maps.RangeRun
import Derived.Maps.RangeWalk
namespace Go.Proofs.Ytagfgkcipomopaa
open Go.RowKit Go.Sort Go.MapKept
open Go.ChangeMaps (setBlock)

/-! ### ranging over a map -/
/-- Block r is an iterator over the map in block b; these entries are to come; this one came last. -/
def IterIs (w : World) (r b : Nat) (E left : List (Ad × Value)) (cur : Option (Ad × Value)) : Prop :=
  ∃ es clock seen, w.heap[b]? = some (.map es clock) ∧ Stamped es clock ∧ es.toList.map kv = E.map kvE ∧ w.heap[r]? = some (.mapIter (some b) clock seen clock) ∧
    (leftOf es seen).toList.map kv = left.map kvE ∧ ∀ x, cur = some x → ∃ (seen' : Array Nat) (e : MapEntry), seen = seen'.push e.born ∧ e ∈ es.toList ∧ kv e = kvE x
theorem IterIs.map {w : World} {r b : Nat} {E left : List (Ad × Value)} {cur : Option (Ad × Value)} (h : IterIs w r b E left cur) : MapIs w b E := by
  obtain ⟨es, clock, seen, h1, h2, h3, _⟩ := h
  exact ⟨es, clock, h1, h2, h3⟩
theorem IterIs.ne {w : World} {r b : Nat} {E left : List (Ad × Value)} {cur : Option (Ad × Value)} (h : IterIs w r b E left cur) : r ≠ b := by
  obtain ⟨es, clock, seen, h1, _, _, h4, _⟩ := h
  intro e; subst e; rw [h1] at h4; cases h4
theorem IterIs.lt {w : World} {r b : Nat} {E left : List (Ad × Value)} {cur : Option (Ad × Value)} (h : IterIs w r b E left cur) : r < w.heap.size := by
  obtain ⟨es, clock, seen, h1, _, _, h4, _⟩ := h
  exact (Array.getElem?_eq_some_iff.1 h4).1
theorem IterIs.of_heap {w w' : World} {r b : Nat} {E left : List (Ad × Value)} {cur : Option (Ad × Value)} (h : IterIs w r b E left cur) (hb : w'.heap[b]? = w.heap[b]?) (hr : w'.heap[r]? = w.heap[r]?) : IterIs w' r b E left cur := by
  obtain ⟨es, clock, seen, h1, h2, h3, h4, h5⟩ := h
  exact ⟨es, clock, seen, hb.trans h1, h2, h3, hr.trans h4, h5⟩
theorem kvE_inj {x y : Ad × Value} (h : kvE x = kvE y) : x = y := by
  obtain ⟨a, v⟩ := x; obtain ⟨b, u⟩ := y
  simp only [kvE, Prod.mk.injEq] at h
  obtain ⟨h1, rfl⟩ := h
  rw [adV_inj h1]
theorem map_kvE_inj : ∀ {l l' : List (Ad × Value)}, l.map kvE = l'.map kvE → l = l'
  | [], [], _ => rfl
  | [], _ :: _, h => by simp at h
  | _ :: _, [], h => by simp at h
  | x :: l, y :: l', h => by
    simp only [List.map_cons, List.cons.injEq] at h
    rw [kvE_inj h.1, map_kvE_inj h.2]
theorem MapIs.range {P : Program} {t k e : TypeId} (ht : P.underlying t = some (.map k e)) {w : World} {b : Nat} {E : List (Ad × Value)} (h : MapIs w b E) :
    ∃ w', (Instr.range t (.map (some b))).run P w = .ok (.pointer (some ⟨w.heap.size, 0, none⟩)) w' ∧ IterIs w' w.heap.size b E E none ∧ Gr w w' ∧ w'.heap.size = w.heap.size + 1 := by
  have hlt := h.lt
  obtain ⟨es, clock, hb, hs, he⟩ := h
  refine ⟨_, run_range_map w t k e b es clock ht hb, ⟨es, clock, #[], ((MapKept.heap_alloc w _).2 b hlt).trans hb, hs, he, (MapKept.heap_alloc w _).1, ?_, fun x hx => by cases hx⟩, (Gr.refl _).alloc _, by simp⟩
  rw [← he]
  simp only [leftOf, Array.toList_filter]
  rw [List.filter_eq_self.2 (by simp)]
theorem filter_out : ∀ {L1 L2 : List MapEntry} {e : MapEntry}, ((L1 ++ e :: L2).map (·.born)).Nodup → (L1 ++ e :: L2).filter (fun x => !(x.born == e.born)) = L1 ++ L2 := by
  intro L1 L2 e h
  rw [List.map_append, List.map_cons, List.nodup_append] at h
  obtain ⟨_, h2, h3⟩ := h
  rw [List.nodup_cons] at h2
  rw [List.filter_append, List.filter_cons]
  simp only [beq_self_eq_true, Bool.not_true, Bool.false_eq_true, if_false]
  congr 1
  · refine List.filter_eq_self.2 fun x hx => ?_
    have : x.born ≠ e.born := fun hh => h3 _ (List.mem_map.2 ⟨x, hx, rfl⟩) _ (List.mem_cons_self ..) hh
    simp [this]
  · refine List.filter_eq_self.2 fun x hx => ?_
    have : x.born ≠ e.born := fun hh => h2.1 (List.mem_map.2 ⟨x, hx, hh⟩)
    simp [this]
theorem IterIs.next {P : Program} {w : World} {r b : Nat} {E left : List (Ad × Value)} {cur : Option (Ad × Value)} (h : IterIs w r b E left cur) (ty : TypeId) :
    (left = [] ∧ (Instr.next (.pointer (some ⟨r, 0, none⟩)) false ty).run P w = .ok (.tuple #[.bool false]) w) ∨
    ∃ x l1 l2 w1, left = l1 ++ x :: l2 ∧ (Instr.next (.pointer (some ⟨r, 0, none⟩)) false ty).run P w = .ok (.tuple #[.bool true, adV x.1, x.2]) w1 ∧ IterIs w1 r b E (l1 ++ l2) (some x) ∧ w.grownBy w1 (some r) ∧ w1.heap.size = w.heap.size := by
  have hne := h.ne
  obtain ⟨es, clock, seen, hb, hs, he, hr, hl, _⟩ := h
  rcases run_next_at (P := P) w ty r b clock clock seen es clock hr hb hs.1 (Nat.le_refl _) with ⟨h0, hrun⟩ | ⟨e, hemem, w1, hw1, hrun⟩
  · refine Or.inl ⟨?_, hrun⟩
    have : leftOf es seen = #[] := Array.eq_empty_of_size_eq_zero h0
    rw [this] at hl
    cases left with
    | nil => rfl
    | cons _ _ => simp at hl
  · obtain ⟨hes, hseen⟩ := mem_left hemem
    obtain ⟨L1, L2, hL⟩ := List.append_of_mem hemem
    rw [hL, List.map_append, List.map_cons] at hl
    obtain ⟨l1, l2', hll, hl1, hl2⟩ := List.map_eq_append_iff.1 hl.symm
    obtain ⟨x, l2, rfl, hx, hl2⟩ := List.map_eq_cons_iff.1 hl2
    have hkv : e.key = adV x.1 ∧ e.val = x.2 := by
      simp only [kv, kvE, Prod.mk.injEq] at hx
      exact ⟨hx.1.symm, hx.2.symm⟩
    have hw1h : w1.heap = w.heap := by rcases hw1 with rfl | rfl <;> rfl
    have hr1 : w1.heap[r]? = some (.mapIter (some b) clock seen clock) := by rw [hw1h]; exact hr
    have hrl : r < w1.heap.size := (Array.getElem?_eq_some_iff.1 hr1).1
    refine Or.inr ⟨x, l1, l2, setBlock w1 r (.mapIter (some b) clock (seen.push e.born) clock), hll, by rw [hrun, hkv.1, hkv.2], ⟨es, clock, seen.push e.born, ?_, hs, he, ?_, ?_, ?_⟩, ?_, ?_⟩
    · simp only [setBlock]
      rw [Array.getElem?_setIfInBounds_ne hne, hw1h]; exact hb
    · simp only [setBlock]
      rw [Array.getElem?_setIfInBounds_self_of_lt hrl]
    · have hf : (leftOf es (seen.push e.born)).toList = L1 ++ L2 := by
        have hnd : ((leftOf es seen).toList.map (·.born)).Nodup := by
          have : (leftOf es seen).toList.Sublist es.toList := by unfold leftOf; rw [Array.toList_filter]; exact List.filter_sublist
          exact (this.map _).nodup hs.2.1
        rw [hL] at hnd
        rw [← filter_out hnd, ← hL]
        unfold leftOf
        simp only [Array.toList_filter, List.filter_filter]
        refine List.filter_congr fun y _ => ?_
        rw [contains_push, Bool.not_or, Bool.and_comm]
      rw [hf, List.map_append, List.map_append, hl1, hl2]
    · intro y hy
      cases hy
      exact ⟨seen, e, rfl, hes, hx.symm⟩
    · refine ⟨?_, ?_, ?_, ?_, ?_⟩
      · rcases hw1 with rfl | rfl <;> rfl
      · rcases hw1 with rfl | rfl <;> rfl
      · rcases hw1 with rfl | rfl <;> rfl
      · simp [setBlock, hw1h]
      · intro k _ hk
        simp only [setBlock]
        rw [Array.getElem?_setIfInBounds_ne (fun e => hk (by rw [e])), hw1h]
    · simp [setBlock, hw1h]
theorem IterIs.entry {P : Program} {w : World} {r b : Nat} {E left : List (Ad × Value)} {x : Ad × Value} (h : IterIs w r b E left (some x)) :
    (Instr.entry (.pointer (some ⟨r, 0, none⟩))).run P w = .ok (.tuple #[adV x.1, x.2]) w := by
  obtain ⟨es, clock, seen, hb, hs, he, hr, hl, hc⟩ := h
  obtain ⟨seen', e, rfl, hmem, hx⟩ := hc x rfl
  rw [run_entry_at (P := P) w r b clock seen' es clock e hr hb hmem hs.2.1]
  simp only [kv, kvE, Prod.mk.injEq] at hx
  rw [hx.1, hx.2]

section
variable {P : Program} (w : World) {ops : Array Oper} {rest : List Oper} {o : Oper} {a : Act} {Q : Exit → Act → World → Prop}
/-- 'range m' at the operation. -/
theorem wpList_range_it (hg : o.guard = none) (m : Operand) (t k e : TypeId) (hop : o.op = Op.range t m) (ht : P.underlying t = some (.map k e)) (b : Nat) (E : List (Ad × Value)) (hm : a.eval m = .map (some b)) (h : MapIs w b E)
    (hK : ∀ w', IterIs w' w.heap.size b E E none → Gr w w' → w'.heap.size = w.heap.size + 1 → wpList P ops Q rest (a.put o.dst (.pointer (some ⟨w.heap.size, 0, none⟩))) w') :
    wpList P ops Q (o :: rest) a w := by
  refine wpList_plain hg fun K' hK' => ?_
  obtain ⟨w', hrun, r1, r2, r3⟩ := h.range (P := P) ht
  unfold Oper.wp
  simp [execOp, hop, hm, hrun, Result.andThen]
  exact hK' _ _ (hK w' r1 r2 r3)
/-- The step. -/
theorem wpList_next_it (hg : o.guard = none) (it : Operand) (hop : o.op = Op.next it false) (r b : Nat) (E left : List (Ad × Value)) (cur : Option (Ad × Value)) (hit : a.eval it = .pointer (some ⟨r, 0, none⟩)) (h : IterIs w r b E left cur)
    (hDone : left = [] → wpList P ops Q rest (a.put o.dst (.tuple #[.bool false])) w)
    (hMore : ∀ (c d : Int) (v : Value) l1 l2 w1, left = l1 ++ ((c, d), v) :: l2 → IterIs w1 r b E (l1 ++ l2) (some ((c, d), v)) → w.grownBy w1 (some r) → w1.heap.size = w.heap.size →
      (Instr.entry (.pointer (some ⟨r, 0, none⟩))).run P w1 = .ok (.tuple #[.agg #[.int .i64 c, .int .i64 d], v]) w1 → wpList P ops Q rest (a.put o.dst (.tuple #[.bool true, .agg #[.int .i64 c, .int .i64 d], v])) w1) :
    wpList P ops Q (o :: rest) a w := by
  refine wpList_plain hg fun K' hK' => ?_
  unfold Oper.wp
  rcases h.next (P := P) o.type with ⟨h0, hrun⟩ | ⟨x, l1, l2, w1, hl, hrun, hI, hgr, hsz⟩
  · simp [execOp, hop, hit, hrun, Result.andThen]
    exact hK' _ _ (hDone h0)
  · simp [execOp, hop, hit, hrun, Result.andThen]
    exact hK' _ _ (hMore x.1.1 x.1.2 x.2 l1 l2 w1 hl hI hgr hsz hI.entry)
/-- 'delete(m, k)'. -/
theorem wpList_delete_it (hg : o.guard = none) (m x : Operand) (t tk k e : TypeId) (hop : o.op = Op.call { callee := Callee.builtin Builtin.delete, args := #[m, x], argTypes := #[t, tk] }) (K : AdrKey P k) (ht : P.underlying t = some (.map k e)) (b : Nat) (E : List (Ad × Value)) (hm : a.eval m = .map (some b)) (c d : Int) (hx : a.eval x = .agg #[.int .i64 c, .int .i64 d]) (h : MapIs w b E)
    (hK : ∀ w', MapIs w' b (dlE (c, d) E) → w.grownBy w' (some b) → w'.heap.size = w.heap.size → wpList P ops Q rest (a.put o.dst (.tuple #[])) w') :
    wpList P ops Q (o :: rest) a w := by
  refine wpList_plain hg fun K' hK' => ?_
  obtain ⟨w', hrun, r1, r2, _, r3⟩ := h.delete (ty := o.type) K ht (c, d) tk
  have hrun' : (Builtin.delete_ #[t, tk] o.type #[.map (some b), .agg #[.int .i64 c, .int .i64 d]]).run P w = .ok (.tuple #[]) w' := hrun
  unfold Oper.wp
  simp [execOp, hop, resolve, invoke, builtin, hm, hx, hrun', Result.andThen]
  exact hK' _ _ (hK w' r1 r2 r3)
/-- 'm[k] = v'. -/
theorem wpList_update_it (hg : o.guard = none) (m x v : Operand) (t k e : TypeId) (hop : o.op = Op.mapUpdate t m x v) (K : AdrKey P k) (ht : P.underlying t = some (.map k e)) (b : Nat) (E : List (Ad × Value)) (hm : a.eval m = .map (some b)) (c d : Int) (hx : a.eval x = .agg #[.int .i64 c, .int .i64 d]) (val : Value) (hv : a.eval v = val) (h : MapIs w b E)
    (hK : ∀ w', MapIs w' b (upE (c, d) val E) → w.grownBy w' (some b) → w'.heap.size = w.heap.size → wpList P ops Q rest (a.put o.dst undef) w') :
    wpList P ops Q (o :: rest) a w := by
  refine wpList_plain hg fun K' hK' => ?_
  obtain ⟨w', hrun, r1, r2, _, r3⟩ := h.update K ht (c, d) val
  have hrun' : (Instr.mapUpdate t (.map (some b)) (.agg #[.int .i64 c, .int .i64 d]) val).run P w = .ok () w' := hrun
  unfold Oper.wp
  simp [execOp, hop, hm, hx, hv, hrun', Result.andThen]
  exact hK' _ _ (hK w' r1 r2 r3)
end
end Go.Proofs.Ytagfgkcipomopaa
