import Derived.Test.YtagfgkcipomopaaA1
namespace Go.Proofs.Ytagfgkcipomopaa
open Go.RowKit Go.Sort Go.MapKept

/-! ### 'm[k]++' : the entry, then its store -/
theorem set_same {E : List (Ad × Value)} {j : Nat} {x : Ad × Value} (h : E[j]? = some x) : E.set j x = E := by
  apply List.ext_getElem?
  intro i
  rw [List.getElem?_set]
  by_cases hij : j = i
  · subst hij
    have hj := (List.getElem?_eq_some_iff.1 h).1
    simp [hj]
    exact ((List.getElem?_eq_some_iff.1 h).2).symm
  · simp [hij]
theorem es_at {es : Array MapEntry} {E : List (Ad × Value)} (he : es.toList.map kv = E.map kvE) {j : Nat} {a : Ad} {v : Value} (hj : E[j]? = some (a, v)) : ∃ e0, es[j]? = some e0 ∧ e0.key = adV a ∧ e0.val = v := by
  have h1 := congrArg (fun l => l[j]?) he
  simp only [List.getElem?_map, Array.getElem?_toList, hj, Option.map_some, Option.map_eq_some_iff] at h1
  obtain ⟨e0, h2, h3⟩ := h1
  simp only [kv, kvE, Prod.mk.injEq] at h3
  exact ⟨e0, h2, h3.1, h3.2⟩
theorem kv_mod {es : Array MapEntry} {E : List (Ad × Value)} (he : es.toList.map kv = E.map kvE) (j : Nat) (f : MapEntry → MapEntry) (x : Ad × Value) (hf : ∀ e, es[j]? = some e → kv (f e) = kvE x) :
    (es.modify j f).toList.map kv = (E.set j x).map kvE := by
  apply List.ext_getElem?
  intro i
  have hi := congrArg (fun l => l[i]?) he
  simp only [List.getElem?_map, Array.getElem?_toList, Array.getElem?_modify, List.getElem?_set] at hi ⊢
  by_cases hij : j = i
  · subst hij
    have hlen : es.size = E.length := by have := congrArg List.length he; simpa using this
    cases hj : es[j]? with
    | none =>
      have : ¬ j < E.length := by rw [← hlen]; exact fun h => by simp [h] at hj
      simp [this]
    | some e =>
      have : j < E.length := by rw [← hlen]; exact (Array.getElem?_eq_some_iff.1 hj).1
      simp [this, hf e hj]
  · simp [hij, hi]
theorem findIdx_born {es : Array MapEntry} (hn : (es.toList.map (·.born)).Nodup) {j : Nat} {e0 : MapEntry} (hj : es[j]? = some e0) : es.findIdx? (fun e => (e.born : Int) == (e0.born : Int)) = some j := by
  obtain ⟨hlt, hje⟩ := Array.getElem?_eq_some_iff.1 hj
  refine Array.findIdx?_eq_some_iff_getElem.2 ⟨hlt, by rw [hje]; simp, fun i hi => ?_⟩
  simp only [Bool.not_eq_true, beq_eq_false_iff_ne, ne_eq]
  intro e
  have h1 : (es.toList.map (·.born))[i]'(by simp; omega) = (es.toList.map (·.born))[j]'(by simpa using hlt) := by
    simp only [List.getElem_map, Array.getElem_toList, hje]; omega
  exact (List.pairwise_iff_getElem.1 hn) i j _ _ hi h1
theorem run_asIntI {P : Program} (k : IntKind) (n : Int) (w : World) : (asInt (.int k n)).run P w = .ok n w := by simp [asInt, asIntOf]
theorem MapIs.entryAt {P : Program} {t k e : TypeId} (K : AdrKey P k) (ht : P.underlying t = some (.map k e)) {z : Value} (hz : ∀ w, (zeroValue e).run P w = .ok z w) {w : World} {b : Nat} {E : List (Ad × Value)} (h : MapIs w b E) (a : Ad) :
    ∃ w1 st, (Instr.mapEntry t (.map (some b)) (adV a)).run P w = .ok (.tuple #[(lk a E).getD z, .int .i64 st]) w1 ∧ MapIs w1 b (upE a ((lk a E).getD z) E) ∧ w.grownBy w1 (some b) ∧ w1.heap.size = w.heap.size ∧
      ∀ v, ∃ w2, (Instr.entryStore t (.map (some b)) (.int .i64 st) v).run P w1 = .ok () w2 ∧ MapIs w2 b (upE a v E) ∧ w1.grownBy w2 (some b) ∧ w2.heap.size = w.heap.size := by
  have hnd := h.nodup
  obtain ⟨es, clock, hb, hs, he⟩ := h
  have hlen : es.size = E.length := by have := congrArg List.length he; simpa using this
  simp only [Instr.mapEntry, Sem.run_bind, run_underlying ht, Result.andThen_ok, MapKept.run_getObj_map hb, K.check, findKey_ad K w a _ E he]
  have hl := ix_lk a E 0
  cases hx : ix a E 0 with
  | none =>
    rw [hx] at hl
    have hno := lk_none.1 hl.symm
    have hlk : lk a E = none := hl.symm
    have hpush : Stamped (es.push { key := adV a, val := z, born := clock }) (clock + 1) := stamped_push hs (by
      intro x hx'
      have h1 : kv x ∈ E.map kvE := he ▸ List.mem_map.2 ⟨x, hx', rfl⟩
      obtain ⟨y, hy, hyx⟩ := List.mem_map.1 h1
      simp only [kv, kvE, Prod.mk.injEq] at hyx
      exact fun e => hno y hy (adV_inj (hyx.1.trans e)))
    have hkv : (es.push { key := adV a, val := z, born := clock }).toList.map kv = (E ++ [(a, z)]).map kvE := by simp [he, kv, kvE]
    obtain ⟨g1, g2⟩ := setObj_heap hb (.map (es.push { key := adV a, val := z, born := clock }) (clock + 1))
    refine ⟨_, clock, by simp only [Sem.run_bind, hz, Result.andThen_ok, MapKept.run_setObj_map _ hb, Sem.run_pure, hlk]; rfl, ⟨_, _, g1, hpush, by rw [hkv, upE, hlk]; rfl⟩, g2, by simp, fun v => ?_⟩
    have hat : (es.push { key := adV a, val := z, born := clock })[es.size]? = some { key := adV a, val := z, born := clock } := by simp
    have hf := findIdx_born hpush.2.1 hat
    obtain ⟨q1, q2⟩ := setObj_heap g1 (.map ((es.push { key := adV a, val := z, born := clock }).modify es.size fun e => { e with val := v }) (clock + 1))
    refine ⟨_, ?_, ⟨_, _, q1, stamped_modify hpush _ _ (fun _ _ => rfl) (fun _ _ _ => rfl), ?_⟩, q2, by simp⟩
    · simp only [Instr.entryStore, Sem.run_bind, MapKept.run_getObj_map g1, Result.andThen_ok, run_asIntI]
      rw [show ((clock : Nat) : Int) = (({ key := adV a, val := z, born := clock } : MapEntry).born : Int) from rfl, hf]
      simp only [MapKept.run_setObj_map _ g1]
    · rw [kv_mod hkv es.size _ (a, v) (fun e he' => by rw [hat] at he'; cases he'; rfl), hlen]
      rw [upE, hlk]
      simp
  | some p =>
    obtain ⟨j, v0⟩ := p
    rw [hx] at hl
    have hj := (ix_some hx).2
    rw [Nat.sub_zero] at hj
    have hlk : lk a E = some v0 := hl.symm
    obtain ⟨e0, h2, h3, h4⟩ := es_at he hj
    have hst1 : Stamped (es.modify j fun e => { e with key := adV a }) clock := stamped_modify hs _ _ (fun _ _ => rfl) (fun e' _ he' => by rw [h2] at he'; cases he'; exact h3.symm)
    have hkv : (es.modify j fun e => { e with key := adV a }).toList.map kv = (E.set j (a, v0)).map kvE := kv_mod he j _ _ (fun e he' => by rw [h2] at he'; cases he'; simp [kv, kvE, h4])
    obtain ⟨g1, g2⟩ := setObj_heap hb (.map (es.modify j fun e => { e with key := adV a }) clock)
    simp only [Sem.run_bind, h2, Option.map_some, Option.getD_some, h3, stays_ad, Result.andThen_ok]
    refine ⟨_, e0.born, by rw [MapKept.run_setObj_map _ hb]; simp only [Result.andThen_ok, Sem.run_pure, hlk]; rfl, ⟨_, _, g1, hst1, ?_⟩, g2, by simp, fun v => ?_⟩
    · rw [hkv, upE, hlk]; simp [map_at_nodup hnd hj]
    · have hat : (es.modify j fun e => { e with key := adV a })[j]? = some { e0 with key := adV a } := by rw [Array.getElem?_modify, if_pos rfl, h2]; rfl
      have hf := findIdx_born hst1.2.1 hat
      obtain ⟨q1, q2⟩ := setObj_heap g1 (.map ((es.modify j fun e => { e with key := adV a }).modify j fun e => { e with val := v }) clock)
      refine ⟨_, ?_, ⟨_, _, q1, stamped_modify hst1 _ _ (fun _ _ => rfl) (fun _ _ _ => rfl), ?_⟩, q2, by simp⟩
      · simp only [Instr.entryStore, Sem.run_bind, MapKept.run_getObj_map g1, Result.andThen_ok, run_asIntI]
        rw [show ((e0.born : Nat) : Int) = (({ e0 with key := adV a } : MapEntry).born : Int) from rfl, hf]
        simp only [MapKept.run_setObj_map _ g1]
      · rw [kv_mod hkv j _ (a, v) (fun e he' => by rw [hat] at he'; cases he'; rfl), upE, hlk]
        simp [map_at_nodup hnd hj]
end Go.Proofs.Ytagfgkcipomopaa
