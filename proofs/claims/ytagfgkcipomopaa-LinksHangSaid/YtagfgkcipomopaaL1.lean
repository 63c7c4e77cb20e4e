import Derived.WalkKit
import Derived.WalkSpells
import Derived.WalkLawsBesides
import Derived.MapKept
import Derived.Lib.Hide
import Derived.Sort.Grow
import GoSem.Instr.MapEntry
import GoSem.Builtin.Delete
namespace Go.Proofs.Ytagfgkcipomopaa
open Go.RowKit Go.Sort Go.MapKept

/-! ### cells of the program's plain structs -/
abbrev Ad := Int × Int
abbrev Ar := Ad × Ad
def adC (a : Ad) : List Value := [.int .i64 a.1, .int .i64 a.2]
def arC (x : Ar) : List Value := [.int .i64 x.1.1, .int .i64 x.1.2, .int .i64 x.2.1, .int .i64 x.2.2]
def inC (n : Int) : List Value := [.int .i64 n]
def adV (a : Ad) : Value := .agg #[.int .i64 a.1, .int .i64 a.2]
theorem adV_inj {a b : Ad} (h : adV a = adV b) : a = b := by
  obtain ⟨a1, a2⟩ := a; obtain ⟨b1, b2⟩ := b
  simp [adV] at h; obtain ⟨rfl, rfl⟩ := h; rfl

/-! ### a slice that reads as a list -/
/-- The value v is a slice of just these elements, each of sz cells. -/
def SlOf {α : Type} (w : World) (enc : α → List Value) (sz : Nat) (v : Value) (l : List α) : Prop :=
  ∃ a cap, v = .slice a l.length cap ∧ l.length ≤ cap ∧ cap ≤ 9223372036854775807 ∧ (l ≠ [] → ∃ b off, a = some ⟨b, off, none⟩ ∧ ∀ k x, l[k]? = some x → ∀ i u, (enc x)[i]? = some u → w.cell? ⟨b, off + k * sz + i, none⟩ = some u)
theorem SlOf.nil {α : Type} (w : World) (enc : α → List Value) (sz : Nat) (a : Option Addr) (cap : Nat) (hc : cap ≤ 9223372036854775807) : SlOf w enc sz (.slice a 0 cap) ([] : List α) := ⟨a, cap, rfl, Nat.zero_le _, hc, fun h => (h rfl).elim⟩
/-- In which blocks it lies. -/
def slIn (F : Nat → Prop) (v : Value) : Prop := ∀ a n c, v = .slice (some a) n c → F a.block
theorem SlOf.keep {α : Type} {w w' : World} {enc : α → List Value} {sz : Nat} {v : Value} {l : List α} {F : Nat → Prop} (h : SlOf w enc sz v l) (hF : slIn F v) (hk : ∀ b, F b → w'.heap[b]? = w.heap[b]?) : SlOf w' enc sz v l := by
  obtain ⟨a, cap, rfl, q1, q2, h2⟩ := h
  refine ⟨a, cap, rfl, q1, q2, fun hl => ?_⟩
  obtain ⟨b, off, rfl, hc⟩ := h2 hl
  have hb : w'.heap[b]? = w.heap[b]? := hk b (hF _ _ _ rfl)
  exact ⟨b, off, rfl, fun k x hx i u hu => (World.cell?_of_block (w := w) (a := ⟨b, off + k * sz + i, none⟩) hb).trans (hc k x hx i u hu)⟩

theorem ar_cells {w : World} {b o : Nat} {x : Ar} (h : ∀ (i : Nat) (u : Value), (arC x)[i]? = some u → w.cell? ⟨b, o + i, none⟩ = some u) :
    w.cell? ⟨b, o, none⟩ = some (.int .i64 x.1.1) ∧ w.cell? ⟨b, o + 1, none⟩ = some (.int .i64 x.1.2) ∧ w.cell? ⟨b, o + 2, none⟩ = some (.int .i64 x.2.1) ∧ w.cell? ⟨b, o + 3, none⟩ = some (.int .i64 x.2.2) :=
  ⟨h 0 _ rfl, h 1 _ rfl, h 2 _ rfl, h 3 _ rfl⟩
theorem ad_cells {w : World} {b o : Nat} {x : Ad} (h : ∀ (i : Nat) (u : Value), (adC x)[i]? = some u → w.cell? ⟨b, o + i, none⟩ = some u) :
    w.cell? ⟨b, o, none⟩ = some (.int .i64 x.1) ∧ w.cell? ⟨b, o + 1, none⟩ = some (.int .i64 x.2) :=
  ⟨h 0 _ rfl, h 1 _ rfl⟩
/-- Two boxed cells, the world behind them under a name. -/
theorem box2 (w : World) (x y z t : Int) (T U : TypeId) : ∃ w0, (w.alloc (.cells #[.int .i64 x, .int .i64 y] T)).alloc (.cells #[.int .i64 z, .int .i64 t] U) = w0 ∧ Below w.heap.size w w0 ∧
    w0.heap.size = w.heap.size + 2 ∧ w0.cell? ⟨w.heap.size, 0, none⟩ = some (.int .i64 x) ∧ w0.cell? ⟨w.heap.size, 1, none⟩ = some (.int .i64 y) ∧ w0.cell? ⟨w.heap.size + 1, 0, none⟩ = some (.int .i64 z) ∧ w0.cell? ⟨w.heap.size + 1, 1, none⟩ = some (.int .i64 t) := by
  refine ⟨_, rfl, ((Below.refl _ _).alloc (Nat.le_refl _) _).alloc (by simp) _, by simp, ?_, ?_, ?_, ?_⟩ <;> simp
theorem box1 (w : World) (x y : Int) (T : TypeId) : ∃ w0, w.alloc (.cells #[.int .i64 x, .int .i64 y] T) = w0 ∧ Below w.heap.size w w0 ∧
    w0.heap.size = w.heap.size + 1 ∧ w0.cell? ⟨w.heap.size, 0, none⟩ = some (.int .i64 x) ∧ w0.cell? ⟨w.heap.size, 1, none⟩ = some (.int .i64 y) := by
  refine ⟨_, rfl, (Below.refl _ _).alloc (Nat.le_refl _) _, by simp, ?_, ?_⟩ <;> simp
/-! ### maps keyed by cells -/
structure AdrKey (P : Program) (k : TypeId) : Prop where
  und : ∃ fs, P.underlying k = some (.struct fs)
  check : ∀ (w : World) (em : Bool) (a : Ad), (Instr.checkKey em 10000 k (adV a)).run P w = .ok () w
  eq : ∀ (w : World) (a b : Ad), (Op.equal k (adV a) (adV b)).run P w = .ok (decide (a = b)) w
theorem stays_ad {P : Program} (w : World) (a : Ad) : (Instr.keyThatStays (adV a) (adV a)).run P w = .ok (adV a) w := by
  simp [Instr.keyThatStays, Instr.sameBits, adV]
def lk (a : Ad) : List (Ad × Value) → Option Value
  | [] => none
  | x :: r => if x.1 = a then some x.2 else lk a r
def ix (a : Ad) : List (Ad × Value) → Nat → Option (Nat × Value)
  | [], _ => none
  | x :: r, i => if x.1 = a then some (i, x.2) else ix a r (i + 1)
theorem ix_lk (a : Ad) : ∀ (E : List (Ad × Value)) (i : Nat), (ix a E i).map (·.2) = lk a E
  | [], _ => rfl
  | x :: r, i => by unfold ix lk; split <;> simp [ix_lk a r (i + 1)]
def kv (e : MapEntry) : Value × Value := (e.key, e.val)
def kvE (x : Ad × Value) : Value × Value := (adV x.1, x.2)
theorem find_ad {P : Program} {k : TypeId} (K : AdrKey P k) (w : World) (a : Ad) : ∀ (es : List MapEntry) (E : List (Ad × Value)) (i : Nat), es.map kv = E.map kvE → (Instr.findAsking k (adV a) es i).run P w = .ok (ix a E i) w
  | [], [], i, _ => rfl
  | [], _ :: _, _, h => by simp at h
  | _ :: _, [], _, h => by simp at h
  | e :: es, x :: E, i, h => by
    simp only [List.map_cons, List.cons.injEq, kv, kvE, Prod.mk.injEq] at h
    obtain ⟨⟨h1, h2⟩, h3⟩ := h
    have hr := find_ad K w a es E (i + 1) (by simpa [kv, kvE] using h3)
    unfold Instr.findAsking ix
    rw [h1]
    simp only [Sem.run_bind, K.eq, Result.andThen_ok]
    by_cases hx : x.1 = a
    · simp [hx, h2]
    · have : ¬ a = x.1 := fun e => hx e.symm
      simp [hx, this, hr]
theorem findKey_ad {P : Program} {k : TypeId} (K : AdrKey P k) (w : World) (a : Ad) (es : List MapEntry) (E : List (Ad × Value)) (h : es.map kv = E.map kvE) : (Instr.findKey k (adV a) es).run P w = .ok (ix a E 0) w := by
  obtain ⟨fs, hu⟩ := K.und
  unfold Instr.findKey
  simp only [Sem.run_bind, run_underlying hu, Result.andThen_ok]
  cases es with
  | nil =>
    cases E with
    | nil => simp [Instr.findNow, ix]
    | cons _ _ => simp at h
  | cons e es => simp [Instr.findNow, Instr.sameNow, find_ad K w a _ E 0 h]
/-- Block b is a map of just these entries, as they lie. -/
def MapIs (w : World) (b : Nat) (E : List (Ad × Value)) : Prop :=
  ∃ es clock, w.heap[b]? = some (.map es clock) ∧ Stamped es clock ∧ es.toList.map kv = E.map kvE
theorem MapIs.nodup {w : World} {b : Nat} {E : List (Ad × Value)} (h : MapIs w b E) : (E.map (·.1)).Nodup := by
  obtain ⟨es, clock, _, hs, he⟩ := h
  have h1 : es.toList.map (·.key) = (E.map (·.1)).map adV := by
    have := congrArg (List.map (·.1)) he
    simpa [kv, kvE, Function.comp_def] using this
  have h2 := hs.2.2
  rw [h1] at h2
  unfold List.Nodup at h2 ⊢
  rw [List.pairwise_map] at h2
  exact h2.imp fun h e => h (by rw [e])
theorem MapIs.of_heap {w w' : World} {b : Nat} {E : List (Ad × Value)} (h : MapIs w b E) (hb : w'.heap[b]? = w.heap[b]?) : MapIs w' b E := by
  obtain ⟨es, clock, h1, h2⟩ := h
  exact ⟨es, clock, hb.trans h1, h2⟩
theorem MapIs.lt {w : World} {b : Nat} {E : List (Ad × Value)} (h : MapIs w b E) : b < w.heap.size := by
  obtain ⟨es, clock, h1, h2⟩ := h
  exact (Array.getElem?_eq_some_iff.1 h1).1
@[go_sem] theorem MapIs_alloc (w : World) (o : Obj) (b : Nat) (E : List (Ad × Value)) (hb : b < w.heap.size) : MapIs (w.alloc o) b E = MapIs w b E := by
  have := Below.heap_alloc w o b hb
  exact propext ⟨fun h => h.of_heap this.symm, fun h => h.of_heap this⟩
@[go_sem] theorem MapIs_drew (w : World) (b : Nat) (E : List (Ad × Value)) : MapIs w.drew b E = MapIs w b E := rfl
@[go_sem] theorem MapIs_drewN (w : World) (n b : Nat) (E : List (Ad × Value)) : MapIs (w.drewN n) b E = MapIs w b E := rfl
theorem setCell_map (w : World) (a : Addr) (v : Value) (b : Nat) (es : Array MapEntry) (c : Nat) : (w.setCell a v).heap[b]? = some (.map es c) ↔ w.heap[b]? = some (.map es c) := by
  simp only [World.setCell, Array.getElem?_modify]
  by_cases h : a.block = b
  · subst h
    simp only [if_true]
    cases hh : w.heap[a.block]? with
    | none => simp
    | some o => cases o <;> simp
  · simp [h]
@[go_sem] theorem MapIs_setCell (w : World) (a : Addr) (v : Value) (b : Nat) (E : List (Ad × Value)) : MapIs (w.setCell a v) b E = MapIs w b E := by
  refine propext ⟨fun ⟨es, c, h1, h2⟩ => ⟨es, c, (setCell_map ..).1 h1, h2⟩, fun ⟨es, c, h1, h2⟩ => ⟨es, c, (setCell_map ..).2 h1, h2⟩⟩
theorem MapIs.made (w : World) : MapIs (w.alloc (.map #[] 0)) w.heap.size [] :=
  ⟨#[], 0, by simp [← World.alloc_eq], stamped_empty 0, rfl⟩

/-- 'm[k]' -/
theorem MapIs.lookup {P : Program} {t k e : TypeId} (K : AdrKey P k) (ht : P.underlying t = some (.map k e)) {z : Value} (hz : ∀ w, (zeroValue e).run P w = .ok z w) {w : World} {b : Nat} {E : List (Ad × Value)} (h : MapIs w b E) (a : Ad) :
    (Instr.lookup t (.map (some b)) (adV a) false).run P w = .ok ((lk a E).getD z) w := by
  obtain ⟨es, clock, hb, hs, he⟩ := h
  simp only [Instr.lookup, Sem.run_bind, run_underlying ht, Result.andThen_ok, MapKept.run_getObj_map hb, K.check, findKey_ad K w a _ E he, Sem.run_pure]
  rw [← ix_lk a E 0]
  cases ix a E 0 <;> simp [hz]
/-- 'v, ok := m[k]' -/
theorem MapIs.lookup_ok {P : Program} {t k e : TypeId} (K : AdrKey P k) (ht : P.underlying t = some (.map k e)) {z : Value} (hz : ∀ w, (zeroValue e).run P w = .ok z w) {w : World} {b : Nat} {E : List (Ad × Value)} (h : MapIs w b E) (a : Ad) :
    (Instr.lookup t (.map (some b)) (adV a) true).run P w = .ok (.tuple #[(lk a E).getD z, .bool (lk a E).isSome]) w := by
  obtain ⟨es, clock, hb, hs, he⟩ := h
  simp only [Instr.lookup, Sem.run_bind, run_underlying ht, Result.andThen_ok, MapKept.run_getObj_map hb, K.check, findKey_ad K w a _ E he, Sem.run_pure]
  rw [← ix_lk a E 0]
  cases ix a E 0 <;> simp [hz]

/-! ### the same entries, one changed -/
def upE (a : Ad) (v : Value) (E : List (Ad × Value)) : List (Ad × Value) :=
  if (lk a E).isSome then E.map (fun x => if x.1 = a then (a, v) else x) else E ++ [(a, v)]
def dlE (a : Ad) (E : List (Ad × Value)) : List (Ad × Value) := E.filter (fun x => !decide (x.1 = a))
theorem lk_none {a : Ad} : ∀ {E : List (Ad × Value)}, lk a E = none ↔ ∀ x ∈ E, x.1 ≠ a
  | [] => by simp [lk]
  | x :: r => by
    unfold lk
    by_cases hx : x.1 = a
    · simp [hx]
    · simp only [hx, if_false, List.mem_cons, forall_eq_or_imp]
      rw [lk_none (E := r)]
      exact ⟨fun h => ⟨hx, h⟩, fun h => h.2⟩
theorem ix_some {a : Ad} : ∀ {E : List (Ad × Value)} {i j : Nat} {v : Value}, ix a E i = some (j, v) → i ≤ j ∧ E[j - i]? = some (a, v)
  | [], _, _, _, h => by simp [ix] at h
  | x :: r, i, j, v, h => by
    unfold ix at h
    by_cases hx : x.1 = a
    · simp only [hx, if_true, Option.some.injEq, Prod.mk.injEq] at h
      obtain ⟨rfl, rfl⟩ := h
      simp [← hx]
    · simp only [hx, if_false] at h
      obtain ⟨h1, h2⟩ := ix_some h
      refine ⟨by omega, ?_⟩
      obtain ⟨d, rfl⟩ : ∃ d, j = i + 1 + d := ⟨j - (i + 1), by omega⟩
      rw [show i + 1 + d - i = d + 1 by omega]
      rw [show i + 1 + d - (i + 1) = d by omega] at h2
      simpa using h2
theorem map_at_nodup {E : List (Ad × Value)} {a : Ad} {v v' : Value} {j : Nat} (hn : (E.map (·.1)).Nodup) (hj : E[j]? = some (a, v')) :
    E.map (fun x => if x.1 = a then (a, v) else x) = E.set j (a, v) := by
  induction E generalizing j with
  | nil => simp at hj
  | cons x r ih =>
    simp only [List.map_cons, List.nodup_cons] at hn
    cases j with
    | zero =>
      simp only [List.getElem?_cons_zero, Option.some.injEq] at hj
      subst hj
      simp only [List.map_cons, if_true, List.set_cons_zero, List.cons.injEq, true_and]
      conv => rhs; rw [← List.map_id r]
      refine List.map_congr_left fun y hy => ?_
      rw [if_neg (fun e => hn.1 (List.mem_map.2 ⟨y, hy, e⟩))]; rfl
    | succ j =>
      simp only [List.getElem?_cons_succ] at hj
      have hx : ¬ x.1 = a := fun e => hn.1 (List.mem_map.2 ⟨_, List.mem_of_getElem? hj, e.symm⟩)
      simp only [List.map_cons, hx, if_false, List.set_cons_succ, ih hn.2 hj]
theorem filter_at_nodup {E : List (Ad × Value)} {a : Ad} {v' : Value} {j : Nat} (hn : (E.map (·.1)).Nodup) (hj : E[j]? = some (a, v')) :
    dlE a E = E.eraseIdx j := by
  induction E generalizing j with
  | nil => simp at hj
  | cons x r ih =>
    simp only [List.map_cons, List.nodup_cons] at hn
    cases j with
    | zero =>
      simp only [List.getElem?_cons_zero, Option.some.injEq] at hj
      subst hj
      simp only [dlE, List.filter_cons, decide_true, Bool.not_true, Bool.false_eq_true, if_false, List.eraseIdx_cons_zero]
      refine List.filter_eq_self.2 fun y hy => ?_
      have : ¬ y.1 = a := fun e => hn.1 (List.mem_map.2 ⟨y, hy, e⟩)
      simp [this]
    | succ j =>
      simp only [List.getElem?_cons_succ] at hj
      have hx : ¬ x.1 = a := fun e => hn.1 (List.mem_map.2 ⟨_, List.mem_of_getElem? hj, e.symm⟩)
      have := ih hn.2 hj
      simp only [dlE, List.filter_cons, hx, decide_false, Bool.not_false, if_true, List.eraseIdx_cons_succ]
      rw [← this]; rfl
theorem kv_set {es : Array MapEntry} {E : List (Ad × Value)} (he : es.toList.map kv = E.map kvE) (j : Nat) (a : Ad) (v : Value) :
    (es.modify j fun e => { e with key := adV a, val := v }).toList.map kv = (E.set j (a, v)).map kvE := by
  apply List.ext_getElem?
  intro i
  have hi := congrArg (fun l => l[i]?) he
  simp only [List.getElem?_map, Array.getElem?_toList, Array.getElem?_modify, List.getElem?_set] at hi ⊢
  by_cases hij : j = i
  · subst hij
    have hlen : es.size = E.length := by have := congrArg List.length he; simpa using this
    cases hj : es[j]? with
    | none =>
      have : ¬ j < E.length := by rw [← hlen]; exact fun h => by simp [h] at hj
      simp [this]
    | some e =>
      have : j < E.length := by rw [← hlen]; exact (Array.getElem?_eq_some_iff.1 hj).1
      simp [this, kv, kvE]
  · simp [hij, hi]
theorem map_erase {α β : Type} (f : α → β) : ∀ (l : List α) (j : Nat), (l.eraseIdx j).map f = (l.map f).eraseIdx j
  | [], _ => rfl
  | _ :: _, 0 => rfl
  | _ :: r, j + 1 => by simp [map_erase f r j]
theorem setObj_heap {w : World} {b : Nat} {es : Array MapEntry} {clock : Nat} (hb : w.heap[b]? = some (.map es clock)) (o : Obj) :
    ({ w with heap := w.heap.setIfInBounds b o } : World).heap[b]? = some o ∧ w.grownBy { w with heap := w.heap.setIfInBounds b o } (some b) :=
  ⟨(heap_set hb).1, ⟨rfl, rfl, rfl, by simp, fun k _ hk => (heap_set hb).2 k (fun e => hk (by rw [e]))⟩⟩
/-- 'm[k] = v' -/
theorem MapIs.update {P : Program} {t k e : TypeId} (K : AdrKey P k) (ht : P.underlying t = some (.map k e)) {w : World} {b : Nat} {E : List (Ad × Value)} (h : MapIs w b E) (a : Ad) (v : Value) :
    ∃ w', (Instr.mapUpdate t (.map (some b)) (adV a) v).run P w = .ok () w' ∧ MapIs w' b (upE a v E) ∧ w.grownBy w' (some b) ∧ w'.drawn = w.drawn ∧ w'.heap.size = w.heap.size := by
  have hnd := h.nodup
  obtain ⟨es, clock, hb, hs, he⟩ := h
  simp only [Instr.mapUpdate, Sem.run_bind, run_underlying ht, Result.andThen_ok, MapKept.run_getObj_map hb, K.check, findKey_ad K w a _ E he]
  have hl := ix_lk a E 0
  cases hx : ix a E 0 with
  | none =>
    rw [hx] at hl
    have hno := lk_none.1 hl.symm
    refine ⟨_, by rw [MapKept.run_setObj_map _ hb], ?_, (setObj_heap hb _).2, rfl, by simp⟩
    refine ⟨_, _, (setObj_heap hb _).1, stamped_push hs ?_, ?_⟩
    · intro x hx'
      have h1 : kv x ∈ E.map kvE := he ▸ List.mem_map.2 ⟨x, hx', rfl⟩
      obtain ⟨y, hy, hyx⟩ := List.mem_map.1 h1
      simp only [kv, kvE, Prod.mk.injEq] at hyx
      exact fun e => hno y hy (adV_inj (hyx.1.trans e))
    · simp [upE, ← hl, he, kv, kvE]
  | some p =>
    obtain ⟨j, v0⟩ := p
    rw [hx] at hl
    have hj := (ix_some hx).2
    rw [Nat.sub_zero] at hj
    have hes : ∃ e0, es[j]? = some e0 ∧ e0.key = adV a := by
      have h1 := congrArg (fun l => l[j]?) he
      simp only [List.getElem?_map, Array.getElem?_toList, hj, Option.map_some, Option.map_eq_some_iff] at h1
      obtain ⟨e0, h2, h3⟩ := h1
      exact ⟨e0, h2, by simp only [kv, kvE, Prod.mk.injEq] at h3; exact h3.1⟩
    obtain ⟨e0, h2, h3⟩ := hes
    simp only [Sem.run_bind, h2, Option.map_some, Option.getD_some, h3, stays_ad, Result.andThen_ok]
    refine ⟨_, by rw [MapKept.run_setObj_map _ hb], ?_, (setObj_heap hb _).2, rfl, by simp⟩
    refine ⟨_, _, (setObj_heap hb _).1, stamped_modify hs _ _ (fun _ _ => rfl) (fun e' _ he' => by rw [h2] at he'; cases he'; exact h3.symm), ?_⟩
    rw [kv_set he j a v, upE, ← hl]
    simp [map_at_nodup hnd hj]
/-- 'delete(m, k)' -/
theorem MapIs.delete {P : Program} {t k e ty : TypeId} (K : AdrKey P k) (ht : P.underlying t = some (.map k e)) {w : World} {b : Nat} {E : List (Ad × Value)} (h : MapIs w b E) (a : Ad) (tk : TypeId) :
    ∃ w', (Builtin.delete_ #[t, tk] ty #[.map (some b), adV a]).run P w = .ok (.tuple #[]) w' ∧ MapIs w' b (dlE a E) ∧ w.grownBy w' (some b) ∧ w'.drawn = w.drawn ∧ w'.heap.size = w.heap.size := by
  have hnd := h.nodup
  obtain ⟨es, clock, hb, hs, he⟩ := h
  simp only [Builtin.delete_]
  simp only [List.getElem?_toArray, List.getElem?_cons_zero, List.getElem?_cons_succ, Sem.run_bind, run_underlying ht, Result.andThen_ok, MapKept.run_getObj_map hb, K.check, findKey_ad K w a _ E he]
  have hl := ix_lk a E 0
  cases hx : ix a E 0 with
  | none =>
    rw [hx] at hl
    have hno := lk_none.1 hl.symm
    refine ⟨_, by simp only [Sem.run_bind, MapKept.run_setObj_map _ hb, Result.andThen_ok, Sem.run_pure]; rfl, ?_, (setObj_heap hb _).2, rfl, by simp⟩
    refine ⟨_, _, (setObj_heap hb _).1, hs, ?_⟩
    rw [he]
    congr 1
    exact (List.filter_eq_self.2 fun y hy => by simp [hno y hy]).symm
  | some p =>
    obtain ⟨j, v0⟩ := p
    have hj := (ix_some hx).2
    rw [Nat.sub_zero] at hj
    refine ⟨_, by simp only [Sem.run_bind, MapKept.run_setObj_map _ hb, Result.andThen_ok, Sem.run_pure]; rfl, ?_, (setObj_heap hb _).2, rfl, by simp⟩
    refine ⟨_, _, (setObj_heap hb _).1, stamped_erase hs j, ?_⟩
    rw [filter_at_nodup hnd hj]
    have hlen : es.size = E.length := by have := congrArg List.length he; simpa using this
    have hjl : j < es.size := by rw [hlen]; exact (List.getElem?_eq_some_iff.1 hj).1
    simp only [Array.eraseIdxIfInBounds, hjl, dif_pos, Array.toList_eraseIdx, map_erase, he]
theorem MapIs.len {P : Program} {t k e ty : TypeId} (ht : P.underlying t = some (.map k e)) {w : World} {b : Nat} {E : List (Ad × Value)} (h : MapIs w b E) :
    (Builtin.len_ #[t] ty #[.map (some b)]).run P w = .ok (.int .i64 E.length) w := by
  obtain ⟨es, clock, hb, hs, he⟩ := h
  have hlen : es.size = E.length := by have := congrArg List.length he; simpa using this
  simp only [Builtin.len_]
  simp only [List.getElem?_toArray, List.getElem?_cons_zero, Sem.run_bind, run_underlying ht, Result.andThen_ok, MapKept.run_getObj_map hb, Sem.run_pure]
  simp [goInt, hlen]
end Go.Proofs.Ytagfgkcipomopaa
