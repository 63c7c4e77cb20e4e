import Derived.WalkKit
import Derived.Sort.Grow
import Derived.Lib.Hide
import Derived.Deep.Draws
import Derived.Test.YtdoeejhdenifpaaGreatDoorProg
import Derived.WalkSpells
import Derived.WalkLawsBesides
import Derived.BigQuiet
import Derived.Deep.QuietTactic
import Derived.StillTailTactics
import Derived.Deep.RegionWith
import Derived.MapKept
import GoSem.Instr.MapEntry
import GoSem.Builtin.Delete
import Derived.Maps.RangeRun
import Derived.Maps.RangeWalk
import Derived.Laws.Externs
import Derived.Laws.StructEq
import Derived.Sort.LotA
import Derived.Deep.DeepAppendWide
import Derived.Lib.SlicesCompact
import Derived.Lib.SliceRun
import Derived.Laws.IdiomCopy
import Derived.Deep.RegionHeld
import Derived.Laws.FloatArith
namespace Go.Proofs.YtdoeejhdenifpaaGreatDoor
open Go.RowKit Go.Sort
def Gr (w w' : World) : Prop := ∃ q os, w' = grow (w.drewN q) os
theorem Gr.refl (w : World) : Gr w w := ⟨0, #[], by rw [grow_empty]; rfl⟩
theorem Gr.trans {a b c : World} (h : Gr a b) (k : Gr b c) : Gr a c := by
 obtain ⟨q, os, rfl⟩ := h
 obtain ⟨q', os', rfl⟩ := k
 exact ⟨q + q', os ++ os', by show grow (grow ((a.drewN q).drewN q') os) os' = _; rw [grow_grow, World.drewN_drewN]⟩
theorem Gr.alloc {a b : World} (h : Gr a b) (o : Obj) : Gr a (b.alloc o) := h.trans ⟨0, #[o], by rw [alloc_eq_grow]; rfl⟩
theorem Gr.drew {a b : World} (h : Gr a b) : Gr a b.drew := h.trans ⟨1, #[], by rw [grow_empty]; rfl⟩
theorem Gr.drewN {a b : World} (h : Gr a b) (n : Nat) : Gr a (b.drewN n) := h.trans ⟨n, #[], by rw [grow_empty]⟩
theorem Gr.below {a b : World} (h : Gr a b) : Below a.heap.size a b := by
 obtain ⟨q, os, rfl⟩ := h
 exact ⟨rfl, rfl, rfl, by simp [World.drewN], fun k hk => heap_grow_old _ _ hk⟩
def Xt (w w' : World) : Prop := Below w.heap.size w w'
theorem Xt.refl (w : World) : Xt w w := Below.refl _ _
theorem Xt.trans {a b c : World} (h : Xt a b) (k : Xt b c) : Xt a c := Below.trans h (Below.mono k h.size)
theorem Gr.xt {a b : World} (h : Gr a b) : Xt a b := h.below
theorem Xt.alloc {a b : World} (h : Xt a b) (o : Obj) : Xt a (b.alloc o) := Below.alloc h h.size o
theorem Xt.drew {a b : World} (h : Xt a b) : Xt a b.drew := Below.drew h
theorem Xt.cells {a b : World} (h : Xt a b) : (∀ k o, k < a.heap.size → b.cell? ⟨k, o, none⟩ = a.cell? ⟨k, o, none⟩) ∧ (∀ k o, k < a.heap.size → b.frozen? ⟨k, o, none⟩ = a.frozen? ⟨k, o, none⟩) :=
 ⟨fun k _ hk => Below.cell h (p := ⟨k, _, none⟩) hk, fun k _ hk => Below.frozen h (p := ⟨k, _, none⟩) hk⟩
theorem Xt.sz {a b : World} (h : Xt a b) : a.heap.size ≤ b.heap.size := Below.size h
end Go.Proofs.YtdoeejhdenifpaaGreatDoor
namespace Go.Proofs.YtdoeejhdenifpaaGreatDoor
open Go.RowKit Go.Sort
theorem new2a (w : World) (a b : Value) (T : TypeId) {k : Nat} (hk : k = w.heap.size) : (w.alloc (.cells #[a, b] T)).drew.cell? ⟨k, 0, none⟩ = some a := by
 subst hk; simp
theorem new2b (w : World) (a b : Value) (T : TypeId) {k : Nat} (hk : k = w.heap.size) : (w.alloc (.cells #[a, b] T)).drew.cell? ⟨k, 1, none⟩ = some b := by
 subst hk; simp
def cmpI (a b : Int) : Int := if a < b then -1 else if b < a then 1 else 0
set_option maxHeartbeats 400000 in
theorem compare_any (a b : Int) (w : World) :
    Calls Tryz.prog 123 #[.int .i64 a, .int .i64 b] w fun e w' => e = .returned (.int .i64 (cmpI a b)) ∧ w = w' := by
 by_cases h1 : a < b
 · have hc : cmpI a b = -1 := by simp [cmpI, h1]
   rw [hc]
   go_enter Tryz.func123, Tryz.ntmps123
   go_wp2
   go_ret
   exact ⟨rfl, rfl⟩
 · by_cases h2 : b < a
   · have hc : cmpI a b = 1 := by simp [cmpI, h1, h2]
     rw [hc]
     go_enter Tryz.func123, Tryz.ntmps123
     go_wp2
     go_ret
     exact ⟨rfl, rfl⟩
   · have hc : cmpI a b = 0 := by simp [cmpI, h1, h2]
     rw [hc]
     go_enter Tryz.func123, Tryz.ntmps123
     go_wp2
     go_ret
     exact ⟨rfl, rfl⟩
def validB (c r : Int) : Bool := decide (1 ≤ c) && decide (c ≤ 256) && decide (1 ≤ r) && decide (r ≤ 4096)
set_option maxHeartbeats 400000 in
theorem valid_any (c r : Int) (w : World) :
    Calls Tryz.prog 63 #[.agg #[.int .i64 c, .int .i64 r]] w fun e w' => e = .returned (.bool (validB c r)) ∧ w' = w.alloc (.cells #[.int .i64 c, .int .i64 r] 24) := by
 unfold validB
 go_enter Tryz.func63, Tryz.ntmps63
 go_wp2
 all_goals (go_ret; refine ⟨?_, rfl⟩; congr 2; simp [*])
 all_goals omega
def validA (a b c d : Int) : Bool := validB a b && validB c d && decide (a ≤ c) && decide (b ≤ d)
set_option maxHeartbeats 400000 in
theorem validArea_any (a b c d : Int) (w : World) :
    Calls Tryz.prog 40 #[.agg #[.int .i64 a, .int .i64 b, .int .i64 c, .int .i64 d]] w fun e w' => e = .returned (.bool (validA a b c d)) ∧ Gr w w' := by
 unfold validA
 cases h1 : validB a b <;> cases h2 : validB c d
 all_goals
  go_enter Tryz.func40, Tryz.ntmps40
  go_wp2_with (go_at_call 63; refine (valid_any _ _ _).mono ?_; rintro e w' ⟨rfl, rfl⟩)
  all_goals (go_ret; refine ⟨by congr 2; try (simp [*]; try omega), by repeat (first | exact Gr.refl _ | refine Gr.alloc ?_ _)⟩)
def inB (a b c d x y : Int) : Bool := validA a b c d && decide (a ≤ x) && decide (x ≤ c) && decide (b ≤ y) && decide (y ≤ d)
theorem or2_0 (b : Int) (k : Nat) (w : World) (h0 : w.cell? ⟨k, 0, none⟩ = some (.int .i64 0)) (h1 : w.cell? ⟨k, 1, none⟩ = some (.int .i64 b)) :
    Calls Tryz.prog 153 #[.slice (some ⟨k, 0, none⟩) 2 2] w fun e w' => e = .returned (.int .i64 b) ∧ w = w' := by
 by_cases hb : b = 0
 · subst hb
   go_enter Tryz.func153, Tryz.ntmps153
   go_wp2
   refine wp_loop_rounds 3 ?_
   rw [rounds_succ]
   go_wp2
   rw [rounds_succ]
   go_wp2
   rw [rounds_succ]
   go_wp2
   go_ret
   exact ⟨rfl, rfl⟩
 · have hb' : (b == 0) = false := by simpa using hb
   have hb2 : (b != 0) = true := by simpa using hb
   go_enter Tryz.func153, Tryz.ntmps153
   go_wp2
   refine wp_loop_rounds 3 ?_
   rw [rounds_succ]
   go_wp2
   rw [rounds_succ]
   go_wp2
   go_ret
   exact ⟨rfl, rfl⟩
theorem or2_1 (a b : Int) (k : Nat) (w : World) (h0 : w.cell? ⟨k, 0, none⟩ = some (.int .i64 a)) (_ : w.cell? ⟨k, 1, none⟩ = some (.int .i64 b)) (ha : a ≠ 0) :
    Calls Tryz.prog 153 #[.slice (some ⟨k, 0, none⟩) 2 2] w fun e w' => e = .returned (.int .i64 a) ∧ w = w' := by
 have hb2 : (a != 0) = true := by simpa using ha
 go_enter Tryz.func153, Tryz.ntmps153
 go_wp2
 refine wp_loop_rounds 1 ?_
 rw [rounds_succ]
 go_wp2
 go_ret
 exact ⟨rfl, rfl⟩
def orI (a b : Int) : Int := if a = 0 then b else a
theorem or2_any (a b : Int) (k : Nat) (w : World) (h0 : w.cell? ⟨k, 0, none⟩ = some (.int .i64 a)) (h1 : w.cell? ⟨k, 1, none⟩ = some (.int .i64 b)) :
    Calls Tryz.prog 153 #[.slice (some ⟨k, 0, none⟩) 2 2] w fun e w' => e = .returned (.int .i64 (orI a b)) ∧ w = w' := by
 by_cases ha : a = 0
 · subst ha; exact or2_0 b k w h0 h1
 · rw [show orI a b = a from if_neg ha]; exact or2_1 a b k w h0 h1 ha
set_option maxHeartbeats 400000 in
set_option maxRecDepth 100000 in
theorem order_any (a b x y : Int) (w : World) :
    Calls Tryz.prog 119 #[.agg #[.int .i64 a, .int .i64 b], .agg #[.int .i64 x, .int .i64 y]] w fun e w' => e = .returned (.int .i64 (orI (cmpI b y) (cmpI a x))) ∧ Gr w w' := by
 go_enter Tryz.func119, Tryz.ntmps119
 go_wp2_with fail
 refine wp_region_still_tail 10 (by kernel_rfl) (by kernel_rfl) ?_
 change wpStill _ _ (World.drew _) _ _ _
 simp only [List.take_succ_cons, List.take_zero, List.drop_succ_cons, List.drop_zero]
 refine wpStill_step (fun K hK => ?_)
 go_simp
 refine hK _ ?_
 clear hK K
 still_step
 still_step
 still_step
 still_call ((compare_any _ _ _).mono fun _ _ ⟨h, hw⟩ => ⟨h, hw.symm⟩)
 still_step
 still_step
 still_step
 still_step
 still_call ((compare_any _ _ _).mono fun _ _ ⟨h, hw⟩ => ⟨h, hw.symm⟩)
 refine wpStill_nil ?_
 change wpList _ _ _ _ _ (World.drew _)
 go_wp2_with (go_at_call 153; refine (or2_any (cmpI b y) (cmpI a x) (w.heap.size + 1 + 1) _ (new2a _ _ _ _ (by simp)) (new2b _ _ _ _ (by simp))).mono ?_; rintro e w' ⟨rfl, rfl⟩)
 go_ret
 exact ⟨rfl, (((Gr.refl _).alloc _).alloc _).drew.alloc _⟩
end Go.Proofs.YtdoeejhdenifpaaGreatDoor
namespace Go.Proofs.YtdoeejhdenifpaaGreatDoor
open Go.RowKit Go.Sort Go.MapKept
abbrev Ad := Int × Int
abbrev Ar := Ad × Ad
def adC (a : Ad) : List Value := [.int .i64 a.1, .int .i64 a.2]
def adV (a : Ad) : Value := .agg #[.int .i64 a.1, .int .i64 a.2]
theorem adV_inj {a b : Ad} (h : adV a = adV b) : a = b := by
 obtain ⟨a1, a2⟩ := a; obtain ⟨b1, b2⟩ := b
 simp [adV] at h; obtain ⟨rfl, rfl⟩ := h; rfl
def SlOf {α : Type} (w : World) (enc : α → List Value) (sz : Nat) (v : Value) (l : List α) : Prop :=
 ∃ a cap, v = .slice a l.length cap ∧ l.length ≤ cap ∧ cap ≤ 9223372036854775807 ∧ (l ≠ [] → ∃ b off, a = some ⟨b, off, none⟩ ∧ ∀ k x, l[k]? = some x → ∀ i u, (enc x)[i]? = some u → w.cell? ⟨b, off + k * sz + i, none⟩ = some u)
theorem SlOf.nil {α : Type} (w : World) (enc : α → List Value) (sz : Nat) (a : Option Addr) (cap : Nat) (hc : cap ≤ 9223372036854775807) : SlOf w enc sz (.slice a 0 cap) ([] : List α) := ⟨a, cap, rfl, Nat.zero_le _, hc, fun h => (h rfl).elim⟩
def slIn (F : Nat → Prop) (v : Value) : Prop := ∀ a n c, v = .slice (some a) n c → F a.block
theorem SlOf.keep {α : Type} {w w' : World} {enc : α → List Value} {sz : Nat} {v : Value} {l : List α} {F : Nat → Prop} (h : SlOf w enc sz v l) (hF : slIn F v) (hk : ∀ b, F b → w'.heap[b]? = w.heap[b]?) : SlOf w' enc sz v l := by
 obtain ⟨a, cap, rfl, q1, q2, h2⟩ := h
 refine ⟨a, cap, rfl, q1, q2, fun hl => ?_⟩
 obtain ⟨b, off, rfl, hc⟩ := h2 hl
 have hb : w'.heap[b]? = w.heap[b]? := hk b (hF _ _ _ rfl)
 exact ⟨b, off, rfl, fun k x hx i u hu => (World.cell?_of_block (w := w) (a := ⟨b, off + k * sz + i, none⟩) hb).trans (hc k x hx i u hu)⟩
theorem box1 (w : World) (x y : Int) (T : TypeId) : ∃ w0, w.alloc (.cells #[.int .i64 x, .int .i64 y] T) = w0 ∧ Below w.heap.size w w0 ∧
    w0.heap.size = w.heap.size + 1 ∧ w0.cell? ⟨w.heap.size, 0, none⟩ = some (.int .i64 x) ∧ w0.cell? ⟨w.heap.size, 1, none⟩ = some (.int .i64 y) := by
 refine ⟨_, rfl, (Below.refl _ _).alloc (Nat.le_refl _) _, by simp, ?_, ?_⟩ <;> simp
structure AdrKey (P : Program) (k : TypeId) : Prop where
 und : ∃ fs, P.underlying k = some (.struct fs)
 check : ∀ (w : World) (em : Bool) (a : Ad), (Instr.checkKey em 10000 k (adV a)).run P w = .ok () w
 eq : ∀ (w : World) (a b : Ad), (Op.equal k (adV a) (adV b)).run P w = .ok (decide (a = b)) w
theorem stays_ad {P : Program} (w : World) (a : Ad) : (Instr.keyThatStays (adV a) (adV a)).run P w = .ok (adV a) w := by
 simp [Instr.keyThatStays, Instr.sameBits, adV]
def lk (a : Ad) : List (Ad × Value) → Option Value
 | [] => none
 | x :: r => if x.1 = a then some x.2 else lk a r
def ix (a : Ad) : List (Ad × Value) → Nat → Option (Nat × Value)
 | [], _ => none
 | x :: r, i => if x.1 = a then some (i, x.2) else ix a r (i + 1)
theorem ix_lk (a : Ad) : ∀ (E : List (Ad × Value)) (i : Nat), (ix a E i).map (·.2) = lk a E
 | [], _ => rfl
 | x :: r, i => by unfold ix lk; split <;> simp [ix_lk a r (i + 1)]
def kv (e : MapEntry) : Value × Value := (e.key, e.val)
def kvE (x : Ad × Value) : Value × Value := (adV x.1, x.2)
theorem find_ad {P : Program} {k : TypeId} (K : AdrKey P k) (w : World) (a : Ad) : ∀ (es : List MapEntry) (E : List (Ad × Value)) (i : Nat), es.map kv = E.map kvE → (Instr.findAsking k (adV a) es i).run P w = .ok (ix a E i) w
 | [], [], i, _ => rfl
 | [], _ :: _, _, h => by simp at h
 | _ :: _, [], _, h => by simp at h
 | e :: es, x :: E, i, h => by
  simp only [List.map_cons, List.cons.injEq, kv, kvE, Prod.mk.injEq] at h
  obtain ⟨⟨h1, h2⟩, h3⟩ := h
  have hr := find_ad K w a es E (i + 1) (by simpa [kv, kvE] using h3)
  unfold Instr.findAsking ix
  rw [h1]
  simp only [Sem.run_bind, K.eq, Result.andThen_ok]
  by_cases hx : x.1 = a
  · simp [hx, h2]
  · have : ¬ a = x.1 := fun e => hx e.symm
    simp [hx, this, hr]
theorem findKey_ad {P : Program} {k : TypeId} (K : AdrKey P k) (w : World) (a : Ad) (es : List MapEntry) (E : List (Ad × Value)) (h : es.map kv = E.map kvE) : (Instr.findKey k (adV a) es).run P w = .ok (ix a E 0) w := by
 obtain ⟨fs, hu⟩ := K.und
 unfold Instr.findKey
 simp only [Sem.run_bind, run_underlying hu, Result.andThen_ok]
 cases es with
 | nil =>
  cases E with
  | nil => simp [Instr.findNow, ix]
  | cons _ _ => simp at h
 | cons e es => simp [Instr.findNow, Instr.sameNow, find_ad K w a _ E 0 h]
def MapIs (w : World) (b : Nat) (E : List (Ad × Value)) : Prop :=
 ∃ es clock, w.heap[b]? = some (.map es clock) ∧ Stamped es clock ∧ es.toList.map kv = E.map kvE
theorem MapIs.nodup {w : World} {b : Nat} {E : List (Ad × Value)} (h : MapIs w b E) : (E.map (·.1)).Nodup := by
 obtain ⟨es, clock, _, hs, he⟩ := h
 have h1 : es.toList.map (·.key) = (E.map (·.1)).map adV := by
  have := congrArg (List.map (·.1)) he
  simpa [kv, kvE, Function.comp_def] using this
 have h2 := hs.2.2
 rw [h1] at h2
 unfold List.Nodup at h2 ⊢
 rw [List.pairwise_map] at h2
 exact h2.imp fun h e => h (by rw [e])
theorem MapIs.of_heap {w w' : World} {b : Nat} {E : List (Ad × Value)} (h : MapIs w b E) (hb : w'.heap[b]? = w.heap[b]?) : MapIs w' b E := by
 obtain ⟨es, clock, h1, h2⟩ := h
 exact ⟨es, clock, hb.trans h1, h2⟩
theorem MapIs.lt {w : World} {b : Nat} {E : List (Ad × Value)} (h : MapIs w b E) : b < w.heap.size := by
 obtain ⟨es, clock, h1, h2⟩ := h
 exact (Array.getElem?_eq_some_iff.1 h1).1
@[go_sem] theorem MapIs_alloc (w : World) (o : Obj) (b : Nat) (E : List (Ad × Value)) (hb : b < w.heap.size) : MapIs (w.alloc o) b E = MapIs w b E := by
 have := Below.heap_alloc w o b hb
 exact propext ⟨fun h => h.of_heap this.symm, fun h => h.of_heap this⟩
@[go_sem] theorem MapIs_drew (w : World) (b : Nat) (E : List (Ad × Value)) : MapIs w.drew b E = MapIs w b E := rfl
@[go_sem] theorem MapIs_drewN (w : World) (n b : Nat) (E : List (Ad × Value)) : MapIs (w.drewN n) b E = MapIs w b E := rfl
theorem setCell_map (w : World) (a : Addr) (v : Value) (b : Nat) (es : Array MapEntry) (c : Nat) : (w.setCell a v).heap[b]? = some (.map es c) ↔ w.heap[b]? = some (.map es c) := by
 simp only [World.setCell, Array.getElem?_modify]
 by_cases h : a.block = b
 · subst h
   simp only [if_true]
   cases hh : w.heap[a.block]? with
   | none => simp
   | some o => cases o <;> simp
 · simp [h]
@[go_sem] theorem MapIs_setCell (w : World) (a : Addr) (v : Value) (b : Nat) (E : List (Ad × Value)) : MapIs (w.setCell a v) b E = MapIs w b E := by
 refine propext ⟨fun ⟨es, c, h1, h2⟩ => ⟨es, c, (setCell_map ..).1 h1, h2⟩, fun ⟨es, c, h1, h2⟩ => ⟨es, c, (setCell_map ..).2 h1, h2⟩⟩
theorem MapIs.made (w : World) : MapIs (w.alloc (.map #[] 0)) w.heap.size [] :=
 ⟨#[], 0, by simp [← World.alloc_eq], stamped_empty 0, rfl⟩
theorem MapIs.lookup {P : Program} {t k e : TypeId} (K : AdrKey P k) (ht : P.underlying t = some (.map k e)) {z : Value} (hz : ∀ w, (zeroValue e).run P w = .ok z w) {w : World} {b : Nat} {E : List (Ad × Value)} (h : MapIs w b E) (a : Ad) :
    (Instr.lookup t (.map (some b)) (adV a) false).run P w = .ok ((lk a E).getD z) w := by
 obtain ⟨es, clock, hb, hs, he⟩ := h
 simp only [Instr.lookup, Sem.run_bind, run_underlying ht, Result.andThen_ok, MapKept.run_getObj_map hb, K.check, findKey_ad K w a _ E he, Sem.run_pure]
 rw [← ix_lk a E 0]
 cases ix a E 0 <;> simp [hz]
theorem MapIs.lookup_ok {P : Program} {t k e : TypeId} (K : AdrKey P k) (ht : P.underlying t = some (.map k e)) {z : Value} (hz : ∀ w, (zeroValue e).run P w = .ok z w) {w : World} {b : Nat} {E : List (Ad × Value)} (h : MapIs w b E) (a : Ad) :
    (Instr.lookup t (.map (some b)) (adV a) true).run P w = .ok (.tuple #[(lk a E).getD z, .bool (lk a E).isSome]) w := by
 obtain ⟨es, clock, hb, hs, he⟩ := h
 simp only [Instr.lookup, Sem.run_bind, run_underlying ht, Result.andThen_ok, MapKept.run_getObj_map hb, K.check, findKey_ad K w a _ E he, Sem.run_pure]
 rw [← ix_lk a E 0]
 cases ix a E 0 <;> simp [hz]
def upE (a : Ad) (v : Value) (E : List (Ad × Value)) : List (Ad × Value) :=
 if (lk a E).isSome then E.map (fun x => if x.1 = a then (a, v) else x) else E ++ [(a, v)]
def dlE (a : Ad) (E : List (Ad × Value)) : List (Ad × Value) := E.filter (fun x => !decide (x.1 = a))
theorem lk_none {a : Ad} : ∀ {E : List (Ad × Value)}, lk a E = none ↔ ∀ x ∈ E, x.1 ≠ a
 | [] => by simp [lk]
 | x :: r => by
  unfold lk
  by_cases hx : x.1 = a
  · simp [hx]
  · simp only [hx, if_false, List.mem_cons, forall_eq_or_imp]
    rw [lk_none (E := r)]
    exact ⟨fun h => ⟨hx, h⟩, fun h => h.2⟩
theorem ix_some {a : Ad} : ∀ {E : List (Ad × Value)} {i j : Nat} {v : Value}, ix a E i = some (j, v) → i ≤ j ∧ E[j - i]? = some (a, v)
 | [], _, _, _, h => by simp [ix] at h
 | x :: r, i, j, v, h => by
  unfold ix at h
  by_cases hx : x.1 = a
  · simp only [hx, if_true, Option.some.injEq, Prod.mk.injEq] at h
    obtain ⟨rfl, rfl⟩ := h
    simp [← hx]
  · simp only [hx, if_false] at h
    obtain ⟨h1, h2⟩ := ix_some h
    refine ⟨by omega, ?_⟩
    obtain ⟨d, rfl⟩ : ∃ d, j = i + 1 + d := ⟨j - (i + 1), by omega⟩
    rw [show i + 1 + d - i = d + 1 by omega]
    rw [show i + 1 + d - (i + 1) = d by omega] at h2
    simpa using h2
theorem map_at_nodup {E : List (Ad × Value)} {a : Ad} {v v' : Value} {j : Nat} (hn : (E.map (·.1)).Nodup) (hj : E[j]? = some (a, v')) :
    E.map (fun x => if x.1 = a then (a, v) else x) = E.set j (a, v) := by
 induction E generalizing j with
 | nil => simp at hj
 | cons x r ih =>
  simp only [List.map_cons, List.nodup_cons] at hn
  cases j with
  | zero =>
   simp only [List.getElem?_cons_zero, Option.some.injEq] at hj
   subst hj
   simp only [List.map_cons, if_true, List.set_cons_zero, List.cons.injEq, true_and]
   conv => rhs; rw [← List.map_id r]
   refine List.map_congr_left fun y hy => ?_
   rw [if_neg (fun e => hn.1 (List.mem_map.2 ⟨y, hy, e⟩))]; rfl
  | succ j =>
   simp only [List.getElem?_cons_succ] at hj
   have hx : ¬ x.1 = a := fun e => hn.1 (List.mem_map.2 ⟨_, List.mem_of_getElem? hj, e.symm⟩)
   simp only [List.map_cons, hx, if_false, List.set_cons_succ, ih hn.2 hj]
theorem filter_at_nodup {E : List (Ad × Value)} {a : Ad} {v' : Value} {j : Nat} (hn : (E.map (·.1)).Nodup) (hj : E[j]? = some (a, v')) :
    dlE a E = E.eraseIdx j := by
 induction E generalizing j with
 | nil => simp at hj
 | cons x r ih =>
  simp only [List.map_cons, List.nodup_cons] at hn
  cases j with
  | zero =>
   simp only [List.getElem?_cons_zero, Option.some.injEq] at hj
   subst hj
   simp only [dlE, List.filter_cons, decide_true, Bool.not_true, Bool.false_eq_true, if_false, List.eraseIdx_cons_zero]
   refine List.filter_eq_self.2 fun y hy => ?_
   have : ¬ y.1 = a := fun e => hn.1 (List.mem_map.2 ⟨y, hy, e⟩)
   simp [this]
  | succ j =>
   simp only [List.getElem?_cons_succ] at hj
   have hx : ¬ x.1 = a := fun e => hn.1 (List.mem_map.2 ⟨_, List.mem_of_getElem? hj, e.symm⟩)
   have := ih hn.2 hj
   simp only [dlE, List.filter_cons, hx, decide_false, Bool.not_false, if_true, List.eraseIdx_cons_succ]
   rw [← this]; rfl
theorem kv_set {es : Array MapEntry} {E : List (Ad × Value)} (he : es.toList.map kv = E.map kvE) (j : Nat) (a : Ad) (v : Value) :
    (es.modify j fun e => { e with key := adV a, val := v }).toList.map kv = (E.set j (a, v)).map kvE := by
 apply List.ext_getElem?
 intro i
 have hi := congrArg (fun l => l[i]?) he
 simp only [List.getElem?_map, Array.getElem?_toList, Array.getElem?_modify, List.getElem?_set] at hi ⊢
 by_cases hij : j = i
 · subst hij
   have hlen : es.size = E.length := by have := congrArg List.length he; simpa using this
   cases hj : es[j]? with
   | none =>
    have : ¬ j < E.length := by rw [← hlen]; exact fun h => by simp [h] at hj
    simp [this]
   | some e =>
    have : j < E.length := by rw [← hlen]; exact (Array.getElem?_eq_some_iff.1 hj).1
    simp [this, kv, kvE]
 · simp [hij, hi]
theorem map_erase {α β : Type} (f : α → β) : ∀ (l : List α) (j : Nat), (l.eraseIdx j).map f = (l.map f).eraseIdx j
 | [], _ => rfl
 | _ :: _, 0 => rfl
 | _ :: r, j + 1 => by simp [map_erase f r j]
theorem setObj_heap {w : World} {b : Nat} {es : Array MapEntry} {clock : Nat} (hb : w.heap[b]? = some (.map es clock)) (o : Obj) :
    ({ w with heap := w.heap.setIfInBounds b o } : World).heap[b]? = some o ∧ w.grownBy { w with heap := w.heap.setIfInBounds b o } (some b) :=
 ⟨(heap_set hb).1, ⟨rfl, rfl, rfl, by simp, fun k _ hk => (heap_set hb).2 k (fun e => hk (by rw [e]))⟩⟩
theorem MapIs.update {P : Program} {t k e : TypeId} (K : AdrKey P k) (ht : P.underlying t = some (.map k e)) {w : World} {b : Nat} {E : List (Ad × Value)} (h : MapIs w b E) (a : Ad) (v : Value) :
    ∃ w', (Instr.mapUpdate t (.map (some b)) (adV a) v).run P w = .ok () w' ∧ MapIs w' b (upE a v E) ∧ w.grownBy w' (some b) ∧ w'.drawn = w.drawn ∧ w'.heap.size = w.heap.size := by
 have hnd := h.nodup
 obtain ⟨es, clock, hb, hs, he⟩ := h
 simp only [Instr.mapUpdate, Sem.run_bind, run_underlying ht, Result.andThen_ok, MapKept.run_getObj_map hb, K.check, findKey_ad K w a _ E he]
 have hl := ix_lk a E 0
 cases hx : ix a E 0 with
 | none =>
  rw [hx] at hl
  have hno := lk_none.1 hl.symm
  refine ⟨_, by rw [MapKept.run_setObj_map _ hb], ?_, (setObj_heap hb _).2, rfl, by simp⟩
  refine ⟨_, _, (setObj_heap hb _).1, stamped_push hs ?_, ?_⟩
  · intro x hx'
    have h1 : kv x ∈ E.map kvE := he ▸ List.mem_map.2 ⟨x, hx', rfl⟩
    obtain ⟨y, hy, hyx⟩ := List.mem_map.1 h1
    simp only [kv, kvE, Prod.mk.injEq] at hyx
    exact fun e => hno y hy (adV_inj (hyx.1.trans e))
  · simp [upE, ← hl, he, kv, kvE]
 | some p =>
  obtain ⟨j, v0⟩ := p
  rw [hx] at hl
  have hj := (ix_some hx).2
  rw [Nat.sub_zero] at hj
  have hes : ∃ e0, es[j]? = some e0 ∧ e0.key = adV a := by
   have h1 := congrArg (fun l => l[j]?) he
   simp only [List.getElem?_map, Array.getElem?_toList, hj, Option.map_some, Option.map_eq_some_iff] at h1
   obtain ⟨e0, h2, h3⟩ := h1
   exact ⟨e0, h2, by simp only [kv, kvE, Prod.mk.injEq] at h3; exact h3.1⟩
  obtain ⟨e0, h2, h3⟩ := hes
  simp only [Sem.run_bind, h2, Option.map_some, Option.getD_some, h3, stays_ad, Result.andThen_ok]
  refine ⟨_, by rw [MapKept.run_setObj_map _ hb], ?_, (setObj_heap hb _).2, rfl, by simp⟩
  refine ⟨_, _, (setObj_heap hb _).1, stamped_modify hs _ _ (fun _ _ => rfl) (fun e' _ he' => by rw [h2] at he'; cases he'; exact h3.symm), ?_⟩
  rw [kv_set he j a v, upE, ← hl]
  simp [map_at_nodup hnd hj]
theorem MapIs.delete {P : Program} {t k e ty : TypeId} (K : AdrKey P k) (ht : P.underlying t = some (.map k e)) {w : World} {b : Nat} {E : List (Ad × Value)} (h : MapIs w b E) (a : Ad) (tk : TypeId) :
    ∃ w', (Builtin.delete_ #[t, tk] ty #[.map (some b), adV a]).run P w = .ok (.tuple #[]) w' ∧ MapIs w' b (dlE a E) ∧ w.grownBy w' (some b) ∧ w'.drawn = w.drawn ∧ w'.heap.size = w.heap.size := by
 have hnd := h.nodup
 obtain ⟨es, clock, hb, hs, he⟩ := h
 simp only [Builtin.delete_]
 simp only [List.getElem?_toArray, List.getElem?_cons_zero, List.getElem?_cons_succ, Sem.run_bind, run_underlying ht, Result.andThen_ok, MapKept.run_getObj_map hb, K.check, findKey_ad K w a _ E he]
 have hl := ix_lk a E 0
 cases hx : ix a E 0 with
 | none =>
  rw [hx] at hl
  have hno := lk_none.1 hl.symm
  refine ⟨_, by simp only [Sem.run_bind, MapKept.run_setObj_map _ hb, Result.andThen_ok, Sem.run_pure]; rfl, ?_, (setObj_heap hb _).2, rfl, by simp⟩
  refine ⟨_, _, (setObj_heap hb _).1, hs, ?_⟩
  rw [he]
  congr 1
  exact (List.filter_eq_self.2 fun y hy => by simp [hno y hy]).symm
 | some p =>
  obtain ⟨j, v0⟩ := p
  have hj := (ix_some hx).2
  rw [Nat.sub_zero] at hj
  refine ⟨_, by simp only [Sem.run_bind, MapKept.run_setObj_map _ hb, Result.andThen_ok, Sem.run_pure]; rfl, ?_, (setObj_heap hb _).2, rfl, by simp⟩
  refine ⟨_, _, (setObj_heap hb _).1, stamped_erase hs j, ?_⟩
  rw [filter_at_nodup hnd hj]
  have hlen : es.size = E.length := by have := congrArg List.length he; simpa using this
  have hjl : j < es.size := by rw [hlen]; exact (List.getElem?_eq_some_iff.1 hj).1
  simp only [Array.eraseIdxIfInBounds, hjl, dif_pos, Array.toList_eraseIdx, map_erase, he]
theorem MapIs.len {P : Program} {t k e ty : TypeId} (ht : P.underlying t = some (.map k e)) {w : World} {b : Nat} {E : List (Ad × Value)} (h : MapIs w b E) :
    (Builtin.len_ #[t] ty #[.map (some b)]).run P w = .ok (.int .i64 E.length) w := by
 obtain ⟨es, clock, hb, hs, he⟩ := h
 have hlen : es.size = E.length := by have := congrArg List.length he; simpa using this
 simp only [Builtin.len_]
 simp only [List.getElem?_toArray, List.getElem?_cons_zero, Sem.run_bind, run_underlying ht, Result.andThen_ok, MapKept.run_getObj_map hb, Sem.run_pure]
 simp [goInt, hlen]
end Go.Proofs.YtdoeejhdenifpaaGreatDoor
namespace Go.Proofs.YtdoeejhdenifpaaGreatDoor
open Go.RowKit Go.Sort Go.MapKept
open Go.ChangeMaps (setBlock)
def IterIs (w : World) (r b : Nat) (E left : List (Ad × Value)) (cur : Option (Ad × Value)) : Prop :=
 ∃ es clock seen, w.heap[b]? = some (.map es clock) ∧ Stamped es clock ∧ es.toList.map kv = E.map kvE ∧ w.heap[r]? = some (.mapIter (some b) clock seen clock) ∧
  (leftOf es seen).toList.map kv = left.map kvE ∧ ∀ x, cur = some x → ∃ (seen' : Array Nat) (e : MapEntry), seen = seen'.push e.born ∧ e ∈ es.toList ∧ kv e = kvE x
theorem IterIs.map {w : World} {r b : Nat} {E left : List (Ad × Value)} {cur : Option (Ad × Value)} (h : IterIs w r b E left cur) : MapIs w b E := by
 obtain ⟨es, clock, seen, h1, h2, h3, _⟩ := h
 exact ⟨es, clock, h1, h2, h3⟩
theorem IterIs.ne {w : World} {r b : Nat} {E left : List (Ad × Value)} {cur : Option (Ad × Value)} (h : IterIs w r b E left cur) : r ≠ b := by
 obtain ⟨es, clock, seen, h1, _, _, h4, _⟩ := h
 intro e; subst e; rw [h1] at h4; cases h4
theorem IterIs.lt {w : World} {r b : Nat} {E left : List (Ad × Value)} {cur : Option (Ad × Value)} (h : IterIs w r b E left cur) : r < w.heap.size := by
 obtain ⟨es, clock, seen, h1, _, _, h4, _⟩ := h
 exact (Array.getElem?_eq_some_iff.1 h4).1
theorem IterIs.of_heap {w w' : World} {r b : Nat} {E left : List (Ad × Value)} {cur : Option (Ad × Value)} (h : IterIs w r b E left cur) (hb : w'.heap[b]? = w.heap[b]?) (hr : w'.heap[r]? = w.heap[r]?) : IterIs w' r b E left cur := by
 obtain ⟨es, clock, seen, h1, h2, h3, h4, h5⟩ := h
 exact ⟨es, clock, seen, hb.trans h1, h2, h3, hr.trans h4, h5⟩
theorem MapIs.range {P : Program} {t k e : TypeId} (ht : P.underlying t = some (.map k e)) {w : World} {b : Nat} {E : List (Ad × Value)} (h : MapIs w b E) :
    ∃ w', (Instr.range t (.map (some b))).run P w = .ok (.pointer (some ⟨w.heap.size, 0, none⟩)) w' ∧ IterIs w' w.heap.size b E E none ∧ Gr w w' ∧ w'.heap.size = w.heap.size + 1 := by
 have hlt := h.lt
 obtain ⟨es, clock, hb, hs, he⟩ := h
 refine ⟨_, run_range_map w t k e b es clock ht hb, ⟨es, clock, #[], ((MapKept.heap_alloc w _).2 b hlt).trans hb, hs, he, (MapKept.heap_alloc w _).1, ?_, fun x hx => by cases hx⟩, (Gr.refl _).alloc _, by simp⟩
 rw [← he]
 simp only [leftOf, Array.toList_filter]
 rw [List.filter_eq_self.2 (by simp)]
theorem filter_out : ∀ {L1 L2 : List MapEntry} {e : MapEntry}, ((L1 ++ e :: L2).map (·.born)).Nodup → (L1 ++ e :: L2).filter (fun x => !(x.born == e.born)) = L1 ++ L2 := by
 intro L1 L2 e h
 rw [List.map_append, List.map_cons, List.nodup_append] at h
 obtain ⟨_, h2, h3⟩ := h
 rw [List.nodup_cons] at h2
 rw [List.filter_append, List.filter_cons]
 simp only [beq_self_eq_true, Bool.not_true, Bool.false_eq_true, if_false]
 congr 1
 · refine List.filter_eq_self.2 fun x hx => ?_
   have : x.born ≠ e.born := fun hh => h3 _ (List.mem_map.2 ⟨x, hx, rfl⟩) _ (List.mem_cons_self ..) hh
   simp [this]
 · refine List.filter_eq_self.2 fun x hx => ?_
   have : x.born ≠ e.born := fun hh => h2.1 (List.mem_map.2 ⟨x, hx, hh⟩)
   simp [this]
theorem IterIs.next {P : Program} {w : World} {r b : Nat} {E left : List (Ad × Value)} {cur : Option (Ad × Value)} (h : IterIs w r b E left cur) (ty : TypeId) :
    (left = [] ∧ (Instr.next (.pointer (some ⟨r, 0, none⟩)) false ty).run P w = .ok (.tuple #[.bool false]) w) ∨
    ∃ x l1 l2 w1, left = l1 ++ x :: l2 ∧ (Instr.next (.pointer (some ⟨r, 0, none⟩)) false ty).run P w = .ok (.tuple #[.bool true, adV x.1, x.2]) w1 ∧ IterIs w1 r b E (l1 ++ l2) (some x) ∧ w.grownBy w1 (some r) ∧ w1.heap.size = w.heap.size := by
 have hne := h.ne
 obtain ⟨es, clock, seen, hb, hs, he, hr, hl, _⟩ := h
 rcases run_next_at (P := P) w ty r b clock clock seen es clock hr hb hs.1 (Nat.le_refl _) with ⟨h0, hrun⟩ | ⟨e, hemem, w1, hw1, hrun⟩
 · refine Or.inl ⟨?_, hrun⟩
   have : leftOf es seen = #[] := Array.eq_empty_of_size_eq_zero h0
   rw [this] at hl
   cases left with
   | nil => rfl
   | cons _ _ => simp at hl
 · obtain ⟨hes, hseen⟩ := mem_left hemem
   obtain ⟨L1, L2, hL⟩ := List.append_of_mem hemem
   rw [hL, List.map_append, List.map_cons] at hl
   obtain ⟨l1, l2', hll, hl1, hl2⟩ := List.map_eq_append_iff.1 hl.symm
   obtain ⟨x, l2, rfl, hx, hl2⟩ := List.map_eq_cons_iff.1 hl2
   have hkv : e.key = adV x.1 ∧ e.val = x.2 := by
    simp only [kv, kvE, Prod.mk.injEq] at hx
    exact ⟨hx.1.symm, hx.2.symm⟩
   have hw1h : w1.heap = w.heap := by rcases hw1 with rfl | rfl <;> rfl
   have hr1 : w1.heap[r]? = some (.mapIter (some b) clock seen clock) := by rw [hw1h]; exact hr
   have hrl : r < w1.heap.size := (Array.getElem?_eq_some_iff.1 hr1).1
   refine Or.inr ⟨x, l1, l2, setBlock w1 r (.mapIter (some b) clock (seen.push e.born) clock), hll, by rw [hrun, hkv.1, hkv.2], ⟨es, clock, seen.push e.born, ?_, hs, he, ?_, ?_, ?_⟩, ?_, ?_⟩
   · simp only [setBlock]
     rw [Array.getElem?_setIfInBounds_ne hne, hw1h]; exact hb
   · simp only [setBlock]
     rw [Array.getElem?_setIfInBounds_self_of_lt hrl]
   · have hf : (leftOf es (seen.push e.born)).toList = L1 ++ L2 := by
      have hnd : ((leftOf es seen).toList.map (·.born)).Nodup := by
       have : (leftOf es seen).toList.Sublist es.toList := by unfold leftOf; rw [Array.toList_filter]; exact List.filter_sublist
       exact (this.map _).nodup hs.2.1
      rw [hL] at hnd
      rw [← filter_out hnd, ← hL]
      unfold leftOf
      simp only [Array.toList_filter, List.filter_filter]
      refine List.filter_congr fun y _ => ?_
      rw [contains_push, Bool.not_or, Bool.and_comm]
     rw [hf, List.map_append, List.map_append, hl1, hl2]
   · intro y hy
     cases hy
     exact ⟨seen, e, rfl, hes, hx.symm⟩
   · refine ⟨?_, ?_, ?_, ?_, ?_⟩
     · rcases hw1 with rfl | rfl <;> rfl
     · rcases hw1 with rfl | rfl <;> rfl
     · rcases hw1 with rfl | rfl <;> rfl
     · simp [setBlock, hw1h]
     · intro k _ hk
       simp only [setBlock]
       rw [Array.getElem?_setIfInBounds_ne (fun e => hk (by rw [e])), hw1h]
   · simp [setBlock, hw1h]
theorem IterIs.entry {P : Program} {w : World} {r b : Nat} {E left : List (Ad × Value)} {x : Ad × Value} (h : IterIs w r b E left (some x)) :
    (Instr.entry (.pointer (some ⟨r, 0, none⟩))).run P w = .ok (.tuple #[adV x.1, x.2]) w := by
 obtain ⟨es, clock, seen, hb, hs, he, hr, hl, hc⟩ := h
 obtain ⟨seen', e, rfl, hmem, hx⟩ := hc x rfl
 rw [run_entry_at (P := P) w r b clock seen' es clock e hr hb hmem hs.2.1]
 simp only [kv, kvE, Prod.mk.injEq] at hx
 rw [hx.1, hx.2]
section
variable {P : Program} (w : World) {ops : Array Oper} {rest : List Oper} {o : Oper} {a : Act} {Q : Exit → Act → World → Prop}
theorem wpList_range_it (hg : o.guard = none) (m : Operand) (t k e : TypeId) (hop : o.op = Op.range t m) (ht : P.underlying t = some (.map k e)) (b : Nat) (E : List (Ad × Value)) (hm : a.eval m = .map (some b)) (h : MapIs w b E)
    (hK : ∀ w', IterIs w' w.heap.size b E E none → Gr w w' → w'.heap.size = w.heap.size + 1 → wpList P ops Q rest (a.put o.dst (.pointer (some ⟨w.heap.size, 0, none⟩))) w') :
    wpList P ops Q (o :: rest) a w := by
 refine wpList_plain hg fun K' hK' => ?_
 obtain ⟨w', hrun, r1, r2, r3⟩ := h.range (P := P) ht
 unfold Oper.wp
 simp [execOp, hop, hm, hrun, Result.andThen]
 exact hK' _ _ (hK w' r1 r2 r3)
theorem wpList_next_it (hg : o.guard = none) (it : Operand) (hop : o.op = Op.next it false) (r b : Nat) (E left : List (Ad × Value)) (cur : Option (Ad × Value)) (hit : a.eval it = .pointer (some ⟨r, 0, none⟩)) (h : IterIs w r b E left cur)
    (hDone : left = [] → wpList P ops Q rest (a.put o.dst (.tuple #[.bool false])) w)
    (hMore : ∀ (c d : Int) (v : Value) l1 l2 w1, left = l1 ++ ((c, d), v) :: l2 → IterIs w1 r b E (l1 ++ l2) (some ((c, d), v)) → w.grownBy w1 (some r) → w1.heap.size = w.heap.size →
     (Instr.entry (.pointer (some ⟨r, 0, none⟩))).run P w1 = .ok (.tuple #[.agg #[.int .i64 c, .int .i64 d], v]) w1 → wpList P ops Q rest (a.put o.dst (.tuple #[.bool true, .agg #[.int .i64 c, .int .i64 d], v])) w1) :
    wpList P ops Q (o :: rest) a w := by
 refine wpList_plain hg fun K' hK' => ?_
 unfold Oper.wp
 rcases h.next (P := P) o.type with ⟨h0, hrun⟩ | ⟨x, l1, l2, w1, hl, hrun, hI, hgr, hsz⟩
 · simp [execOp, hop, hit, hrun, Result.andThen]
   exact hK' _ _ (hDone h0)
 · simp [execOp, hop, hit, hrun, Result.andThen]
   exact hK' _ _ (hMore x.1.1 x.1.2 x.2 l1 l2 w1 hl hI hgr hsz hI.entry)
theorem wpList_delete_it (hg : o.guard = none) (m x : Operand) (t tk k e : TypeId) (hop : o.op = Op.call { callee := Callee.builtin Builtin.delete, args := #[m, x], argTypes := #[t, tk] }) (K : AdrKey P k) (ht : P.underlying t = some (.map k e)) (b : Nat) (E : List (Ad × Value)) (hm : a.eval m = .map (some b)) (c d : Int) (hx : a.eval x = .agg #[.int .i64 c, .int .i64 d]) (h : MapIs w b E)
    (hK : ∀ w', MapIs w' b (dlE (c, d) E) → w.grownBy w' (some b) → w'.heap.size = w.heap.size → wpList P ops Q rest (a.put o.dst (.tuple #[])) w') :
    wpList P ops Q (o :: rest) a w := by
 refine wpList_plain hg fun K' hK' => ?_
 obtain ⟨w', hrun, r1, r2, _, r3⟩ := h.delete (ty := o.type) K ht (c, d) tk
 have hrun' : (Builtin.delete_ #[t, tk] o.type #[.map (some b), .agg #[.int .i64 c, .int .i64 d]]).run P w = .ok (.tuple #[]) w' := hrun
 unfold Oper.wp
 simp [execOp, hop, resolve, invoke, builtin, hm, hx, hrun', Result.andThen]
 exact hK' _ _ (hK w' r1 r2 r3)
end
end Go.Proofs.YtdoeejhdenifpaaGreatDoor
namespace Go.Proofs.YtdoeejhdenifpaaGreatDoor
open Go.RowKit Go.Sort
structure RefT where
 a : Ad
 cf : Bool
 rf : Bool
inductive NodeT where
 | mk (kind op : Int) (x : Nat) (s : ByteArray) (b : Bool) (f : Int) (ref to : RefT) (args : List NodeT)
def NodeT.kind : NodeT → Int | .mk k _ _ _ _ _ _ _ _ => k
def NodeT.op : NodeT → Int | .mk _ o _ _ _ _ _ _ _ => o
def NodeT.x : NodeT → Nat | .mk _ _ x _ _ _ _ _ _ => x
def NodeT.s : NodeT → ByteArray | .mk _ _ _ s _ _ _ _ _ => s
def NodeT.b : NodeT → Bool | .mk _ _ _ _ b _ _ _ _ => b
def NodeT.f : NodeT → Int | .mk _ _ _ _ _ f _ _ _ => f
def NodeT.ref : NodeT → RefT | .mk _ _ _ _ _ _ r _ _ => r
def NodeT.to : NodeT → RefT | .mk _ _ _ _ _ _ _ r _ => r
def NodeT.args : NodeT → List NodeT | .mk _ _ _ _ _ _ _ _ l => l
def nodeC (t : NodeT) (av : Value) : List Value :=
 [.int .i64 t.kind, .int .i64 t.op, .float .f64 t.x, .string t.s, .bool t.b, .int .i64 t.f, .int .i64 t.ref.a.1, .int .i64 t.ref.a.2, .bool t.ref.cf, .bool t.ref.rf, .int .i64 t.to.a.1, .int .i64 t.to.a.2, .bool t.to.cf, .bool t.to.rf, av]
def ArgsIn (w : World) : Nat → Value → List NodeT → Prop
 | 0, av, l => l = [] ∧ ∃ a cap, av = .slice a 0 cap ∧ cap ≤ 9223372036854775807
 | n + 1, av, l => ∃ a cap, av = .slice a l.length cap ∧ l.length ≤ cap ∧ cap ≤ 9223372036854775807 ∧ (l ≠ [] → ∃ b off, a = some ⟨b, off, none⟩ ∧ ∀ k t, l[k]? = some t → ∃ av', (∀ i u, (nodeC t av')[i]? = some u → w.cell? ⟨b, off + k * 15 + i, none⟩ = some u) ∧ ArgsIn w n av' t.args)
theorem ArgsIn.shape {w : World} : ∀ {n : Nat} {av : Value} {l : List NodeT}, ArgsIn w n av l → ∃ a cap, av = .slice a l.length cap ∧ l.length ≤ cap ∧ cap ≤ 9223372036854775807
 | 0, _, _, h => by obtain ⟨rfl, a, cap, rfl, hc⟩ := h; exact ⟨a, cap, rfl, Nat.zero_le _, hc⟩
 | _ + 1, _, _, h => by obtain ⟨a, cap, rfl, h1, h2, _⟩ := h; exact ⟨a, cap, rfl, h1, h2⟩
theorem ArgsIn.xt {w w' : World} (hx : Xt w w') : ∀ {n : Nat} {av : Value} {l : List NodeT}, ArgsIn w n av l → ArgsIn w' n av l
 | 0, _, _, h => h
 | n + 1, _, _, h => by
  obtain ⟨a, cap, rfl, h1, h2, h3⟩ := h
  refine ⟨a, cap, rfl, h1, h2, fun hne => ?_⟩
  obtain ⟨b, off, rfl, hc⟩ := h3 hne
  refine ⟨b, off, rfl, fun k t ht => ?_⟩
  obtain ⟨av', hcell, hin⟩ := hc k t ht
  have hb : b < w.heap.size := World.block_lt_of_cell? w _ (hcell 0 _ rfl)
  exact ⟨av', fun i u hu => ((hx.cells).1 _ _ hb).trans (hcell i u hu), hin.xt hx⟩
structure NodeAt (w : World) (b o : Nat) (t : NodeT) (a : Option Addr) (n cap : Nat) : Prop where
 c0 : w.cell? ⟨b, o, none⟩ = some (.int .i64 t.kind)
 c1 : w.cell? ⟨b, o + 1, none⟩ = some (.int .i64 t.op)
 c2 : w.cell? ⟨b, o + 2, none⟩ = some (.float .f64 t.x)
 c3 : w.cell? ⟨b, o + 3, none⟩ = some (.string t.s)
 c4 : w.cell? ⟨b, o + 4, none⟩ = some (.bool t.b)
 c5 : w.cell? ⟨b, o + 5, none⟩ = some (.int .i64 t.f)
 c6 : w.cell? ⟨b, o + 6, none⟩ = some (.int .i64 t.ref.a.1)
 c7 : w.cell? ⟨b, o + 7, none⟩ = some (.int .i64 t.ref.a.2)
 c8 : w.cell? ⟨b, o + 8, none⟩ = some (.bool t.ref.cf)
 c9 : w.cell? ⟨b, o + 9, none⟩ = some (.bool t.ref.rf)
 c10 : w.cell? ⟨b, o + 10, none⟩ = some (.int .i64 t.to.a.1)
 c11 : w.cell? ⟨b, o + 11, none⟩ = some (.int .i64 t.to.a.2)
 c12 : w.cell? ⟨b, o + 12, none⟩ = some (.bool t.to.cf)
 c13 : w.cell? ⟨b, o + 13, none⟩ = some (.bool t.to.rf)
 c14 : w.cell? ⟨b, o + 14, none⟩ = some (.slice a n cap)
theorem NodeAt.of {w : World} {b o : Nat} {t : NodeT} {a : Option Addr} {n cap : Nat} (h : ∀ (i : Nat) (u : Value), (nodeC t (.slice a n cap))[i]? = some u → w.cell? ⟨b, o + i, none⟩ = some u) : NodeAt w b o t a n cap :=
 ⟨h 0 _ rfl, h 1 _ rfl, h 2 _ rfl, h 3 _ rfl, h 4 _ rfl, h 5 _ rfl, h 6 _ rfl, h 7 _ rfl, h 8 _ rfl, h 9 _ rfl, h 10 _ rfl, h 11 _ rfl, h 12 _ rfl, h 13 _ rfl, h 14 _ rfl⟩
theorem NodeAt.xt {w w' : World} {b o : Nat} {t : NodeT} {a : Option Addr} {n cap : Nat} (h : NodeAt w b o t a n cap) (hx : Xt w w') : NodeAt w' b o t a n cap := by
 have hb : b < w.heap.size := World.block_lt_of_cell? w _ h.c0
 have e := fun o => (hx.cells).1 b o hb
 exact ⟨(e _).trans h.c0, (e _).trans h.c1, (e _).trans h.c2, (e _).trans h.c3, (e _).trans h.c4, (e _).trans h.c5, (e _).trans h.c6, (e _).trans h.c7, (e _).trans h.c8, (e _).trans h.c9, (e _).trans h.c10, (e _).trans h.c11, (e _).trans h.c12, (e _).trans h.c13, (e _).trans h.c14⟩
theorem ArgsIn.at {w : World} {n : Nat} {a : Option Addr} {m cap k : Nat} {l : List NodeT} {t : NodeT} (h : ArgsIn w n (.slice a m cap) l) (hk : l[k]? = some t) : ∃ n' b off a' c', n = n' + 1 ∧ a = some ⟨b, off, none⟩ ∧ NodeAt w b (off + k * 15) t a' t.args.length c' ∧ ArgsIn w n' (.slice a' t.args.length c') t.args := by
 cases n with
 | zero => obtain ⟨rfl, _⟩ := h; simp at hk
 | succ n =>
  obtain ⟨a0, c0, e, _, _, h3⟩ := h
  cases e
  obtain ⟨b, off, rfl, hc⟩ := h3 (by intro e; subst e; simp at hk)
  obtain ⟨av', hcell, hin⟩ := hc k t hk
  obtain ⟨a', c', rfl, _, _⟩ := hin.shape
  exact ⟨n, b, off, a', c', rfl, rfl, NodeAt.of hcell, hin⟩
theorem boxN (w : World) (t : NodeT) (a : Option Addr) (n cap : Nat) (T : TypeId) : ∃ w0, w.alloc (.cells #[.int .i64 t.kind, .int .i64 t.op, .float .f64 t.x, .string t.s, .bool t.b, .int .i64 t.f, .int .i64 t.ref.a.1, .int .i64 t.ref.a.2, .bool t.ref.cf, .bool t.ref.rf, .int .i64 t.to.a.1, .int .i64 t.to.a.2, .bool t.to.cf, .bool t.to.rf, .slice a n cap] T) = w0 ∧ Gr w w0 ∧ w0.heap.size = w.heap.size + 1 ∧ NodeAt w0 w.heap.size 0 t a n cap := by
 refine ⟨_, rfl, (Gr.refl _).alloc _, by simp, NodeAt.of fun i u hu => ?_⟩
 rw [Nat.zero_add, World.cell?_alloc_new]
 simpa [nodeC] using hu
abbrev nodeV (t : NodeT) (a : Option Addr) (n cap : Nat) : Value := .agg #[.int .i64 t.kind, .int .i64 t.op, .float .f64 t.x, .string t.s, .bool t.b, .int .i64 t.f, .int .i64 t.ref.a.1, .int .i64 t.ref.a.2, .bool t.ref.cf, .bool t.ref.rf, .int .i64 t.to.a.1, .int .i64 t.to.a.2, .bool t.to.cf, .bool t.to.rf, .slice a n cap]
end Go.Proofs.YtdoeejhdenifpaaGreatDoor
namespace Go.Proofs.YtdoeejhdenifpaaGreatDoor
open Go.RowKit Go.Sort
mutual
def weightT : NodeT → Int → Int
 | .mk _ _ _ _ _ _ _ _ args, most => weightL args 1 most
def weightL : List NodeT → Int → Int → Int
 | [], all, _ => all
 | t :: r, all, most => if all ≤ most then weightL r (all + weightT t (most - all)) most else all
end
mutual
theorem weightT_le : ∀ (t : NodeT) (m : Int), 0 ≤ m → 1 ≤ weightT t m ∧ weightT t m ≤ m + 1
 | .mk _ _ _ _ _ _ _ _ args, m, h => by
  simp only [weightT]
  exact weightL_le args 1 m (by omega) (by omega)
theorem weightL_le : ∀ (l : List NodeT) (all m : Int), 1 ≤ all → all ≤ m + 1 → all ≤ weightL l all m ∧ weightL l all m ≤ m + 1
 | [], all, m, h1, h2 => by simp only [weightL]; omega
 | t :: r, all, m, h1, h2 => by
  simp only [weightL]
  by_cases h : all ≤ m
  · rw [if_pos h]
    have h3 := weightT_le t (m - all) (by omega)
    have h4 := weightL_le r (all + weightT t (m - all)) m (by omega) (by omega)
    omega
  · rw [if_neg h]; omega
end
theorem drop_at {α : Type} {l : List α} {k : Nat} {x : α} (h : l[k]? = some x) : l.drop k = x :: l.drop (k + 1) := by
 obtain ⟨hk, rfl⟩ := List.getElem?_eq_some_iff.1 h
 exact List.drop_eq_getElem_cons hk
end Go.Proofs.YtdoeejhdenifpaaGreatDoor
namespace Go.Proofs.YtdoeejhdenifpaaGreatDoor
open Go.RowKit Go.Sort
theorem run_bits (w : World) (x : Nat) : (callFunc 127 #[.float .f64 x]).run Tryz.prog w = .ok (.value (.int .u64 x)) w := by
 rw [run_callFunc_extern (fn := Tryz.f127) (by kernel_rfl) (by kernel_rfl) (by kernel_rfl) (by kernel_rfl) (e := Extern.MathFloatBits.float64bits) (by kernel_rfl)]
 rfl
theorem run_from (w : World) (n : Int) : (callFunc 143 #[.int .u64 n]).run Tryz.prog w = .ok (.value (.float .f64 n.toNat)) w := by
 rw [run_callFunc_extern (fn := Tryz.f143) (by kernel_rfl) (by kernel_rfl) (by kernel_rfl) (by kernel_rfl) (e := Extern.MathFloatBits.float64frombits) (by kernel_rfl)]
 rfl
attribute [go_sem] run_bits run_from
theorem feq00 : Op.floatEq .f64 0 0 = true := by decide
@[go_sem] theorem run_equalIn_float {P : Program} (w : World) (d : Nat) (t : TypeId) (k : FloatKind) (a b : Nat) (h : P.underlying t = some (.float k)) : (Op.equalIn (d + 1) t (.float k a) (.float k b)).run P w = .ok (Op.floatEq k a b) w := by
 simp [Op.equalIn, run_underlying h]
structure ValT where
 kind : Int
 x : Nat
 s : ByteArray
 b : Bool
 f : Int
theorem boxV (w : World) (v : ValT) (T : TypeId) : ∃ w0, w.alloc (.cells #[.int .i64 v.kind, .float .f64 v.x, .string v.s, .bool v.b, .int .i64 v.f] T) = w0 ∧ Gr w w0 ∧ w0.heap.size = w.heap.size + 1 ∧ w0.cell? ⟨w.heap.size, 0, none⟩ = some (.int .i64 v.kind) ∧ w0.cell? ⟨w.heap.size, 1, none⟩ = some (.float .f64 v.x) ∧ w0.cell? ⟨w.heap.size, 2, none⟩ = some (.string v.s) ∧ w0.cell? ⟨w.heap.size, 3, none⟩ = some (.bool v.b) ∧ w0.cell? ⟨w.heap.size, 4, none⟩ = some (.int .i64 v.f) := by
 refine ⟨_, rfl, (Gr.refl _).alloc _, by simp, ?_, ?_, ?_, ?_, ?_⟩ <;> simp
abbrev valV (v : ValT) : Value := .agg #[.int .i64 v.kind, .float .f64 v.x, .string v.s, .bool v.b, .int .i64 v.f]
def noValB (v : ValT) : Bool := decide (v.kind = 0) && decide ((v.x : Int) = 0) && decide (v.s.toList = []) && !v.b && decide (v.f = 0)
set_option maxRecDepth 100000 in
set_option maxHeartbeats 2000000 in
theorem noValue_any (v : ValT) (w : World) :
    Calls Tryz.prog 99 #[valV v] w fun e w' => e = .returned (.bool (noValB v)) ∧ Gr w w' := by
 obtain ⟨w0, hw0, hg0, hs0, c0, c1, c2, c3, c4⟩ := boxV w v 44
 have HG0 := Lib.hid hg0
 clear hg0
 go_enter Tryz.func99, Tryz.ntmps99
 go_wp2_with fail
 all_goals (go_ret; refine ⟨?_, HG0.out⟩; first | (simp [noValB, *]; done) | (by_cases hx : v.x = 0 <;> simp_all [noValB, feq00]; done))
end Go.Proofs.YtdoeejhdenifpaaGreatDoor
namespace Go.Proofs.YtdoeejhdenifpaaGreatDoor
open Go.RowKit Go.Sort
def noNodeB (t : NodeT) : Bool := decide (t.kind = 0) && decide (t.op = 0) && decide ((t.x : Int) = 0) && decide (t.s.toList = []) && !t.b && decide (t.f = 0) &&
 (decide (t.ref.a.1 = 0) && decide (t.ref.a.2 = 0) && !t.ref.cf && !t.ref.rf) && (decide (t.to.a.1 = 0) && decide (t.to.a.2 = 0) && !t.to.cf && !t.to.rf) && ((t.args.length : Int) == 0)
set_option maxRecDepth 100000 in
set_option maxHeartbeats 4000000 in
theorem noNode_any (t : NodeT) (a : Option Addr) (cap : Nat) (w : World) :
    Calls Tryz.prog 100 #[nodeV t a t.args.length cap] w fun e w' => e = .returned (.bool (noNodeB t)) ∧ Gr w w' := by
 obtain ⟨w0, hw0, hg0, hs0, hN⟩ := boxN w t a t.args.length cap 49
 obtain ⟨c0, c1, c2, c3, c4, c5, c6, c7, c8, c9, c10, c11, c12, c13, c14⟩ := hN
 simp only [Nat.zero_add] at c0 c1 c2 c3 c4 c5 c6 c7 c8 c9 c10 c11 c12 c13 c14
 have HG0 := Lib.hid hg0
 clear hg0
 generalize hn : noNodeB t = ans
 have HA := Lib.hid hn
 clear hn
 go_enter Tryz.func100, Tryz.ntmps100
 go_wp2_with fail
 all_goals (go_ret; refine ⟨?_, HG0.out⟩; rw [← HA.out]; simp [noNodeB, *]; done)
def oneX (x : Nat) : Nat := if (FloatKind.format .f64).order x x != some .eq then 9221120237041090560 else x
theorem Nan_any (w : World) : Calls Tryz.prog 154 #[] w fun e w' => e = .returned (.float .f64 9221120237041090560) ∧ w = w' := by
 go_enter Tryz.func154, Tryz.ntmps154
 go_wp2_with fail
 go_ret
 exact ⟨rfl, rfl⟩
theorem One_any (x : Nat) (w : World) : Calls Tryz.prog 120 #[.float .f64 x] w fun e w' => e = .returned (.float .f64 (oneX x)) ∧ w = w' := by
 have hc := Nan_any w
 have HC := Lib.hid hc
 clear hc
 go_enter Tryz.func120, Tryz.ntmps120
 go_wp2_with (refine (HC.out).mono ?_; rintro e w' ⟨rfl, rfl⟩)
 all_goals (go_ret; refine ⟨?_, rfl⟩; simp [oneX, *]; done)
def signX (x : Nat) : Bool := decide (wrap64 x < 0)
theorem Signbit_any (x : Nat) (w : World) : Calls Tryz.prog 169 #[.float .f64 x] w fun e w' => e = .returned (.bool (signX x)) ∧ w = w' := by
 go_enter Tryz.func169, Tryz.ntmps169
 go_wp2_with fail
 go_ret
 refine ⟨?_, rfl⟩
 simp [signX]
def negX (x : Nat) : Bool := (FloatKind.format .f64).order x x == some .eq && signX x
theorem Negative_any (x : Nat) (w : World) : Calls Tryz.prog 174 #[.float .f64 x] w fun e w' => e = .returned (.bool (negX x)) ∧ w = w' := by
 have hc := Signbit_any x w
 have HC := Lib.hid hc
 clear hc
 go_enter Tryz.func174, Tryz.ntmps174
 go_wp2_with (refine (HC.out).mono ?_; rintro e w' ⟨rfl, rfl⟩)
 all_goals (go_ret; refine ⟨?_, rfl⟩; simp [negX, *]; done)
end Go.Proofs.YtdoeejhdenifpaaGreatDoor
namespace Go.Proofs.YtdoeejhdenifpaaGreatDoor
open Go.RowKit Go.Sort
def ArgsS (S : Nat → Prop) (w : World) : Nat → Value → List NodeT → Prop
 | 0, av, l => l = [] ∧ ∃ a cap, av = .slice a 0 cap ∧ cap ≤ 9223372036854775807
 | n + 1, av, l => ∃ a cap, av = .slice a l.length cap ∧ l.length ≤ cap ∧ cap ≤ 9223372036854775807 ∧ (l ≠ [] → ∃ b off, a = some ⟨b, off, none⟩ ∧ S b ∧ ∀ k t, l[k]? = some t → ∃ av', (∀ i u, (nodeC t av')[i]? = some u → w.cell? ⟨b, off + k * 15 + i, none⟩ = some u) ∧ ArgsS S w n av' t.args)
theorem ArgsS.args {S : Nat → Prop} {w : World} : ∀ {n : Nat} {av : Value} {l : List NodeT}, ArgsS S w n av l → ArgsIn w n av l
 | 0, _, _, h => h
 | n + 1, _, _, h => by
  obtain ⟨a, cap, rfl, h1, h2, h3⟩ := h
  refine ⟨a, cap, rfl, h1, h2, fun hne => ?_⟩
  obtain ⟨b, off, rfl, _, hc⟩ := h3 hne
  exact ⟨b, off, rfl, fun k t ht => let ⟨av', q1, q2⟩ := hc k t ht; ⟨av', q1, q2.args⟩⟩
theorem ArgsS.keep {S S' : Nat → Prop} {w w' : World} (hS : ∀ b, S b → b < w.heap.size → S' b) (hk : ∀ b o, S b → b < w.heap.size → w'.cell? ⟨b, o, none⟩ = w.cell? ⟨b, o, none⟩) : ∀ {n : Nat} {av : Value} {l : List NodeT}, ArgsS S w n av l → ArgsS S' w' n av l
 | 0, _, _, h => h
 | n + 1, _, _, h => by
  obtain ⟨a, cap, rfl, h1, h2, h3⟩ := h
  refine ⟨a, cap, rfl, h1, h2, fun hne => ?_⟩
  obtain ⟨b, off, rfl, hb, hc⟩ := h3 hne
  obtain ⟨t0, r, rfl⟩ := List.exists_cons_of_ne_nil hne
  obtain ⟨av0, q0, _⟩ := hc 0 t0 rfl
  have hlt : b < w.heap.size := World.block_lt_of_cell? w _ (q0 0 _ rfl)
  exact ⟨b, off, rfl, hS b hb hlt, fun k t ht => let ⟨av', q1, q2⟩ := hc k t ht; ⟨av', fun i u hu => (hk b _ hb hlt).trans (q1 i u hu), ArgsS.keep hS hk q2⟩⟩
mutual
def copyT : NodeT → NodeT
 | .mk k op x s b f r q args => .mk k op (oneX x) s b f r q (copyL args)
def copyL : List NodeT → List NodeT
 | [] => []
 | t :: r => copyT t :: copyL r
end
theorem copyL_map : ∀ l : List NodeT, copyL l = l.map copyT
 | [] => by simp [copyL]
 | t :: r => by simp only [copyL, List.map_cons, copyL_map r]
end Go.Proofs.YtdoeejhdenifpaaGreatDoor
namespace Go.Proofs.YtdoeejhdenifpaaGreatDoor
open Go.RowKit Go.Sort
theorem rflat_at {α β : Type} (f : α → List β) (m : Nat) (hf : ∀ x, (f x).length = m) : ∀ (l : List α) (k j : Nat) (x : α), l[k]? = some x → j < m → (l.flatMap f)[k * m + j]? = (f x)[j]?
 | y :: r, 0, j, x, h, hj => by
  simp only [List.getElem?_cons_zero, Option.some.injEq] at h
  subst h
  rw [List.flatMap_cons, Nat.zero_mul, Nat.zero_add, List.getElem?_append_left (by rw [hf]; exact hj)]
 | y :: r, k + 1, j, x, h, hj => by
  rw [List.flatMap_cons, Nat.succ_mul, List.getElem?_append_right (by rw [hf]; omega), hf]
  rw [show k * m + m + j - m = k * m + j by omega]
  exact rflat_at f m hf r k j x (by simpa using h) hj
abbrev rowC (r : NodeT × Value) : List Value := nodeC r.1 r.2
theorem rowC_len (r : NodeT × Value) : (rowC r).length = 15 := rfl
end Go.Proofs.YtdoeejhdenifpaaGreatDoor
/- Rows of the call's own, element by element (without sorting). -/
namespace Go.Proofs.YtdoeejhdenifpaaGreatDoor
open Go.RowKit Go.Sort Go.MapKept
section
variable {α : Type} {enc : α → List Value} {k : Nat}
theorem flat_len (hk : ∀ x, (enc x).length = k) : ∀ (l : List α), (l.flatMap enc).length = l.length * k
 | [] => by simp
 | x :: l => by simp [List.flatMap_cons, hk, flat_len hk l, Nat.add_mul, Nat.add_comm]
theorem flat_get (hk : ∀ x, (enc x).length = k) : ∀ (l : List α) (j i : Nat) (x : α), l[j]? = some x → i < k → (l.flatMap enc)[j * k + i]? = (enc x)[i]?
 | [], _, _, _, h, _ => by simp at h
 | y :: l, 0, i, x, h, hi => by
  simp only [List.getElem?_cons_zero, Option.some.injEq] at h
  subst h
  rw [List.flatMap_cons, Nat.zero_mul, Nat.zero_add, List.getElem?_append_left (by rw [hk]; exact hi)]
 | y :: l, j + 1, i, x, h, hi => by
  simp only [List.getElem?_cons_succ] at h
  rw [List.flatMap_cons, List.getElem?_append_right (by rw [hk, Nat.add_mul]; omega), hk, show (j + 1) * k + i - k = j * k + i by rw [Nat.add_mul]; omega]
  exact flat_get hk l j i x h hi
def OwnL (w : World) (base : Nat) (T : TypeId) (k : Nat) (enc : α → List Value) (v : Value) (l : List α) : Prop := w.ownsRow base T k v l.length (l.flatMap enc)
theorem OwnL.sl {w : World} {base : Nat} {T : TypeId} {v : Value} {l : List α} (h : OwnL w base T k enc v l) (hk : ∀ x, (enc x).length = k) : SlOf w enc k v l := by
 obtain ⟨h1, h2⟩ := h
 rcases h2 with ⟨rfl, h0⟩ | ⟨g, cap, cur, rfl, hb, hg, hn, hc, hs, ht⟩
 · refine ⟨none, 0, by rw [h0], by omega, by omega, fun hl => ?_⟩
   exact absurd (List.length_eq_zero_iff.1 h0) hl
 · refine ⟨_, cap, rfl, hn, by unfold maxLen at hc; omega, fun _ => ⟨g, 0, rfl, fun j x hx i u hu => ?_⟩⟩
   have hi : i < k := by rw [← hk x]; exact (List.getElem?_eq_some_iff.1 hu).1
   have hf := flat_get hk l j i x hx hi
   rw [hu, ← ht] at hf
   rw [List.getElem?_take] at hf
   split at hf
   · rw [Nat.zero_add, cell_of_row w g _ cur T (0, 0) hg]
     simpa using hf
   · cases hf
theorem Xt.grown {a b : World} (h : Xt a b) (row : Option Nat) : a.grownBy b row := ⟨h.os, h.tape, h.output, h.size, fun k hk _ => Below.block h k hk⟩
theorem OwnL.xt {w w' : World} {base : Nat} {T : TypeId} {v : Value} {l : List α} (h : OwnL w base T k enc v l) (hx : Xt w w') : OwnL w' base T k enc v l :=
 World.ownsRow.kept h (hx.grown none) (by cases v.ownBlock <;> simp)
theorem news_at (W : World) (cs : List Value) (T : TypeId) {b : Nat} (hb : b = W.heap.size) : ∀ (j : Nat) (u : Value), cs[j]? = some u → (W.alloc (.cells cs.toArray T)).cell? ((⟨b, 0, none⟩ : Addr).add j) = some u := by
 intro j u hu
 subst hb
 rw [show (⟨W.heap.size, 0, none⟩ : Addr).add j = ⟨W.heap.size, 0 + j, none⟩ from Addr.add_lit .., Nat.zero_add, World.cell?_alloc_new]
 simpa using hu
end
end Go.Proofs.YtdoeejhdenifpaaGreatDoor
namespace Go.Proofs.YtdoeejhdenifpaaGreatDoor
open Go.RowKit Go.Sort Go.MapKept
theorem setCells_row (g : Nat) (T : TypeId) : ∀ (vs : List Value) (o : Nat) (w : World) (cur : Array Value), w.heap[g]? = some (.cells cur T (0, 0)) →
    ∃ cur', (w.setCells g o vs).heap[g]? = some (.cells cur' T (0, 0)) ∧ cur'.size = cur.size ∧ ∀ t, cur'[t]? = if o ≤ t ∧ t < o + vs.length ∧ t < cur.size then vs[t - o]? else cur[t]?
 | [], o, w, cur, h => ⟨cur, h, rfl, fun t => by rw [if_neg (by simp; omega)]⟩
 | v :: r, o, w, cur, h => by
  have h1 : (w.setCell ⟨g, o, none⟩ v).heap[g]? = some (.cells (cur.setIfInBounds o v) T (0, 0)) := by
   simp [World.setCell, Array.getElem?_modify, h]
  obtain ⟨cur', q1, q2, q3⟩ := setCells_row g T r (o + 1) _ _ h1
  refine ⟨cur', q1, by rw [q2]; simp, fun t => ?_⟩
  rw [q3 t]
  simp only [List.length_cons, Array.size_setIfInBounds]
  by_cases ht : t = o
  · subst ht
    rw [if_neg (by omega)]
    by_cases hc : t < cur.size
    · rw [if_pos (by omega), Nat.sub_self]; simp [hc]
    · rw [if_neg (by omega)]; simp [hc]
  · by_cases hb : o + 1 ≤ t ∧ t < o + 1 + r.length ∧ t < cur.size
    · rw [if_pos hb, if_pos (by omega)]
      obtain ⟨s, rfl⟩ : ∃ s, t = o + 1 + s := ⟨t - (o + 1), by omega⟩
      rw [show o + 1 + s - (o + 1) = s by omega, show o + 1 + s - o = s + 1 by omega]
      simp
    · rw [if_neg hb, if_neg (by omega), Array.getElem?_setIfInBounds_ne (by omega)]
theorem setCells_grown (g : Nat) : ∀ (vs : List Value) (o : Nat) (w : World), w.grownBy (w.setCells g o vs) (some g)
 | [], _, w => ⟨rfl, rfl, rfl, Nat.le_refl _, fun _ _ _ => rfl⟩
 | v :: r, o, w => by
  have h1 : w.grownBy (w.setCell ⟨g, o, none⟩ v) (some g) := ⟨rfl, rfl, rfl, by simp, fun k _ hk => Below.heap_setCell _ _ _ _ (fun e => hk (by rw [e]))⟩
  have h2 := setCells_grown g r (o + 1) (w.setCell ⟨g, o, none⟩ v)
  exact ⟨h2.os.trans h1.os, h2.tape.trans h1.tape, h2.output.trans h1.output, Nat.le_trans h1.size h2.size, fun k hk hne => (h2.block k (by simpa using hk) hne).trans (h1.block k hk hne)⟩
section
variable {α : Type} {enc : α → List Value} {k : Nat}
def RowL (w : World) (g : Nat) (T : TypeId) (cap k : Nat) (enc : α → List Value) (d : List α) : Prop :=
 ∃ cur : Array Value, w.heap[g]? = some (.cells cur T (0, 0)) ∧ cur.size = cap * k ∧ d.length ≤ cap ∧ ∀ j x, d[j]? = some x → ∀ i u, (enc x)[i]? = some u → cur[j * k + i]? = some u
theorem RowL.own {w : World} {g : Nat} {T : TypeId} {cap : Nat} {d : List α} (h : RowL w g T cap k enc d) (hk : ∀ x, (enc x).length = k) (hc : cap ≤ maxLen) {base : Nat} (hb : base ≤ g) (m : Nat) (hm : m ≤ d.length) :
    OwnL w base T k enc (.slice (some ⟨g, 0, none⟩) m cap) (d.take m) := by
 obtain ⟨cur, hg, hs, hd, hc2⟩ := h
 have hml : (d.take m).length = m := by rw [List.length_take]; omega
 refine ⟨by rw [flat_len hk], Or.inr ⟨g, cap, cur, by rw [hml], hb, hg, by omega, hc, hs, ?_⟩⟩
 rw [hml]
 apply List.ext_getElem?
 intro t
 rw [List.getElem?_take]
 by_cases ht : t < m * k
 · have k0 : 0 < k := by rcases Nat.eq_zero_or_pos k with h | h; · subst h; simp at ht
                         · exact h
   have hj : t / k < m := by rw [Nat.div_lt_iff_lt_mul k0]; exact ht
   have hi : t % k < k := Nat.mod_lt _ k0
   obtain ⟨x, hx⟩ : ∃ x, d[t / k]? = some x := ⟨d[t / k]'(by omega), by simp⟩
   have hf := flat_get hk (d.take m) (t / k) (t % k) x (by rw [List.getElem?_take, if_pos hj]; exact hx) hi
   rw [Nat.div_add_mod' t k] at hf
   have hl2 : t % k < (enc x).length := by rw [hk]; exact hi
   have := hc2 (t / k) x hx (t % k) _ (List.getElem?_eq_getElem hl2)
   rw [Nat.div_add_mod' t k] at this
   rw [if_pos ht, hf, List.getElem?_eq_getElem hl2]
   simpa using this
 · rw [if_neg ht, List.getElem?_eq_none (by rw [flat_len hk, hml]; omega)]
theorem RowL.cell {w : World} {g : Nat} {T : TypeId} {cap : Nat} {d : List α} (h : RowL w g T cap k enc d) {j : Nat} {x : α} (hx : d[j]? = some x) : ∀ i u, (enc x)[i]? = some u → w.cell? ⟨g, j * k + i, none⟩ = some u := by
 obtain ⟨cur, hg, hs, hd, hc⟩ := h
 intro i u hu
 rw [cell_of_row w g _ cur T (0, 0) hg]
 exact hc j x hx i u hu
theorem RowL.of_heap {w w' : World} {g : Nat} {T : TypeId} {cap : Nat} {d : List α} (h : RowL w g T cap k enc d) (hb : w'.heap[g]? = w.heap[g]?) : RowL w' g T cap k enc d := by
 obtain ⟨cur, hg, r⟩ := h
 exact ⟨cur, hb.trans hg, r⟩
theorem RowL.set {w : World} {g : Nat} {T : TypeId} {cap : Nat} {d : List α} (h : RowL w g T cap k enc d) (hk : ∀ x, (enc x).length = k) {j : Nat} (hj : j < d.length) (y : α) : RowL (w.setCells g (j * k) (enc y)) g T cap k enc (d.set j y) := by
 obtain ⟨cur, hg, hs, hd, hc⟩ := h
 obtain ⟨cur', q1, q2, q3⟩ := setCells_row g T (enc y) (j * k) w cur hg
 refine ⟨cur', q1, q2.trans hs, by simpa using hd, fun i x hx t u hu => ?_⟩
 have ht : t < k := by rw [← hk x]; exact (List.getElem?_eq_some_iff.1 hu).1
 have hjk : j * k + k ≤ cap * k := by have := Nat.mul_le_mul_right k (show j + 1 ≤ cap by omega); rwa [Nat.add_mul, Nat.one_mul] at this
 rw [q3, hk y]
 rw [List.getElem?_set] at hx
 by_cases hij : j = i
 · subst hij
   rw [if_pos rfl, if_pos hj] at hx
   cases hx
   rw [if_pos (by omega), show j * k + t - j * k = t by omega]
   exact hu
 · rw [if_neg hij] at hx
   rw [if_neg]
   · exact hc i x hx t u hu
   · rintro ⟨h1, h2, _⟩
     rcases Nat.lt_or_ge i j with h3 | h3
     · have := Nat.mul_le_mul_right k (show i + 1 ≤ j from h3); rw [Nat.add_mul, Nat.one_mul] at this; omega
     · have := Nat.mul_le_mul_right k (show j + 1 ≤ i by omega); rw [Nat.add_mul, Nat.one_mul] at this; omega
theorem RowL.tail {w : World} {g : Nat} {T : TypeId} {cap : Nat} {d : List α} (h : RowL w g T cap k enc d) (hk : ∀ x, (enc x).length = k) (m : Nat) (vs : List Value) : RowL (w.setCells g (m * k) vs) g T cap k enc (d.take m) := by
 obtain ⟨cur, hg, hs, hd, hc⟩ := h
 obtain ⟨cur', q1, q2, q3⟩ := setCells_row g T vs (m * k) w cur hg
 refine ⟨cur', q1, q2.trans hs, by rw [List.length_take]; omega, fun i x hx t u hu => ?_⟩
 have ht : t < k := by rw [← hk x]; exact (List.getElem?_eq_some_iff.1 hu).1
 rw [List.getElem?_take] at hx
 split at hx
 · rename_i him
   have := Nat.mul_le_mul_right k (show i + 1 ≤ m from him); rw [Nat.add_mul, Nat.one_mul] at this
   rw [q3, if_neg (by omega)]
   exact hc i x hx t u hu
 · cases hx
end
section
variable {P : Program} (w : World) {ops : Array Oper} {rest : List Oper} {o : Oper} {a : Act} {Q : Exit → Act → World → Prop}
end
end Go.Proofs.YtdoeejhdenifpaaGreatDoor
namespace Go.Proofs.YtdoeejhdenifpaaGreatDoor
open Go.RowKit Go.Sort
section
variable {P : Program}
theorem run_append_where (w : World) (t ty e : TypeId) (i : TypeInfo) (z : Value) (size bytes : Nat) (ht : P.underlying t = some (.slice e)) (hi : P.info? e = some i) (hz : i.zero = some z)
    (hsize : i.size = size) (hby : i.bytes = bytes) (hzs : z.cells.size = size) (hsz : 0 < size)
    (v : Value) (n : Nat) (xs : List Value) (hown : w.ownsRow 0 e size v n xs)
    (a : Addr) (m c : Nat) (news : List Value) (hl : news.length = m * size) (hnews : ∀ j u, news[j]? = some u → w.cell? (a.add j) = some u) (h1 : ∀ u ∈ news, u.oneCell' = true)
    (h63 : n + m ≤ maxLen) (hbytes : (n + m) * bytes ≤ 140737488355328) :
    ∃ v' w', (Builtin.append_ #[t, t] ty #[v, .slice (some a) m c]).run P w = .ok v' w' ∧ w'.ownsRow 0 e size v' (n + m) (xs ++ news) ∧ w.grownBy w' v.ownBlock ∧
     (v'.ownBlock = v.ownBlock ∨ ∀ g, v'.ownBlock = some g → w.heap.size ≤ g) := by
 obtain ⟨v', w', hr, h2, h3, h4⟩ := run_append_own (P := P) w 0 t ty e i z size bytes ht hi hz hsize hby hzs hsz v n xs hown a m c news hl hnews h1 h63 hbytes (Nat.zero_le _)
 refine ⟨v', w', hr, h2, h3, ?_⟩
 rcases hown.2 with ⟨rfl, rfl⟩ | ⟨g, cap, cur, rfl, hbg, hg, hnc, hcm, hcs, htake⟩
 · have hx : xs = [] := List.eq_nil_of_length_eq_zero (by simpa using hown.1)
   subst hx
   obtain ⟨v2, w2, hr2, k2, k3, k4⟩ := run_append_own (P := P) w w.heap.size t ty e i z size bytes ht hi hz hsize hby hzs hsz (.slice none 0 0) 0 [] (World.ownsRow_nil _ _ _ _) a m c news hl hnews h1 h63 hbytes (Nat.le_refl _)
   rw [hr] at hr2
   cases hr2
   exact Or.inr fun g hg => (World.ownsRow.lt k2 g hg).1
 · subst hsize hby
   have hsmall : n + m ≤ 9223372036854775807 := by simp only [maxLen] at h63; omega
   by_cases hroom : n + m ≤ cap
   · have hfit : n * i.size + news.length ≤ cur.size := by rw [hl, hcs, ← Nat.add_mul]; exact Nat.mul_le_mul_right _ hroom
     have hr2 := run_append_room (P := P) w t ty e i ht hi g n cap cur hg a m c news hl hnews h1 hroom hfit
     rw [hr] at hr2
     cases hr2
     exact Or.inl rfl
   · have holds : ∀ j u, xs[j]? = some u → w.cell? ((⟨g, 0, none⟩ : Addr).add j) = some u := hown.cells (g := g) rfl
     have hr2 := run_append_grow (P := P) w t ty e i z ht hi hz ⟨g, 0, none⟩ n cap xs hown.1 holds a m c news hl hnews (by omega) (by omega) (growslice_fits (by omega) hbytes)
     rw [hr] at hr2
     cases hr2
     exact Or.inr fun q hq => by cases hq; exact Nat.le_refl _
end
end Go.Proofs.YtdoeejhdenifpaaGreatDoor
namespace Go.Proofs.YtdoeejhdenifpaaGreatDoor
open Go.RowKit Go.Sort
abbrev copyV (t : NodeT) (a : Option Addr) (n cap : Nat) : Value := .agg #[.int .i64 t.kind, .int .i64 t.op, .float .f64 (oneX t.x), .string t.s, .bool t.b, .int .i64 t.f, .int .i64 t.ref.a.1, .int .i64 t.ref.a.2, .bool t.ref.cf, .bool t.ref.rf, .int .i64 t.to.a.1, .int .i64 t.to.a.2, .bool t.to.cf, .bool t.to.rf, .slice a n cap]
structure CopyRows (wr : World) (S : Nat) (n : Nat) (ob : Option Nat) (l : List NodeT) (R : List (NodeT × Value)) : Prop where
 fst : R.map Prod.fst = copyL l
 args : ∀ (k : Nat) (r : NodeT × Value), R[k]? = some r → ∃ n', n = n' + 1 ∧ ArgsS (fun b => S ≤ b ∧ ob ≠ some b) wr n' r.2 r.1.args
structure CopySt (w : World) (n : Nat) (t2 : NodeT) (l : List NodeT) (wr : World) (i : Nat) (va : Option Addr) (vn vc : Nat) : Prop where
 box : NodeAt wr w.heap.size 0 t2 va vn vc
 f14 : wr.frozen? ⟨w.heap.size, 14, none⟩ = false
 res : ∃ cs, wr.heap[w.heap.size + 1]? = some (.cells cs 49 (0, 0)) ∧ cs.size = 15
 ob : ∀ g, (Value.slice va vn vc).ownBlock = some g → w.heap.size + 2 ≤ g
 rows : ∃ R, wr.ownsRow 0 49 15 (.slice va vn vc) i (R.flatMap rowC) ∧ CopyRows wr (w.heap.size + 2) n (Value.slice va vn vc).ownBlock (l.take i) R
 xt : Xt w wr
theorem infoNode : (Tryz.prog.info? 49).map (fun i => (i.zero, i.size, i.bytes)) = some (some (.agg #[.int .i64 0, .int .i64 0, .float .f64 0, .string ⟨#[]⟩, .bool false, .int .i64 0, .int .i64 0, .int .i64 0, .bool false, .bool false, .int .i64 0, .int .i64 0, .bool false, .bool false, .slice none 0 0]), 15, 128) := by kernel_rfl
theorem Xt.grownB {a b c : World} {r : Option Nat} (h : Xt a b) (k : b.grownBy c r) (hm : ∀ m, r = some m → a.heap.size ≤ m) : Xt a c := Below.grown h k h.size hm
theorem setCell_grown (w : World) (g o : Nat) (v : Value) : w.grownBy (w.setCell ⟨g, o, none⟩ v) (some g) := ⟨rfl, rfl, rfl, by simp, fun k _ hk => Below.heap_setCell _ _ _ _ (fun e => hk (by rw [e]))⟩
theorem nodeC_one (t : NodeT) (v : Value) (hv : v.oneCell' = true) : ∀ u ∈ nodeC t v, u.oneCell' = true := by
 intro u hu
 simp only [nodeC, List.mem_cons, List.not_mem_nil, or_false] at hu
 rcases hu with h | h | h | h | h | h | h | h | h | h | h | h | h | h | h <;> subst h <;> first | rfl | exact hv
theorem ownsRow_base {w : World} {e : TypeId} {size : Nat} {v : Value} {n : Nat} {xs : List Value} (h : w.ownsRow 0 e size v n xs) : ∃ a c, v = .slice a n c ∧ n ≤ c ∧ c ≤ 9223372036854775807 := by
 rcases h.2 with ⟨rfl, rfl⟩ | ⟨g, cap, cur, rfl, _, _, h1, h2, _⟩
 · exact ⟨_, _, rfl, Nat.le_refl _, by omega⟩
 · exact ⟨_, _, rfl, h1, by simp only [maxLen] at h2; omega⟩
theorem NodeAt.keep {w w' : World} {b o : Nat} {t : NodeT} {a : Option Addr} {n cap : Nat} (h : NodeAt w b o t a n cap) (e : ∀ o, w'.cell? ⟨b, o, none⟩ = w.cell? ⟨b, o, none⟩) : NodeAt w' b o t a n cap :=
 ⟨(e _).trans h.c0, (e _).trans h.c1, (e _).trans h.c2, (e _).trans h.c3, (e _).trans h.c4, (e _).trans h.c5, (e _).trans h.c6, (e _).trans h.c7, (e _).trans h.c8, (e _).trans h.c9, (e _).trans h.c10, (e _).trans h.c11, (e _).trans h.c12, (e _).trans h.c13, (e _).trans h.c14⟩
theorem copy_start {w w0 : World} {t : NodeT} {a : Option Addr} {m cap : Nat} (n ox : Nat) (l : List NodeT) (hc : NodeAt w0 w.heap.size 0 t a m cap) (hs : w0.heap.size = w.heap.size + 1) (hf : w0.frozen? ⟨w.heap.size, 14, none⟩ = false) (hg : Gr w w0) :
    CopySt w n (.mk t.kind t.op ox t.s t.b t.f t.ref t.to t.args) l (((w0.setCell ⟨w.heap.size, 2, none⟩ (.float .f64 ox)).setCell ⟨w.heap.size, 14, none⟩ (.slice none 0 0)).alloc (.cells #[.int .i64 0, .int .i64 0, .float .f64 0, .string ⟨#[]⟩, .bool false, .int .i64 0, .int .i64 0, .int .i64 0, .bool false, .bool false, .int .i64 0, .int .i64 0, .bool false, .bool false, .slice none 0 0] 49)) 0 none 0 0 := by
 obtain ⟨w1, hw1⟩ : ∃ w1, w0.setCell ⟨w.heap.size, 2, none⟩ (.float .f64 ox) = w1 := ⟨_, rfl⟩
 rw [hw1]
 obtain ⟨w2, hw2⟩ : ∃ w2, w1.setCell ⟨w.heap.size, 14, none⟩ (.slice none 0 0) = w2 := ⟨_, rfl⟩
 rw [hw2]
 have s1 : w1.heap.size = w.heap.size + 1 := by rw [← hw1]; simpa using hs
 have s2 : w2.heap.size = w.heap.size + 1 := by rw [← hw2]; simpa using s1
 have k1 : ∀ o v, o ≠ 2 → w0.cell? ⟨w.heap.size, o, none⟩ = some v → w1.cell? ⟨w.heap.size, o, none⟩ = some v := fun o v ho h => by
  rw [← hw1]; exact (World.cell?_setCell_other w0 _ _ _ (by intro e; cases e; exact ho rfl)).trans h
 have k2 : ∀ o v, o ≠ 14 → w1.cell? ⟨w.heap.size, o, none⟩ = some v → w2.cell? ⟨w.heap.size, o, none⟩ = some v := fun o v ho h => by
  rw [← hw2]; exact (World.cell?_setCell_other w1 _ _ _ (by intro e; cases e; exact ho rfl)).trans h
 have k3 : ∀ o v (ob : Obj), w2.cell? ⟨w.heap.size, o, none⟩ = some v → (w2.alloc ob).cell? ⟨w.heap.size, o, none⟩ = some v := fun o v ob h =>
  (World.cell?_of_block (w := w2) (a := ⟨w.heap.size, o, none⟩) (Below.heap_alloc w2 ob _ (by show w.heap.size < _; omega))).trans h
 have x1 : Xt w w1 := by rw [← hw1]; exact hg.xt.grownB (setCell_grown _ _ _ _) (fun m hm => by cases hm; exact Nat.le_refl _)
 have x2 : Xt w w2 := by rw [← hw2]; exact x1.grownB (setCell_grown _ _ _ _) (fun m hm => by cases hm; exact Nat.le_refl _)
 refine ⟨⟨?_, ?_, ?_, ?_, ?_, ?_, ?_, ?_, ?_, ?_, ?_, ?_, ?_, ?_, ?_⟩, ?_, ?_, fun g hg => (by cases hg), ⟨[], ?_, ?_, fun k r hk => (by simp at hk)⟩, x2.alloc _⟩
 · exact k3 _ _ _ (k2 _ _ (by omega) (k1 _ _ (by omega) hc.c0))
 · exact k3 _ _ _ (k2 _ _ (by omega) (k1 _ _ (by omega) hc.c1))
 · refine k3 _ _ _ (k2 _ _ (by omega) ?_)
   rw [← hw1, Nat.zero_add]; exact World.cell?_setCell_same' w0 _ _ (by have := hc.c2; rw [Nat.zero_add] at this; rw [this]; rfl)
 · exact k3 _ _ _ (k2 _ _ (by omega) (k1 _ _ (by omega) hc.c3))
 · exact k3 _ _ _ (k2 _ _ (by omega) (k1 _ _ (by omega) hc.c4))
 · exact k3 _ _ _ (k2 _ _ (by omega) (k1 _ _ (by omega) hc.c5))
 · exact k3 _ _ _ (k2 _ _ (by omega) (k1 _ _ (by omega) hc.c6))
 · exact k3 _ _ _ (k2 _ _ (by omega) (k1 _ _ (by omega) hc.c7))
 · exact k3 _ _ _ (k2 _ _ (by omega) (k1 _ _ (by omega) hc.c8))
 · exact k3 _ _ _ (k2 _ _ (by omega) (k1 _ _ (by omega) hc.c9))
 · exact k3 _ _ _ (k2 _ _ (by omega) (k1 _ _ (by omega) hc.c10))
 · exact k3 _ _ _ (k2 _ _ (by omega) (k1 _ _ (by omega) hc.c11))
 · exact k3 _ _ _ (k2 _ _ (by omega) (k1 _ _ (by omega) hc.c12))
 · exact k3 _ _ _ (k2 _ _ (by omega) (k1 _ _ (by omega) hc.c13))
 · refine k3 _ _ _ ?_
   have h14 := k1 _ _ (by omega) hc.c14
   rw [Nat.zero_add] at h14
   rw [← hw2, Nat.zero_add]; exact World.cell?_setCell_same' w1 _ _ (by rw [h14]; rfl)
 · have q1 : w1.frozen? ⟨w.heap.size, 14, none⟩ = false := by rw [← hw1]; simp [hf]
   have q2 : w2.frozen? ⟨w.heap.size, 14, none⟩ = false := by rw [← hw2]; simp [q1]
   exact (World.frozen?_of_block (w := w2) (a := ⟨w.heap.size, 14, none⟩) (Below.heap_alloc w2 _ _ (by show w.heap.size < _; omega))).trans q2
 · rw [← s2]; exact ⟨_, (MapKept.heap_alloc w2 _).1, rfl⟩
 · exact World.ownsRow_nil _ _ _ _
 · rfl
theorem copy_push {w wr w6 : World} {n n' i : Nat} {t2 x : NodeT} {l : List NodeT} {va a' : Option Addr} {vn vc : Nat} (hn : n = n' + 1) (h : CopySt w n t2 l wr i va vn vc) (hx : l[i]? = some x) (hl : l.length ≤ 1099511627744) (h6 : Xt wr w6)
    (hA : ArgsS (fun b => wr.heap.size ≤ b) w6 n' (.slice a' x.args.length x.args.length) (copyL x.args)) (wA : World) (hwA : w6.alloc (.cells #[.int .i64 x.kind, .int .i64 x.op, .float .f64 (oneX x.x), .string x.s, .bool x.b, .int .i64 x.f, .int .i64 x.ref.a.1, .int .i64 x.ref.a.2, .bool x.ref.cf, .bool x.ref.rf, .int .i64 x.to.a.1, .int .i64 x.to.a.2, .bool x.to.cf, .bool x.to.rf, .slice a' x.args.length x.args.length] 49) = wA) :
    ∃ va' vn' vc' w7, (Builtin.append_ #[47, 47] 47 #[.slice va vn vc, .slice (some ⟨w6.heap.size, 0, none⟩) 1 1]).run Tryz.prog wA = .ok (.slice va' vn' vc') w7 ∧ Xt w w6 ∧ Xt w wA ∧ Xt w w7 ∧ Xt w (w7.setCell ⟨w.heap.size, 14, none⟩ (.slice va' vn' vc')) ∧ (w6.cell? ⟨w.heap.size, 14, none⟩ = some (.slice va vn vc) ∧ wA.cell? ⟨w.heap.size, 14, none⟩ = some (.slice va vn vc) ∧ w7.cell? ⟨w.heap.size, 14, none⟩ = some (.slice va vn vc)) ∧ w7.frozen? ⟨w.heap.size, 14, none⟩ = false ∧ (∀ b o, wr.heap.size ≤ b → b < wA.heap.size → w7.cell? ⟨b, o, none⟩ = wA.cell? ⟨b, o, none⟩ ∧ (w7.setCell ⟨w.heap.size, 14, none⟩ (.slice va' vn' vc')).cell? ⟨b, o, none⟩ = wA.cell? ⟨b, o, none⟩) ∧
     CopySt w n t2 l (w7.setCell ⟨w.heap.size, 14, none⟩ (.slice va' vn' vc')) (i + 1) va' vn' vc' := by
 obtain ⟨i0, hi, hz0, hz1, hz2⟩ := info_parts infoNode
 obtain ⟨hbox, hf14, ⟨cs, hres, hcs⟩, hob, ⟨R, hown, hRf, hRa⟩, hxt⟩ := h
 have hil : i < l.length := (List.getElem?_eq_some_iff.1 hx).1
 have hBr : w.heap.size < wr.heap.size := World.block_lt_of_cell? wr _ hbox.c0
 have hB1 : w.heap.size + 1 < wr.heap.size := (Array.getElem?_eq_some_iff.1 hres).1
 have h6s := h6.sz
 have hxtA : Xt wr wA := by rw [← hwA]; exact h6.alloc _
 have hAs : wA.heap.size = w6.heap.size + 1 := by rw [← hwA]; simp
 have hRl : R.length = i := by
  have := congrArg List.length hRf
  rw [copyL_map] at this
  simp at this; omega
 have hownA : wA.ownsRow 0 49 15 (.slice va vn vc) i (R.flatMap rowC) :=
  World.ownsRow.kept hown (row := none) ⟨hxtA.os, hxtA.tape, hxtA.output, hxtA.size, fun k hk _ => hxtA.block k hk⟩ (by
   cases (Value.slice va vn vc).ownBlock with
   | none => exact Or.inl rfl
   | some q => exact Or.inr (by simp))
 have hnews : ∀ (j : Nat) (u : Value), (nodeC (copyT x) (.slice a' x.args.length x.args.length))[j]? = some u → wA.cell? ((⟨w6.heap.size, 0, none⟩ : Addr).add j) = some u := by
  rw [← hwA]
  have := news_at w6 (nodeC (copyT x) (.slice a' x.args.length x.args.length)) 49 (b := w6.heap.size) rfl
  cases x
  exact this
 obtain ⟨v', w7, hpush, hown7, hg7, hwh⟩ := run_append_where (P := Tryz.prog) wA 47 47 49 i0 _ 15 128 Tryz.underlying47 hi hz0 hz1 hz2 rfl (by decide) (.slice va vn vc) i (R.flatMap rowC) hownA ⟨w6.heap.size, 0, none⟩ 1 1 (nodeC (copyT x) (.slice a' x.args.length x.args.length)) rfl hnews (nodeC_one _ _ rfl) (by unfold maxLen; omega) (by omega)
 obtain ⟨va', vc', rfl, hvc1, hvc2⟩ := ownsRow_base hown7
 have hobl : ∀ g, (Value.slice va vn vc).ownBlock = some g → g < wr.heap.size := fun g hg => (World.ownsRow.lt hown g hg).2
 have hob' : ∀ g, (Value.slice va' (i + 1) vc').ownBlock = some g → w.heap.size + 2 ≤ g ∧ g < w7.heap.size := by
  intro g hg
  have hlt := (World.ownsRow.lt hown7 g hg).2
  rcases hwh with e | e
  · rw [e] at hg; exact ⟨hob g hg, hlt⟩
  · have := e g hg; exact ⟨by omega, hlt⟩
 have hx7 : Xt w w7 := (hxt.trans hxtA).grownB hg7 (fun m hm => by have := hob m hm; omega)
 have hn0 : (Value.slice va vn vc).ownBlock ≠ some w.heap.size := fun e => by have := hob _ e; omega
 have hn1 : (Value.slice va vn vc).ownBlock ≠ some (w.heap.size + 1) := fun e => by have := hob _ e; omega
 have k7 : ∀ b o, b < wr.heap.size → (Value.slice va vn vc).ownBlock ≠ some b → w7.cell? ⟨b, o, none⟩ = wr.cell? ⟨b, o, none⟩ := fun b o hb hne =>
  (World.cell?_of_block (w := wA) (a := ⟨b, o, none⟩) (hg7.block b (by omega) (fun e => hne e.symm))).trans ((hxtA.cells).1 b o hb)
 have hc14 := (k7 w.heap.size 14 hBr hn0).trans hbox.c14
 have hcell : ∀ o v, o ≠ 14 → wr.cell? ⟨w.heap.size, o, none⟩ = some v → (w7.setCell ⟨w.heap.size, 14, none⟩ (.slice va' (i + 1) vc')).cell? ⟨w.heap.size, o, none⟩ = some v := fun o v ho hv =>
  (World.cell?_setCell_other w7 _ _ _ (by intro e; cases e; exact ho rfl)).trans ((k7 _ o hBr hn0).trans hv)
 have hf7 : w7.frozen? ⟨w.heap.size, 14, none⟩ = false :=
  (World.frozen?_of_block (w := wr) (a := ⟨w.heap.size, 14, none⟩) ((hg7.block _ (by omega) (fun e => hn0 e.symm)).trans (hxtA.block _ hBr))).trans hf14
 have k8 : ∀ b, b < wr.heap.size → b ≠ w.heap.size → (Value.slice va vn vc).ownBlock ≠ some b → (w7.setCell ⟨w.heap.size, 14, none⟩ (.slice va' (i + 1) vc')).heap[b]? = wr.heap[b]? := fun b hb hne hob =>
  (Below.heap_setCell _ _ _ _ hne).trans ((hg7.block b (by omega) (fun e => hob e.symm)).trans (hxtA.block b hb))
 refine ⟨va', i + 1, vc', w7, hpush, hxt.trans h6, hxt.trans hxtA, hx7, hx7.grownB (setCell_grown _ _ _ _) (fun m hm => by cases hm; exact Nat.le_refl _), ⟨((h6.cells).1 _ _ hBr).trans hbox.c14, ((hxtA.cells).1 _ _ hBr).trans hbox.c14, hc14⟩, hf7, fun b o hb hl => ?_, ?_⟩
 · have e7 : w7.cell? ⟨b, o, none⟩ = wA.cell? ⟨b, o, none⟩ := World.cell?_of_block (w := wA) (a := ⟨b, o, none⟩) (hg7.block b hl (fun e => by have := hobl b e.symm; omega))
   exact ⟨e7, (World.cell?_setCell_far _ _ _ _ (by show w.heap.size ≠ b; omega)).trans e7⟩
 refine ⟨⟨?_, ?_, ?_, ?_, ?_, ?_, ?_, ?_, ?_, ?_, ?_, ?_, ?_, ?_, ?_⟩, ?_, ?_, fun g hg => (hob' g hg).1, ?_, hx7.grownB (setCell_grown _ _ _ _) (fun m hm => by cases hm; exact Nat.le_refl _)⟩
 · exact hcell _ _ (by omega) hbox.c0
 · exact hcell _ _ (by omega) hbox.c1
 · exact hcell _ _ (by omega) hbox.c2
 · exact hcell _ _ (by omega) hbox.c3
 · exact hcell _ _ (by omega) hbox.c4
 · exact hcell _ _ (by omega) hbox.c5
 · exact hcell _ _ (by omega) hbox.c6
 · exact hcell _ _ (by omega) hbox.c7
 · exact hcell _ _ (by omega) hbox.c8
 · exact hcell _ _ (by omega) hbox.c9
 · exact hcell _ _ (by omega) hbox.c10
 · exact hcell _ _ (by omega) hbox.c11
 · exact hcell _ _ (by omega) hbox.c12
 · exact hcell _ _ (by omega) hbox.c13
 · rw [Nat.zero_add]; exact World.cell?_setCell_same' w7 _ _ (by rw [hc14]; rfl)
 · simp [hf7]
 · exact ⟨cs, (k8 _ hB1 (by omega) hn1).trans hres, hcs⟩
 · have e7 : (R ++ [(copyT x, Value.slice a' x.args.length x.args.length)]).flatMap rowC = R.flatMap rowC ++ nodeC (copyT x) (.slice a' x.args.length x.args.length) := by simp [rowC]
   refine ⟨R ++ [(copyT x, .slice a' x.args.length x.args.length)], ?_, ?_, ?_⟩
   · rw [e7]
     exact ownsRow_setCell_other hown7 (a := ⟨w.heap.size, 14, none⟩) (fun e => by have := (hob' _ e).1; simp at this; omega) _
   · rw [List.map_append, hRf, copyL_map, copyL_map, List.take_add_one, hx]; simp
   · intro k r hk
     have hk7 : ∀ b o, b < wr.heap.size → b ≠ w.heap.size → (Value.slice va vn vc).ownBlock ≠ some b → (w7.setCell ⟨w.heap.size, 14, none⟩ (.slice va' (i + 1) vc')).cell? ⟨b, o, none⟩ = wr.cell? ⟨b, o, none⟩ := fun b o hb hne hob =>
      World.cell?_of_block (w := wr) (a := ⟨b, o, none⟩) (k8 b hb hne hob)
     have hobn : ∀ b, b < w6.heap.size → (Value.slice va vn vc).ownBlock ≠ some b → (Value.slice va' (i + 1) vc').ownBlock ≠ some b := by
      intro b hb hne e
      rcases hwh with e' | e'
      · rw [e'] at e; exact hne e
      · have := e' b e; omega
     by_cases hkl : k < R.length
     · rw [List.getElem?_append_left hkl] at hk
       obtain ⟨n1, hn1', hAk⟩ := hRa k r hk
       exact ⟨n1, hn1', hAk.keep (fun b hb hlt => ⟨hb.1, hobn b (by omega) hb.2⟩) (fun b o hb hlt => hk7 b o hlt (by omega) hb.2)⟩
     · rw [List.getElem?_append_right (by omega)] at hk
       have hk0 : k - R.length = 0 := by
        rcases Nat.eq_zero_or_pos (k - R.length) with e | e
        · exact e
        · rw [List.getElem?_eq_none (by simp; omega)] at hk; cases hk
       rw [hk0] at hk
       simp only [List.getElem?_cons_zero, Option.some.injEq] at hk
       subst hk
       refine ⟨n', hn, ?_⟩
       have hk6 : ∀ b o, wr.heap.size ≤ b → b < w6.heap.size → (w7.setCell ⟨w.heap.size, 14, none⟩ (.slice va' (i + 1) vc')).cell? ⟨b, o, none⟩ = w6.cell? ⟨b, o, none⟩ := by
        intro b o hb hlt
        refine World.cell?_of_block (w := w6) (a := ⟨b, o, none⟩) ?_
        refine (Below.heap_setCell _ _ _ _ (by show b ≠ w.heap.size; omega)).trans ((hg7.block b (by omega) (fun e => by have := hobl b e.symm; omega)).trans ?_)
        rw [← hwA]
        exact Below.heap_alloc w6 _ b hlt
       have hA2 : ArgsS (fun b => wr.heap.size ≤ b) w6 n' (.slice a' x.args.length x.args.length) (copyT x).args := by cases x; exact hA
       exact hA2.keep (fun b hb hlt => ⟨by omega, hobn b hlt (fun e => by have := hobl b e; omega)⟩) (fun b o hb hlt => hk6 b o hb hlt)
theorem copy_end {w wr w' : World} {n : Nat} {t2 : NodeT} {l : List NodeT} {va : Option Addr} {vn vc : Nat} (h : CopySt w n t2 l wr l.length va vn vc) (hk : ∀ b o, w.heap.size + 2 ≤ b → b < wr.heap.size → w'.cell? ⟨b, o, none⟩ = wr.cell? ⟨b, o, none⟩) :
    vn = l.length ∧ l.length ≤ vc ∧ vc ≤ 9223372036854775807 ∧ ArgsS (fun b => w.heap.size ≤ b) w' n (.slice va l.length l.length) (copyL l) := by
 obtain ⟨_, _, _, hob, ⟨R, hown, hRf, hRa⟩, _⟩ := h
 obtain ⟨a2, c2, e, h1, h2⟩ := ownsRow_base hown
 cases e
 refine ⟨rfl, h1, h2, ?_⟩
 rw [List.take_length] at hRf
 have hRl : R.length = l.length := by have := congrArg List.length hRf; rw [copyL_map] at this; simpa using this
 have hcl : (copyL l).length = l.length := by rw [copyL_map]; simp
 cases n with
 | zero =>
  cases R with
  | nil =>
   have : l = [] := List.eq_nil_of_length_eq_zero (by rw [← hRl]; rfl)
   subst this
   exact ⟨rfl, _, _, rfl, by simp⟩
  | cons r R => obtain ⟨n', hn, _⟩ := hRa 0 r rfl; cases hn
 | succ n =>
  refine ⟨va, l.length, by rw [hcl], by rw [hcl]; exact Nat.le_refl _, by omega, fun hne => ?_⟩
  have hlne : l ≠ [] := fun e => hne (by subst e; rfl)
  rcases hown.2 with ⟨_, h0⟩ | ⟨g, cap, cur, e, _⟩
  · exact absurd (List.length_eq_zero_iff.1 h0) hlne
  · cases e
    have hg2 := hob g rfl
    have hgl := (World.ownsRow.lt hown g rfl).2
    refine ⟨g, 0, rfl, by omega, fun k t ht => ?_⟩
    rw [← hRf, List.getElem?_map] at ht
    obtain ⟨r, hr, rfl⟩ := Option.map_eq_some_iff.1 ht
    obtain ⟨n', hn', hA⟩ := hRa k r hr
    cases hn'
    refine ⟨r.2, fun i u hu => ?_, hA.keep (fun b hb _ => by have := hb.1; omega) (fun b o hb hlt => hk b o hb.1 hlt)⟩
    have hi : i < 15 := (List.getElem?_eq_some_iff.1 hu).1
    have hf := rflat_at rowC 15 rowC_len R k i r hr hi
    have := World.ownsRow.cells hown (g := g) rfl (k * 15 + i) u (hf.trans hu)
    rw [Nat.zero_add, hk g _ hg2 hgl]
    rw [← this, Addr.add_lit, Nat.zero_add]
theorem row_frozen {w : World} {b : Nat} {cs : Array Value} {T : TypeId} (h : w.heap[b]? = some (.cells cs T (0, 0))) : w.frozen? ⟨b, 0, none⟩ = false ∧ w.frozen? ⟨b, 1, none⟩ = false ∧ w.frozen? ⟨b, 2, none⟩ = false ∧ w.frozen? ⟨b, 3, none⟩ = false ∧ w.frozen? ⟨b, 4, none⟩ = false ∧ w.frozen? ⟨b, 5, none⟩ = false ∧ w.frozen? ⟨b, 6, none⟩ = false ∧ w.frozen? ⟨b, 7, none⟩ = false ∧ w.frozen? ⟨b, 8, none⟩ = false ∧ w.frozen? ⟨b, 9, none⟩ = false ∧ w.frozen? ⟨b, 10, none⟩ = false ∧ w.frozen? ⟨b, 11, none⟩ = false ∧ w.frozen? ⟨b, 12, none⟩ = false ∧ w.frozen? ⟨b, 13, none⟩ = false ∧ w.frozen? ⟨b, 14, none⟩ = false := by
 have hk : ∀ o, w.frozen? ⟨b, o, none⟩ = false := fun o => by simp [World.frozen?, h]
 exact ⟨hk 0, hk 1, hk 2, hk 3, hk 4, hk 5, hk 6, hk 7, hk 8, hk 9, hk 10, hk 11, hk 12, hk 13, hk 14⟩
theorem row_there {w : World} {b : Nat} {cs : Array Value} {T : TypeId} (h : w.heap[b]? = some (.cells cs T (0, 0))) (hs : cs.size = 15) : ∃ v0 v1 v2 v3 v4 v5 v6 v7 v8 v9 v10 v11 v12 v13 v14, w.cell? ⟨b, 0, none⟩ = some v0 ∧ w.cell? ⟨b, 1, none⟩ = some v1 ∧ w.cell? ⟨b, 2, none⟩ = some v2 ∧ w.cell? ⟨b, 3, none⟩ = some v3 ∧ w.cell? ⟨b, 4, none⟩ = some v4 ∧ w.cell? ⟨b, 5, none⟩ = some v5 ∧ w.cell? ⟨b, 6, none⟩ = some v6 ∧ w.cell? ⟨b, 7, none⟩ = some v7 ∧ w.cell? ⟨b, 8, none⟩ = some v8 ∧ w.cell? ⟨b, 9, none⟩ = some v9 ∧ w.cell? ⟨b, 10, none⟩ = some v10 ∧ w.cell? ⟨b, 11, none⟩ = some v11 ∧ w.cell? ⟨b, 12, none⟩ = some v12 ∧ w.cell? ⟨b, 13, none⟩ = some v13 ∧ w.cell? ⟨b, 14, none⟩ = some v14 := by
 have hk : ∀ o, o < 15 → w.cell? ⟨b, o, none⟩ = some (cs.getD o undef) := fun o ho => by simp [World.cell?, h, hs, ho]
 exact ⟨_, _, _, _, _, _, _, _, _, _, _, _, _, _, _, hk 0 (by omega), hk 1 (by omega), hk 2 (by omega), hk 3 (by omega), hk 4 (by omega), hk 5 (by omega), hk 6 (by omega), hk 7 (by omega), hk 8 (by omega), hk 9 (by omega), hk 10 (by omega), hk 11 (by omega), hk 12 (by omega), hk 13 (by omega), hk 14 (by omega)⟩
theorem setCell_row {w : World} {b : Nat} {cs : Array Value} {T : TypeId} {fz : Nat × Nat} (h : w.heap[b]? = some (.cells cs T fz)) (o : Nat) (v : Value) : (w.setCell ⟨b, o, none⟩ v).heap[b]? = some (.cells (cs.setIfInBounds o v) T fz) := by
 simp [World.setCell, Array.getElem?_modify, h]
theorem row15 {cs : Array Value} (h : cs.size = 15) (v0 v1 v2 v3 v4 v5 v6 v7 v8 v9 v10 v11 v12 v13 v14 : Value) : (((((((((((((((cs.setIfInBounds 0 v0).setIfInBounds 1 v1).setIfInBounds 2 v2).setIfInBounds 3 v3).setIfInBounds 4 v4).setIfInBounds 5 v5).setIfInBounds 6 v6).setIfInBounds 7 v7).setIfInBounds 8 v8).setIfInBounds 9 v9).setIfInBounds 10 v10).setIfInBounds 11 v11).setIfInBounds 12 v12).setIfInBounds 13 v13).setIfInBounds 14 v14) = #[v0, v1, v2, v3, v4, v5, v6, v7, v8, v9, v10, v11, v12, v13, v14] := by
 obtain ⟨l⟩ := cs
 have h' : l.length = 15 := h
 rcases l with _ | ⟨a0, l⟩
 · simp at h'
 rcases l with _ | ⟨a1, l⟩
 · simp at h'
 rcases l with _ | ⟨a2, l⟩
 · simp at h'
 rcases l with _ | ⟨a3, l⟩
 · simp at h'
 rcases l with _ | ⟨a4, l⟩
 · simp at h'
 rcases l with _ | ⟨a5, l⟩
 · simp at h'
 rcases l with _ | ⟨a6, l⟩
 · simp at h'
 rcases l with _ | ⟨a7, l⟩
 · simp at h'
 rcases l with _ | ⟨a8, l⟩
 · simp at h'
 rcases l with _ | ⟨a9, l⟩
 · simp at h'
 rcases l with _ | ⟨a10, l⟩
 · simp at h'
 rcases l with _ | ⟨a11, l⟩
 · simp at h'
 rcases l with _ | ⟨a12, l⟩
 · simp at h'
 rcases l with _ | ⟨a13, l⟩
 · simp at h'
 rcases l with _ | ⟨a14, l⟩
 · simp at h'
 rcases l with _ | ⟨a15, l⟩
 · simp only [List.setIfInBounds_toArray, List.set_cons_zero, List.set_cons_succ]
 · simp at h'
theorem grown_set {w w' : World} {b : Nat} (h : w.grownBy w' (some b)) (o : Nat) (v : Value) : w.grownBy (w'.setCell ⟨b, o, none⟩ v) (some b) := World.grownBy.trans h (setCell_grown _ _ _ _)
theorem fill15 {w : World} {b : Nat} {cs : Array Value} {T : TypeId} (h : w.heap[b]? = some (.cells cs T (0, 0))) (hs : cs.size = 15) (v0 v1 v2 v3 v4 v5 v6 v7 v8 v9 v10 v11 v12 v13 v14 : Value) :
    (((((((((((((((w.setCell ⟨b, 0, none⟩ v0).setCell ⟨b, 1, none⟩ v1).setCell ⟨b, 2, none⟩ v2).setCell ⟨b, 3, none⟩ v3).setCell ⟨b, 4, none⟩ v4).setCell ⟨b, 5, none⟩ v5).setCell ⟨b, 6, none⟩ v6).setCell ⟨b, 7, none⟩ v7).setCell ⟨b, 8, none⟩ v8).setCell ⟨b, 9, none⟩ v9).setCell ⟨b, 10, none⟩ v10).setCell ⟨b, 11, none⟩ v11).setCell ⟨b, 12, none⟩ v12).setCell ⟨b, 13, none⟩ v13).setCell ⟨b, 14, none⟩ v14).heap[b]? = some (.cells #[v0, v1, v2, v3, v4, v5, v6, v7, v8, v9, v10, v11, v12, v13, v14] T (0, 0)) ∧ w.grownBy (((((((((((((((w.setCell ⟨b, 0, none⟩ v0).setCell ⟨b, 1, none⟩ v1).setCell ⟨b, 2, none⟩ v2).setCell ⟨b, 3, none⟩ v3).setCell ⟨b, 4, none⟩ v4).setCell ⟨b, 5, none⟩ v5).setCell ⟨b, 6, none⟩ v6).setCell ⟨b, 7, none⟩ v7).setCell ⟨b, 8, none⟩ v8).setCell ⟨b, 9, none⟩ v9).setCell ⟨b, 10, none⟩ v10).setCell ⟨b, 11, none⟩ v11).setCell ⟨b, 12, none⟩ v12).setCell ⟨b, 13, none⟩ v13).setCell ⟨b, 14, none⟩ v14) (some b) := by
 refine ⟨?_, (grown_set (grown_set (grown_set (grown_set (grown_set (grown_set (grown_set (grown_set (grown_set (grown_set (grown_set (grown_set (grown_set (grown_set (grown_set (World.grownBy.refl w _) 0 v0) 1 v1) 2 v2) 3 v3) 4 v4) 5 v5) 6 v6) 7 v7) 8 v8) 9 v9) 10 v10) 11 v11) 12 v12) 13 v13) 14 v14)⟩
 rw [← row15 hs]
 exact (setCell_row (setCell_row (setCell_row (setCell_row (setCell_row (setCell_row (setCell_row (setCell_row (setCell_row (setCell_row (setCell_row (setCell_row (setCell_row (setCell_row (setCell_row h 0 v0) 1 v1) 2 v2) 3 v3) 4 v4) 5 v5) 6 v6) 7 v7) 8 v8) 9 v9) 10 v10) 11 v11) 12 v12) 13 v13) 14 v14)
theorem NodeAt.facts0 {w : World} {b : Nat} {k op : Int} {x : Nat} {s : ByteArray} {bb : Bool} {f : Int} {r q : RefT} {l : List NodeT} {a : Option Addr} {n c : Nat} (h : NodeAt w b 0 (.mk k op x s bb f r q l) a n c) : w.cell? ⟨b, 0, none⟩ = some (.int .i64 k) ∧ w.cell? ⟨b, 1, none⟩ = some (.int .i64 op) ∧ w.cell? ⟨b, 2, none⟩ = some (.float .f64 x) ∧ w.cell? ⟨b, 3, none⟩ = some (.string s) ∧ w.cell? ⟨b, 4, none⟩ = some (.bool bb) ∧ w.cell? ⟨b, 5, none⟩ = some (.int .i64 f) ∧ w.cell? ⟨b, 6, none⟩ = some (.int .i64 r.a.1) ∧ w.cell? ⟨b, 7, none⟩ = some (.int .i64 r.a.2) ∧ w.cell? ⟨b, 8, none⟩ = some (.bool r.cf) ∧ w.cell? ⟨b, 9, none⟩ = some (.bool r.rf) ∧ w.cell? ⟨b, 10, none⟩ = some (.int .i64 q.a.1) ∧ w.cell? ⟨b, 11, none⟩ = some (.int .i64 q.a.2) ∧ w.cell? ⟨b, 12, none⟩ = some (.bool q.cf) ∧ w.cell? ⟨b, 13, none⟩ = some (.bool q.rf) ∧ w.cell? ⟨b, 14, none⟩ = some (.slice a n c) :=
 ⟨h.c0, by have := h.c1; rw [Nat.zero_add] at this; exact this, by have := h.c2; rw [Nat.zero_add] at this; exact this, by have := h.c3; rw [Nat.zero_add] at this; exact this, by have := h.c4; rw [Nat.zero_add] at this; exact this, by have := h.c5; rw [Nat.zero_add] at this; exact this, by have := h.c6; rw [Nat.zero_add] at this; exact this, by have := h.c7; rw [Nat.zero_add] at this; exact this, by have := h.c8; rw [Nat.zero_add] at this; exact this, by have := h.c9; rw [Nat.zero_add] at this; exact this, by have := h.c10; rw [Nat.zero_add] at this; exact this, by have := h.c11; rw [Nat.zero_add] at this; exact this, by have := h.c12; rw [Nat.zero_add] at this; exact this, by have := h.c13; rw [Nat.zero_add] at this; exact this, by have := h.c14; rw [Nat.zero_add] at this; exact this⟩
end Go.Proofs.YtdoeejhdenifpaaGreatDoor
namespace Go.Proofs.YtdoeejhdenifpaaGreatDoor
open Go.RowKit Go.Sort
def powB (i : Nat) : Nat := (1023 - i) * 4503599627370496
theorem pow_all : (List.range 1022).all (fun i => floatBits .quo .f64 (powB i) 4611686018427387904 == some (powB (i + 1))) = true := by decide +kernel
theorem pow_step {i : Nat} (h : i < 1022) : floatBits .quo .f64 (powB i) 4611686018427387904 = some (powB (i + 1)) := by
 have h2 := List.all_eq_true.1 pow_all i (List.mem_range.2 h)
 exact eq_of_beq h2
set_option maxRecDepth 100000 in
set_option maxHeartbeats 2000000 in
theorem power_any (w : World) : Calls Tryz.prog 190 #[.int .i64 (-1022)] w fun e w' => e = .returned (.float .f64 (powB 1022)) ∧ w = w' := by
 go_enter Tryz.func190, Tryz.ntmps190
 go_wp2_with fail
 go_loopw [3, 8] (fun s3 s8 wr => ∃ i : Nat, i ≤ 1022 ∧ s8 = .int .i64 i ∧ s3 = .float .f64 (powB i) ∧ w = wr) (fun _ s8 _ => 1022 - (intOf s8).toNat)
 case atStart => exact ⟨0, by omega, rfl, rfl, rfl⟩
 case round =>
  obtain ⟨i, hi, rfl, rfl, rfl⟩ := hrel
  by_cases h : i < 1022
  · have hii : (i : Int) < 1022 := by omega
    have hst := run_float_arith (P := Tryz.prog) w .quo 42 .f64 (powB i) 4611686018427387904 _ (pow_step h)
    generalize hpi : powB i = pi at hst
    generalize hpj : powB (i + 1) = pj at hst
    have HP := Lib.hid hpj
    clear hpi hpj
    go_wp2_with fail
    go_roundw
    case rel => refine ⟨i + 1, by omega, by go_num, ?_, ?_⟩ <;> first | trivial | rw [HP.out]
    case measure => simp [intOf]; omega
  · have he : i = 1022 := by omega
    subst he
    go_wp2_with fail
    go_ret
    exact ⟨rfl, rfl⟩
def absX (x : Nat) : Nat := (bits .andNot .u64 x 9223372036854775808).toNat
theorem Abs_any (x : Nat) (w : World) : Calls Tryz.prog 168 #[.float .f64 x] w fun e w' => e = .returned (.float .f64 (absX x)) ∧ w = w' := by
 go_enter Tryz.func168, Tryz.ntmps168
 go_wp2_with fail
 go_ret
 exact ⟨rfl, rfl⟩
abbrev ordX (a b : Nat) : Option Ordering := (FloatKind.format .f64).order a b
def classX (x : Nat) : Int :=
 if ordX x x != some .eq then 1
 else if ordX (absX x) 9218868437227405311 == some .gt then 2
 else if ordX (absX x) 0 == some .eq then 3
 else if ordX (absX x) (powB 1022) == some .lt then 4 else 5
set_option maxHeartbeats 2000000 in
theorem Class_any (x : Nat) (w : World) : Calls Tryz.prog 173 #[.float .f64 x] w fun e w' => e = .returned (.int .i64 (classX x)) ∧ w = w' := by
 have hc := Abs_any x w
 have hp := power_any w
 have HC := Lib.hid hc
 have HP := Lib.hid hp
 generalize hn : classX x = ans
 have HA := Lib.hid hn
 unfold classX ordX at HA
 generalize absX x = ax at HC HA
 generalize powB 1022 = px at HP HA
 clear hc hp hn
 go_enter Tryz.func173, Tryz.ntmps173
 go_wp2_with (first | (refine (HC.out).mono ?_; rintro e w' ⟨rfl, rfl⟩) | (refine (HP.out).mono ?_; rintro e w' ⟨rfl, rfl⟩))
 all_goals (go_ret; refine ⟨?_, rfl⟩; rw [← HA.out]; simp [*]; done)
end Go.Proofs.YtdoeejhdenifpaaGreatDoor
