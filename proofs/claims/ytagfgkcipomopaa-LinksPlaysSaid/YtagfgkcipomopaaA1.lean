import Derived.WalkKit
import Derived.Sort.Grow
import Derived.Lib.Hide
import Derived.Deep.Draws
import Derived.Test.YtagfgkcipomopaaProg
import Derived.WalkSpells
import Derived.WalkLawsBesides
import Derived.BigQuiet
import Derived.Deep.QuietTactic
import Derived.StillTailTactics
import Derived.Deep.RegionWith
import Derived.MapKept
import GoSem.Instr.MapEntry
import GoSem.Builtin.Delete
import Derived.Shelf.SlSortCmp.WholeK
import Derived.Shelf.SlicesE.Clone
import Derived.Maps.RangeRun
import Derived.Maps.RangeWalk
import Derived.Sort.LotA
import Derived.Shelf.SlSortCmp.NoneTotal
import Derived.Deep.LoopGhost
namespace Go.Proofs.Ytagfgkcipomopaa
open Go.RowKit Go.Sort

/-! ### worlds that only grow -/
/-- Draws and new blocks alone. -/
def Gr (w w' : World) : Prop := ∃ q os, w' = grow (w.drewN q) os
theorem Gr.refl (w : World) : Gr w w := ⟨0, #[], by rw [grow_empty]; rfl⟩
theorem Gr.trans {a b c : World} (h : Gr a b) (k : Gr b c) : Gr a c := by
  obtain ⟨q, os, rfl⟩ := h
  obtain ⟨q', os', rfl⟩ := k
  exact ⟨q + q', os ++ os', by show grow (grow ((a.drewN q).drewN q') os) os' = _; rw [grow_grow, World.drewN_drewN]⟩
theorem Gr.alloc {a b : World} (h : Gr a b) (o : Obj) : Gr a (b.alloc o) := h.trans ⟨0, #[o], by rw [alloc_eq_grow]; rfl⟩
theorem Gr.drew {a b : World} (h : Gr a b) : Gr a b.drew := h.trans ⟨1, #[], by rw [grow_empty]; rfl⟩
theorem Gr.drewN {a b : World} (h : Gr a b) (n : Nat) : Gr a (b.drewN n) := h.trans ⟨n, #[], by rw [grow_empty]⟩
theorem Gr.below {a b : World} (h : Gr a b) : Below a.heap.size a b := by
  obtain ⟨q, os, rfl⟩ := h
  exact ⟨rfl, rfl, rfl, by simp [World.drewN], fun k hk => heap_grow_old _ _ hk⟩
/-- Nothing that was there has turned. -/
def Xt (w w' : World) : Prop := Below w.heap.size w w'
theorem Xt.refl (w : World) : Xt w w := Below.refl _ _
theorem Xt.trans {a b c : World} (h : Xt a b) (k : Xt b c) : Xt a c := Below.trans h (Below.mono k h.size)
theorem Gr.xt {a b : World} (h : Gr a b) : Xt a b := h.below
theorem Xt.alloc {a b : World} (h : Xt a b) (o : Obj) : Xt a (b.alloc o) := Below.alloc h h.size o
theorem Xt.drew {a b : World} (h : Xt a b) : Xt a b.drew := Below.drew h
theorem Xt.cells {a b : World} (h : Xt a b) : (∀ k o, k < a.heap.size → b.cell? ⟨k, o, none⟩ = a.cell? ⟨k, o, none⟩) ∧ (∀ k o, k < a.heap.size → b.frozen? ⟨k, o, none⟩ = a.frozen? ⟨k, o, none⟩) :=
  ⟨fun k _ hk => Below.cell h (p := ⟨k, _, none⟩) hk, fun k _ hk => Below.frozen h (p := ⟨k, _, none⟩) hk⟩
theorem Xt.sz {a b : World} (h : Xt a b) : a.heap.size ≤ b.heap.size := Below.size h

end Go.Proofs.Ytagfgkcipomopaa
namespace Go.Proofs.Ytagfgkcipomopaa
open Go.RowKit Go.Sort

theorem new2a (w : World) (a b : Value) (T : TypeId) {k : Nat} (hk : k = w.heap.size) : (w.alloc (.cells #[a, b] T)).drew.cell? ⟨k, 0, none⟩ = some a := by
  subst hk; simp
theorem new2b (w : World) (a b : Value) (T : TypeId) {k : Nat} (hk : k = w.heap.size) : (w.alloc (.cells #[a, b] T)).drew.cell? ⟨k, 1, none⟩ = some b := by
  subst hk; simp
/-! ### addr -/
theorem isNaN_any (a : Int) (w : World) :
    Calls Try.prog 80 #[.int .i64 a] w fun e w' => e = .returned (.bool false) ∧ w = w' := by
  go_enter Try.func80, Try.ntmps80
  go_wp2
  go_ret
  exact ⟨rfl, rfl⟩

def cmpI (a b : Int) : Int := if a < b then -1 else if b < a then 1 else 0

set_option maxHeartbeats 400000 in
theorem compare_any (a b : Int) (w : World) :
    Calls Try.prog 66 #[.int .i64 a, .int .i64 b] w fun e w' => e = .returned (.int .i64 (cmpI a b)) ∧ w = w' := by
  by_cases h1 : a < b
  · have hc : cmpI a b = -1 := by simp [cmpI, h1]
    rw [hc]
    go_enter Try.func66, Try.ntmps66
    go_wp2
    go_ret
    exact ⟨rfl, rfl⟩
  · by_cases h2 : b < a
    · have hc : cmpI a b = 1 := by simp [cmpI, h1, h2]
      rw [hc]
      go_enter Try.func66, Try.ntmps66
      go_wp2
      go_ret
      exact ⟨rfl, rfl⟩
    · have hc : cmpI a b = 0 := by simp [cmpI, h1, h2]
      rw [hc]
      go_enter Try.func66, Try.ntmps66
      go_wp2
      go_ret
      exact ⟨rfl, rfl⟩

def validB (c r : Int) : Bool := decide (1 ≤ c) && decide (c ≤ 256) && decide (1 ≤ r) && decide (r ≤ 4096)

set_option maxHeartbeats 400000 in
theorem valid_any (c r : Int) (w : World) :
    Calls Try.prog 35 #[.agg #[.int .i64 c, .int .i64 r]] w fun e w' => e = .returned (.bool (validB c r)) ∧ w' = w.alloc (.cells #[.int .i64 c, .int .i64 r] 34) := by
  unfold validB
  go_enter Try.func35, Try.ntmps35
  go_wp2
  all_goals (go_ret; refine ⟨?_, rfl⟩; congr 2; simp [*])
  all_goals omega

def validA (a b c d : Int) : Bool := validB a b && validB c d && decide (a ≤ c) && decide (b ≤ d)

set_option maxHeartbeats 400000 in
theorem validArea_any (a b c d : Int) (w : World) :
    Calls Try.prog 43 #[.agg #[.int .i64 a, .int .i64 b, .int .i64 c, .int .i64 d]] w fun e w' => e = .returned (.bool (validA a b c d)) ∧ Gr w w' := by
  unfold validA
  cases h1 : validB a b <;> cases h2 : validB c d
  all_goals
    go_enter Try.func43, Try.ntmps43
    go_wp2_with (go_at_call 35; refine (valid_any _ _ _).mono ?_; rintro e w' ⟨rfl, rfl⟩)
    all_goals (go_ret; refine ⟨by congr 2; try (simp [*]; try omega), by repeat (first | exact Gr.refl _ | refine Gr.alloc ?_ _)⟩)

def inB (a b c d x y : Int) : Bool := validA a b c d && decide (a ≤ x) && decide (x ≤ c) && decide (b ≤ y) && decide (y ≤ d)
set_option maxHeartbeats 400000 in
theorem in_any (a b c d x y : Int) (w : World) :
    Calls Try.prog 67 #[.agg #[.int .i64 a, .int .i64 b, .int .i64 c, .int .i64 d], .agg #[.int .i64 x, .int .i64 y]] w fun e w' => e = .returned (.bool (inB a b c d x y)) ∧ Gr w w' := by
  unfold inB
  cases h1 : validA a b c d
  all_goals
    go_enter Try.func67, Try.ntmps67
    go_wp2_with (go_at_call 43; refine (validArea_any _ _ _ _ _).mono ?_; rintro e w' ⟨rfl, hg⟩; obtain ⟨hgc, hgf⟩ := hg.xt.cells; have hgz := hg.xt.sz)
    all_goals (go_ret; refine ⟨by congr 2; try (simp [*]; try omega), Gr.trans (((Gr.refl _).alloc _).alloc _) (by assumption)⟩)

def orderI (a b x y : Int) : Int := if cmpI b y = 0 then cmpI a x else cmpI b y
theorem or2_0 (b : Int) (k : Nat) (w : World) (h0 : w.cell? ⟨k, 0, none⟩ = some (.int .i64 0)) (h1 : w.cell? ⟨k, 1, none⟩ = some (.int .i64 b)) :
    Calls Try.prog 65 #[.slice (some ⟨k, 0, none⟩) 2 2] w fun e w' => e = .returned (.int .i64 b) ∧ w = w' := by
  by_cases hb : b = 0
  · subst hb
    go_enter Try.func65, Try.ntmps65
    go_wp2
    refine wp_loop_rounds 3 ?_
    rw [rounds_succ]
    go_wp2
    rw [rounds_succ]
    go_wp2
    rw [rounds_succ]
    go_wp2
    go_ret
    exact ⟨rfl, rfl⟩
  · have hb' : (b == 0) = false := by simpa using hb
    have hb2 : (b != 0) = true := by simpa using hb
    go_enter Try.func65, Try.ntmps65
    go_wp2
    refine wp_loop_rounds 3 ?_
    rw [rounds_succ]
    go_wp2
    rw [rounds_succ]
    go_wp2
    go_ret
    exact ⟨rfl, rfl⟩
theorem or2_1 (a b : Int) (k : Nat) (w : World) (h0 : w.cell? ⟨k, 0, none⟩ = some (.int .i64 a)) (_ : w.cell? ⟨k, 1, none⟩ = some (.int .i64 b)) (ha : a ≠ 0) :
    Calls Try.prog 65 #[.slice (some ⟨k, 0, none⟩) 2 2] w fun e w' => e = .returned (.int .i64 a) ∧ w = w' := by
  have hb2 : (a != 0) = true := by simpa using ha
  go_enter Try.func65, Try.ntmps65
  go_wp2
  refine wp_loop_rounds 1 ?_
  rw [rounds_succ]
  go_wp2
  go_ret
  exact ⟨rfl, rfl⟩
def orI (a b : Int) : Int := if a = 0 then b else a
theorem or2_any (a b : Int) (k : Nat) (w : World) (h0 : w.cell? ⟨k, 0, none⟩ = some (.int .i64 a)) (h1 : w.cell? ⟨k, 1, none⟩ = some (.int .i64 b)) :
    Calls Try.prog 65 #[.slice (some ⟨k, 0, none⟩) 2 2] w fun e w' => e = .returned (.int .i64 (orI a b)) ∧ w = w' := by
  by_cases ha : a = 0
  · subst ha; exact or2_0 b k w h0 h1
  · rw [show orI a b = a from if_neg ha]; exact or2_1 a b k w h0 h1 ha

set_option maxHeartbeats 400000 in
set_option maxRecDepth 100000 in
theorem order_any (a b x y : Int) (w : World) :
    Calls Try.prog 38 #[.agg #[.int .i64 a, .int .i64 b], .agg #[.int .i64 x, .int .i64 y]] w fun e w' => e = .returned (.int .i64 (orI (cmpI b y) (cmpI a x))) ∧ Gr w w' := by
  go_enter Try.func38, Try.ntmps38
  go_wp2_with fail
  refine wp_region_still_tail 10 (by kernel_rfl) (by kernel_rfl) ?_
  change wpStill _ _ (World.drew _) _ _ _
  simp only [List.take_succ_cons, List.take_zero, List.drop_succ_cons, List.drop_zero]
  refine wpStill_step (fun K hK => ?_)
  go_simp
  refine hK _ ?_
  clear hK K
  still_step
  still_step
  still_step
  still_call ((compare_any _ _ _).mono fun _ _ ⟨h, hw⟩ => ⟨h, hw.symm⟩)
  still_step
  still_step
  still_step
  still_step
  still_call ((compare_any _ _ _).mono fun _ _ ⟨h, hw⟩ => ⟨h, hw.symm⟩)
  refine wpStill_nil ?_
  change wpList _ _ _ _ _ (World.drew _)
  go_wp2_with (go_at_call 65; refine (or2_any (cmpI b y) (cmpI a x) (w.heap.size + 1 + 1) _ (new2a _ _ _ _ (by simp)) (new2b _ _ _ _ (by simp))).mono ?_; rintro e w' ⟨rfl, rfl⟩)
  go_ret
  exact ⟨rfl, (((Gr.refl _).alloc _).alloc _).drew.alloc _⟩

set_option maxHeartbeats 400000 in
theorem areaOrder_any (a b c d x y z t : Int) (w : World) :
    Calls Try.prog 46 #[.agg #[.int .i64 a, .int .i64 b, .int .i64 c, .int .i64 d], .agg #[.int .i64 x, .int .i64 y, .int .i64 z, .int .i64 t]] w fun e w' => e = .returned (.int .i64 (orI (orI (cmpI b y) (cmpI a x)) (orI (cmpI d t) (cmpI c z)))) ∧ Gr w w' := by
  generalize hp : orI (cmpI b y) (cmpI a x) = p
  generalize hq : orI (cmpI d t) (cmpI c z) = q
  have Hp := Lib.hid hp
  have Hq := Lib.hid hq
  clear hp hq
  by_cases hp0 : p = 0
  · subst hp0
    rw [show orI 0 q = q from if_pos rfl]
    go_enter Try.func46, Try.ntmps46
    go_wp2_with fail
    refine (order_any _ _ _ _ _).mono ?_
    rintro e w1 ⟨rfl, hg⟩
    rw [Hp.out]
    obtain ⟨hc, hf⟩ := hg.xt.cells
    have hz := hg.xt.sz
    go_wp2_with fail
    refine (order_any _ _ _ _ _).mono ?_
    rintro e w2 ⟨rfl, hg2⟩
    rw [Hq.out]
    go_wp2_with fail
    go_ret
    exact ⟨rfl, Gr.trans (Gr.trans (((Gr.refl _).alloc _).alloc _) hg) hg2⟩
  · have hb : (p != 0) = true := by simpa using hp0
    rw [show orI p q = p from if_neg hp0]
    go_enter Try.func46, Try.ntmps46
    go_wp2_with fail
    refine (order_any _ _ _ _ _).mono ?_
    rintro e w1 ⟨rfl, hg⟩
    rw [Hp.out]
    go_wp2_with fail
    go_ret
    exact ⟨rfl, Gr.trans (((Gr.refl _).alloc _).alloc _) hg⟩
end Go.Proofs.Ytagfgkcipomopaa
namespace Go.Proofs.Ytagfgkcipomopaa
open Go.RowKit Go.Sort Go.MapKept

/-! ### cells of the program's plain structs -/
abbrev Ad := Int × Int
abbrev Ar := Ad × Ad
def adC (a : Ad) : List Value := [.int .i64 a.1, .int .i64 a.2]
def arC (x : Ar) : List Value := [.int .i64 x.1.1, .int .i64 x.1.2, .int .i64 x.2.1, .int .i64 x.2.2]
def inC (n : Int) : List Value := [.int .i64 n]
def adV (a : Ad) : Value := .agg #[.int .i64 a.1, .int .i64 a.2]
theorem adV_inj {a b : Ad} (h : adV a = adV b) : a = b := by
  obtain ⟨a1, a2⟩ := a; obtain ⟨b1, b2⟩ := b
  simp [adV] at h; obtain ⟨rfl, rfl⟩ := h; rfl

/-! ### a slice that reads as a list -/
/-- The value v is a slice of just these elements, each of sz cells. -/
def SlOf {α : Type} (w : World) (enc : α → List Value) (sz : Nat) (v : Value) (l : List α) : Prop :=
  ∃ a cap, v = .slice a l.length cap ∧ l.length ≤ cap ∧ cap ≤ 9223372036854775807 ∧ (l ≠ [] → ∃ b off, a = some ⟨b, off, none⟩ ∧ ∀ k x, l[k]? = some x → ∀ i u, (enc x)[i]? = some u → w.cell? ⟨b, off + k * sz + i, none⟩ = some u)
theorem SlOf.nil {α : Type} (w : World) (enc : α → List Value) (sz : Nat) (a : Option Addr) (cap : Nat) (hc : cap ≤ 9223372036854775807) : SlOf w enc sz (.slice a 0 cap) ([] : List α) := ⟨a, cap, rfl, Nat.zero_le _, hc, fun h => (h rfl).elim⟩
/-- In which blocks it lies. -/
def slIn (F : Nat → Prop) (v : Value) : Prop := ∀ a n c, v = .slice (some a) n c → F a.block
theorem SlOf.keep {α : Type} {w w' : World} {enc : α → List Value} {sz : Nat} {v : Value} {l : List α} {F : Nat → Prop} (h : SlOf w enc sz v l) (hF : slIn F v) (hk : ∀ b, F b → w'.heap[b]? = w.heap[b]?) : SlOf w' enc sz v l := by
  obtain ⟨a, cap, rfl, q1, q2, h2⟩ := h
  refine ⟨a, cap, rfl, q1, q2, fun hl => ?_⟩
  obtain ⟨b, off, rfl, hc⟩ := h2 hl
  have hb : w'.heap[b]? = w.heap[b]? := hk b (hF _ _ _ rfl)
  exact ⟨b, off, rfl, fun k x hx i u hu => (World.cell?_of_block (w := w) (a := ⟨b, off + k * sz + i, none⟩) hb).trans (hc k x hx i u hu)⟩

theorem ar_cells {w : World} {b o : Nat} {x : Ar} (h : ∀ (i : Nat) (u : Value), (arC x)[i]? = some u → w.cell? ⟨b, o + i, none⟩ = some u) :
    w.cell? ⟨b, o, none⟩ = some (.int .i64 x.1.1) ∧ w.cell? ⟨b, o + 1, none⟩ = some (.int .i64 x.1.2) ∧ w.cell? ⟨b, o + 2, none⟩ = some (.int .i64 x.2.1) ∧ w.cell? ⟨b, o + 3, none⟩ = some (.int .i64 x.2.2) :=
  ⟨h 0 _ rfl, h 1 _ rfl, h 2 _ rfl, h 3 _ rfl⟩
theorem ad_cells {w : World} {b o : Nat} {x : Ad} (h : ∀ (i : Nat) (u : Value), (adC x)[i]? = some u → w.cell? ⟨b, o + i, none⟩ = some u) :
    w.cell? ⟨b, o, none⟩ = some (.int .i64 x.1) ∧ w.cell? ⟨b, o + 1, none⟩ = some (.int .i64 x.2) :=
  ⟨h 0 _ rfl, h 1 _ rfl⟩
/-- Two boxed cells, the world behind them under a name. -/
theorem box2 (w : World) (x y z t : Int) (T U : TypeId) : ∃ w0, (w.alloc (.cells #[.int .i64 x, .int .i64 y] T)).alloc (.cells #[.int .i64 z, .int .i64 t] U) = w0 ∧ Below w.heap.size w w0 ∧
    w0.heap.size = w.heap.size + 2 ∧ w0.cell? ⟨w.heap.size, 0, none⟩ = some (.int .i64 x) ∧ w0.cell? ⟨w.heap.size, 1, none⟩ = some (.int .i64 y) ∧ w0.cell? ⟨w.heap.size + 1, 0, none⟩ = some (.int .i64 z) ∧ w0.cell? ⟨w.heap.size + 1, 1, none⟩ = some (.int .i64 t) := by
  refine ⟨_, rfl, ((Below.refl _ _).alloc (Nat.le_refl _) _).alloc (by simp) _, by simp, ?_, ?_, ?_, ?_⟩ <;> simp
theorem box1 (w : World) (x y : Int) (T : TypeId) : ∃ w0, w.alloc (.cells #[.int .i64 x, .int .i64 y] T) = w0 ∧ Below w.heap.size w w0 ∧
    w0.heap.size = w.heap.size + 1 ∧ w0.cell? ⟨w.heap.size, 0, none⟩ = some (.int .i64 x) ∧ w0.cell? ⟨w.heap.size, 1, none⟩ = some (.int .i64 y) := by
  refine ⟨_, rfl, (Below.refl _ _).alloc (Nat.le_refl _) _, by simp, ?_, ?_⟩ <;> simp
/-! ### maps keyed by cells -/
structure AdrKey (P : Program) (k : TypeId) : Prop where
  und : ∃ fs, P.underlying k = some (.struct fs)
  check : ∀ (w : World) (em : Bool) (a : Ad), (Instr.checkKey em 10000 k (adV a)).run P w = .ok () w
  eq : ∀ (w : World) (a b : Ad), (Op.equal k (adV a) (adV b)).run P w = .ok (decide (a = b)) w
theorem stays_ad {P : Program} (w : World) (a : Ad) : (Instr.keyThatStays (adV a) (adV a)).run P w = .ok (adV a) w := by
  simp [Instr.keyThatStays, Instr.sameBits, adV]
def lk (a : Ad) : List (Ad × Value) → Option Value
  | [] => none
  | x :: r => if x.1 = a then some x.2 else lk a r
def ix (a : Ad) : List (Ad × Value) → Nat → Option (Nat × Value)
  | [], _ => none
  | x :: r, i => if x.1 = a then some (i, x.2) else ix a r (i + 1)
theorem ix_lk (a : Ad) : ∀ (E : List (Ad × Value)) (i : Nat), (ix a E i).map (·.2) = lk a E
  | [], _ => rfl
  | x :: r, i => by unfold ix lk; split <;> simp [ix_lk a r (i + 1)]
def kv (e : MapEntry) : Value × Value := (e.key, e.val)
def kvE (x : Ad × Value) : Value × Value := (adV x.1, x.2)
theorem find_ad {P : Program} {k : TypeId} (K : AdrKey P k) (w : World) (a : Ad) : ∀ (es : List MapEntry) (E : List (Ad × Value)) (i : Nat), es.map kv = E.map kvE → (Instr.findAsking k (adV a) es i).run P w = .ok (ix a E i) w
  | [], [], i, _ => rfl
  | [], _ :: _, _, h => by simp at h
  | _ :: _, [], _, h => by simp at h
  | e :: es, x :: E, i, h => by
    simp only [List.map_cons, List.cons.injEq, kv, kvE, Prod.mk.injEq] at h
    obtain ⟨⟨h1, h2⟩, h3⟩ := h
    have hr := find_ad K w a es E (i + 1) (by simpa [kv, kvE] using h3)
    unfold Instr.findAsking ix
    rw [h1]
    simp only [Sem.run_bind, K.eq, Result.andThen_ok]
    by_cases hx : x.1 = a
    · simp [hx, h2]
    · have : ¬ a = x.1 := fun e => hx e.symm
      simp [hx, this, hr]
theorem findKey_ad {P : Program} {k : TypeId} (K : AdrKey P k) (w : World) (a : Ad) (es : List MapEntry) (E : List (Ad × Value)) (h : es.map kv = E.map kvE) : (Instr.findKey k (adV a) es).run P w = .ok (ix a E 0) w := by
  obtain ⟨fs, hu⟩ := K.und
  unfold Instr.findKey
  simp only [Sem.run_bind, run_underlying hu, Result.andThen_ok]
  cases es with
  | nil =>
    cases E with
    | nil => simp [Instr.findNow, ix]
    | cons _ _ => simp at h
  | cons e es => simp [Instr.findNow, Instr.sameNow, find_ad K w a _ E 0 h]
/-- Block b is a map of just these entries, as they lie. -/
def MapIs (w : World) (b : Nat) (E : List (Ad × Value)) : Prop :=
  ∃ es clock, w.heap[b]? = some (.map es clock) ∧ Stamped es clock ∧ es.toList.map kv = E.map kvE
theorem MapIs.nodup {w : World} {b : Nat} {E : List (Ad × Value)} (h : MapIs w b E) : (E.map (·.1)).Nodup := by
  obtain ⟨es, clock, _, hs, he⟩ := h
  have h1 : es.toList.map (·.key) = (E.map (·.1)).map adV := by
    have := congrArg (List.map (·.1)) he
    simpa [kv, kvE, Function.comp_def] using this
  have h2 := hs.2.2
  rw [h1] at h2
  unfold List.Nodup at h2 ⊢
  rw [List.pairwise_map] at h2
  exact h2.imp fun h e => h (by rw [e])
theorem MapIs.of_heap {w w' : World} {b : Nat} {E : List (Ad × Value)} (h : MapIs w b E) (hb : w'.heap[b]? = w.heap[b]?) : MapIs w' b E := by
  obtain ⟨es, clock, h1, h2⟩ := h
  exact ⟨es, clock, hb.trans h1, h2⟩
theorem MapIs.lt {w : World} {b : Nat} {E : List (Ad × Value)} (h : MapIs w b E) : b < w.heap.size := by
  obtain ⟨es, clock, h1, h2⟩ := h
  exact (Array.getElem?_eq_some_iff.1 h1).1
@[go_sem] theorem MapIs_alloc (w : World) (o : Obj) (b : Nat) (E : List (Ad × Value)) (hb : b < w.heap.size) : MapIs (w.alloc o) b E = MapIs w b E := by
  have := Below.heap_alloc w o b hb
  exact propext ⟨fun h => h.of_heap this.symm, fun h => h.of_heap this⟩
@[go_sem] theorem MapIs_drew (w : World) (b : Nat) (E : List (Ad × Value)) : MapIs w.drew b E = MapIs w b E := rfl
@[go_sem] theorem MapIs_drewN (w : World) (n b : Nat) (E : List (Ad × Value)) : MapIs (w.drewN n) b E = MapIs w b E := rfl
theorem setCell_map (w : World) (a : Addr) (v : Value) (b : Nat) (es : Array MapEntry) (c : Nat) : (w.setCell a v).heap[b]? = some (.map es c) ↔ w.heap[b]? = some (.map es c) := by
  simp only [World.setCell, Array.getElem?_modify]
  by_cases h : a.block = b
  · subst h
    simp only [if_true]
    cases hh : w.heap[a.block]? with
    | none => simp
    | some o => cases o <;> simp
  · simp [h]
@[go_sem] theorem MapIs_setCell (w : World) (a : Addr) (v : Value) (b : Nat) (E : List (Ad × Value)) : MapIs (w.setCell a v) b E = MapIs w b E := by
  refine propext ⟨fun ⟨es, c, h1, h2⟩ => ⟨es, c, (setCell_map ..).1 h1, h2⟩, fun ⟨es, c, h1, h2⟩ => ⟨es, c, (setCell_map ..).2 h1, h2⟩⟩
theorem MapIs.made (w : World) : MapIs (w.alloc (.map #[] 0)) w.heap.size [] :=
  ⟨#[], 0, by simp [← World.alloc_eq], stamped_empty 0, rfl⟩

/-- 'm[k]' -/
theorem MapIs.lookup {P : Program} {t k e : TypeId} (K : AdrKey P k) (ht : P.underlying t = some (.map k e)) {z : Value} (hz : ∀ w, (zeroValue e).run P w = .ok z w) {w : World} {b : Nat} {E : List (Ad × Value)} (h : MapIs w b E) (a : Ad) :
    (Instr.lookup t (.map (some b)) (adV a) false).run P w = .ok ((lk a E).getD z) w := by
  obtain ⟨es, clock, hb, hs, he⟩ := h
  simp only [Instr.lookup, Sem.run_bind, run_underlying ht, Result.andThen_ok, MapKept.run_getObj_map hb, K.check, findKey_ad K w a _ E he, Sem.run_pure]
  rw [← ix_lk a E 0]
  cases ix a E 0 <;> simp [hz]
/-- 'v, ok := m[k]' -/
theorem MapIs.lookup_ok {P : Program} {t k e : TypeId} (K : AdrKey P k) (ht : P.underlying t = some (.map k e)) {z : Value} (hz : ∀ w, (zeroValue e).run P w = .ok z w) {w : World} {b : Nat} {E : List (Ad × Value)} (h : MapIs w b E) (a : Ad) :
    (Instr.lookup t (.map (some b)) (adV a) true).run P w = .ok (.tuple #[(lk a E).getD z, .bool (lk a E).isSome]) w := by
  obtain ⟨es, clock, hb, hs, he⟩ := h
  simp only [Instr.lookup, Sem.run_bind, run_underlying ht, Result.andThen_ok, MapKept.run_getObj_map hb, K.check, findKey_ad K w a _ E he, Sem.run_pure]
  rw [← ix_lk a E 0]
  cases ix a E 0 <;> simp [hz]

/-! ### the same entries, one changed -/
def upE (a : Ad) (v : Value) (E : List (Ad × Value)) : List (Ad × Value) :=
  if (lk a E).isSome then E.map (fun x => if x.1 = a then (a, v) else x) else E ++ [(a, v)]
def dlE (a : Ad) (E : List (Ad × Value)) : List (Ad × Value) := E.filter (fun x => !decide (x.1 = a))
theorem lk_none {a : Ad} : ∀ {E : List (Ad × Value)}, lk a E = none ↔ ∀ x ∈ E, x.1 ≠ a
  | [] => by simp [lk]
  | x :: r => by
    unfold lk
    by_cases hx : x.1 = a
    · simp [hx]
    · simp only [hx, if_false, List.mem_cons, forall_eq_or_imp]
      rw [lk_none (E := r)]
      exact ⟨fun h => ⟨hx, h⟩, fun h => h.2⟩
theorem ix_some {a : Ad} : ∀ {E : List (Ad × Value)} {i j : Nat} {v : Value}, ix a E i = some (j, v) → i ≤ j ∧ E[j - i]? = some (a, v)
  | [], _, _, _, h => by simp [ix] at h
  | x :: r, i, j, v, h => by
    unfold ix at h
    by_cases hx : x.1 = a
    · simp only [hx, if_true, Option.some.injEq, Prod.mk.injEq] at h
      obtain ⟨rfl, rfl⟩ := h
      simp [← hx]
    · simp only [hx, if_false] at h
      obtain ⟨h1, h2⟩ := ix_some h
      refine ⟨by omega, ?_⟩
      obtain ⟨d, rfl⟩ : ∃ d, j = i + 1 + d := ⟨j - (i + 1), by omega⟩
      rw [show i + 1 + d - i = d + 1 by omega]
      rw [show i + 1 + d - (i + 1) = d by omega] at h2
      simpa using h2
theorem map_at_nodup {E : List (Ad × Value)} {a : Ad} {v v' : Value} {j : Nat} (hn : (E.map (·.1)).Nodup) (hj : E[j]? = some (a, v')) :
    E.map (fun x => if x.1 = a then (a, v) else x) = E.set j (a, v) := by
  induction E generalizing j with
  | nil => simp at hj
  | cons x r ih =>
    simp only [List.map_cons, List.nodup_cons] at hn
    cases j with
    | zero =>
      simp only [List.getElem?_cons_zero, Option.some.injEq] at hj
      subst hj
      simp only [List.map_cons, if_true, List.set_cons_zero, List.cons.injEq, true_and]
      conv => rhs; rw [← List.map_id r]
      refine List.map_congr_left fun y hy => ?_
      rw [if_neg (fun e => hn.1 (List.mem_map.2 ⟨y, hy, e⟩))]; rfl
    | succ j =>
      simp only [List.getElem?_cons_succ] at hj
      have hx : ¬ x.1 = a := fun e => hn.1 (List.mem_map.2 ⟨_, List.mem_of_getElem? hj, e.symm⟩)
      simp only [List.map_cons, hx, if_false, List.set_cons_succ, ih hn.2 hj]
theorem filter_at_nodup {E : List (Ad × Value)} {a : Ad} {v' : Value} {j : Nat} (hn : (E.map (·.1)).Nodup) (hj : E[j]? = some (a, v')) :
    dlE a E = E.eraseIdx j := by
  induction E generalizing j with
  | nil => simp at hj
  | cons x r ih =>
    simp only [List.map_cons, List.nodup_cons] at hn
    cases j with
    | zero =>
      simp only [List.getElem?_cons_zero, Option.some.injEq] at hj
      subst hj
      simp only [dlE, List.filter_cons, decide_true, Bool.not_true, Bool.false_eq_true, if_false, List.eraseIdx_cons_zero]
      refine List.filter_eq_self.2 fun y hy => ?_
      have : ¬ y.1 = a := fun e => hn.1 (List.mem_map.2 ⟨y, hy, e⟩)
      simp [this]
    | succ j =>
      simp only [List.getElem?_cons_succ] at hj
      have hx : ¬ x.1 = a := fun e => hn.1 (List.mem_map.2 ⟨_, List.mem_of_getElem? hj, e.symm⟩)
      have := ih hn.2 hj
      simp only [dlE, List.filter_cons, hx, decide_false, Bool.not_false, if_true, List.eraseIdx_cons_succ]
      rw [← this]; rfl
theorem kv_set {es : Array MapEntry} {E : List (Ad × Value)} (he : es.toList.map kv = E.map kvE) (j : Nat) (a : Ad) (v : Value) :
    (es.modify j fun e => { e with key := adV a, val := v }).toList.map kv = (E.set j (a, v)).map kvE := by
  apply List.ext_getElem?
  intro i
  have hi := congrArg (fun l => l[i]?) he
  simp only [List.getElem?_map, Array.getElem?_toList, Array.getElem?_modify, List.getElem?_set] at hi ⊢
  by_cases hij : j = i
  · subst hij
    have hlen : es.size = E.length := by have := congrArg List.length he; simpa using this
    cases hj : es[j]? with
    | none =>
      have : ¬ j < E.length := by rw [← hlen]; exact fun h => by simp [h] at hj
      simp [this]
    | some e =>
      have : j < E.length := by rw [← hlen]; exact (Array.getElem?_eq_some_iff.1 hj).1
      simp [this, kv, kvE]
  · simp [hij, hi]
theorem map_erase {α β : Type} (f : α → β) : ∀ (l : List α) (j : Nat), (l.eraseIdx j).map f = (l.map f).eraseIdx j
  | [], _ => rfl
  | _ :: _, 0 => rfl
  | _ :: r, j + 1 => by simp [map_erase f r j]
theorem setObj_heap {w : World} {b : Nat} {es : Array MapEntry} {clock : Nat} (hb : w.heap[b]? = some (.map es clock)) (o : Obj) :
    ({ w with heap := w.heap.setIfInBounds b o } : World).heap[b]? = some o ∧ w.grownBy { w with heap := w.heap.setIfInBounds b o } (some b) :=
  ⟨(heap_set hb).1, ⟨rfl, rfl, rfl, by simp, fun k _ hk => (heap_set hb).2 k (fun e => hk (by rw [e]))⟩⟩
/-- 'm[k] = v' -/
theorem MapIs.update {P : Program} {t k e : TypeId} (K : AdrKey P k) (ht : P.underlying t = some (.map k e)) {w : World} {b : Nat} {E : List (Ad × Value)} (h : MapIs w b E) (a : Ad) (v : Value) :
    ∃ w', (Instr.mapUpdate t (.map (some b)) (adV a) v).run P w = .ok () w' ∧ MapIs w' b (upE a v E) ∧ w.grownBy w' (some b) ∧ w'.drawn = w.drawn ∧ w'.heap.size = w.heap.size := by
  have hnd := h.nodup
  obtain ⟨es, clock, hb, hs, he⟩ := h
  simp only [Instr.mapUpdate, Sem.run_bind, run_underlying ht, Result.andThen_ok, MapKept.run_getObj_map hb, K.check, findKey_ad K w a _ E he]
  have hl := ix_lk a E 0
  cases hx : ix a E 0 with
  | none =>
    rw [hx] at hl
    have hno := lk_none.1 hl.symm
    refine ⟨_, by rw [MapKept.run_setObj_map _ hb], ?_, (setObj_heap hb _).2, rfl, by simp⟩
    refine ⟨_, _, (setObj_heap hb _).1, stamped_push hs ?_, ?_⟩
    · intro x hx'
      have h1 : kv x ∈ E.map kvE := he ▸ List.mem_map.2 ⟨x, hx', rfl⟩
      obtain ⟨y, hy, hyx⟩ := List.mem_map.1 h1
      simp only [kv, kvE, Prod.mk.injEq] at hyx
      exact fun e => hno y hy (adV_inj (hyx.1.trans e))
    · simp [upE, ← hl, he, kv, kvE]
  | some p =>
    obtain ⟨j, v0⟩ := p
    rw [hx] at hl
    have hj := (ix_some hx).2
    rw [Nat.sub_zero] at hj
    have hes : ∃ e0, es[j]? = some e0 ∧ e0.key = adV a := by
      have h1 := congrArg (fun l => l[j]?) he
      simp only [List.getElem?_map, Array.getElem?_toList, hj, Option.map_some, Option.map_eq_some_iff] at h1
      obtain ⟨e0, h2, h3⟩ := h1
      exact ⟨e0, h2, by simp only [kv, kvE, Prod.mk.injEq] at h3; exact h3.1⟩
    obtain ⟨e0, h2, h3⟩ := hes
    simp only [Sem.run_bind, h2, Option.map_some, Option.getD_some, h3, stays_ad, Result.andThen_ok]
    refine ⟨_, by rw [MapKept.run_setObj_map _ hb], ?_, (setObj_heap hb _).2, rfl, by simp⟩
    refine ⟨_, _, (setObj_heap hb _).1, stamped_modify hs _ _ (fun _ _ => rfl) (fun e' _ he' => by rw [h2] at he'; cases he'; exact h3.symm), ?_⟩
    rw [kv_set he j a v, upE, ← hl]
    simp [map_at_nodup hnd hj]
/-- 'delete(m, k)' -/
theorem MapIs.delete {P : Program} {t k e ty : TypeId} (K : AdrKey P k) (ht : P.underlying t = some (.map k e)) {w : World} {b : Nat} {E : List (Ad × Value)} (h : MapIs w b E) (a : Ad) (tk : TypeId) :
    ∃ w', (Builtin.delete_ #[t, tk] ty #[.map (some b), adV a]).run P w = .ok (.tuple #[]) w' ∧ MapIs w' b (dlE a E) ∧ w.grownBy w' (some b) ∧ w'.drawn = w.drawn ∧ w'.heap.size = w.heap.size := by
  have hnd := h.nodup
  obtain ⟨es, clock, hb, hs, he⟩ := h
  simp only [Builtin.delete_]
  simp only [List.getElem?_toArray, List.getElem?_cons_zero, List.getElem?_cons_succ, Sem.run_bind, run_underlying ht, Result.andThen_ok, MapKept.run_getObj_map hb, K.check, findKey_ad K w a _ E he]
  have hl := ix_lk a E 0
  cases hx : ix a E 0 with
  | none =>
    rw [hx] at hl
    have hno := lk_none.1 hl.symm
    refine ⟨_, by simp only [Sem.run_bind, MapKept.run_setObj_map _ hb, Result.andThen_ok, Sem.run_pure]; rfl, ?_, (setObj_heap hb _).2, rfl, by simp⟩
    refine ⟨_, _, (setObj_heap hb _).1, hs, ?_⟩
    rw [he]
    congr 1
    exact (List.filter_eq_self.2 fun y hy => by simp [hno y hy]).symm
  | some p =>
    obtain ⟨j, v0⟩ := p
    have hj := (ix_some hx).2
    rw [Nat.sub_zero] at hj
    refine ⟨_, by simp only [Sem.run_bind, MapKept.run_setObj_map _ hb, Result.andThen_ok, Sem.run_pure]; rfl, ?_, (setObj_heap hb _).2, rfl, by simp⟩
    refine ⟨_, _, (setObj_heap hb _).1, stamped_erase hs j, ?_⟩
    rw [filter_at_nodup hnd hj]
    have hlen : es.size = E.length := by have := congrArg List.length he; simpa using this
    have hjl : j < es.size := by rw [hlen]; exact (List.getElem?_eq_some_iff.1 hj).1
    simp only [Array.eraseIdxIfInBounds, hjl, dif_pos, Array.toList_eraseIdx, map_erase, he]
theorem MapIs.len {P : Program} {t k e ty : TypeId} (ht : P.underlying t = some (.map k e)) {w : World} {b : Nat} {E : List (Ad × Value)} (h : MapIs w b E) :
    (Builtin.len_ #[t] ty #[.map (some b)]).run P w = .ok (.int .i64 E.length) w := by
  obtain ⟨es, clock, hb, hs, he⟩ := h
  have hlen : es.size = E.length := by have := congrArg List.length he; simpa using this
  simp only [Builtin.len_]
  simp only [List.getElem?_toArray, List.getElem?_cons_zero, Sem.run_bind, run_underlying ht, Result.andThen_ok, MapKept.run_getObj_map hb, Sem.run_pure]
  simp [goInt, hlen]
end Go.Proofs.Ytagfgkcipomopaa
namespace Go.Proofs.Ytagfgkcipomopaa
open Go.RowKit Go.Sort

theorem stood34 : Try.prog.stoodInHeld 34 = false := by kernel_rfl
theorem und34 : Try.prog.underlying 34 = some (.struct (Try.prog.fieldsOf 34)) := by kernel_rfl
theorem eqAd (w : World) (a b : Ad) : (Op.equal 34 (adV a) (adV b)).run Try.prog w = .ok (decide (a = b)) w := by
  obtain ⟨a1, a2⟩ := a
  obtain ⟨b1, b2⟩ := b
  have h := run_equalIn_struct (P := Try.prog) w 9999 34 #[.int .i64 a1, .int .i64 a2] #[.int .i64 b1, .int .i64 b2] und34 stood34
  simp only [Op.equal, Op.maxDepth, adV]
  rw [show (10000 : Nat) = 9999 + 1 from rfl, h]
  simp only [Program.fieldsOf, Try.underlying34]
  go_simp
  by_cases h1 : a1 = b1 <;> by_cases h2 : a2 = b2 <;> simp [h1, h2]
theorem checkAd (w : World) (em : Bool) (a : Ad) : (Instr.checkKey em 10000 34 (adV a)).run Try.prog w = .ok () w := by
  rw [show (10000 : Nat) = 9998 + 1 + 1 from rfl, Instr.checkKey]
  simp only [adV, Sem.run_bind, run_underlying Try.underlying34, Result.andThen_ok]
  go_simp
  have h3 : ∀ n W, (Instr.checkKey em 9999 3 (Value.int IntKind.i64 n)).run Try.prog W = .ok () W := fun n W => MapKept.run_checkKey (P := Try.prog) (w := W) Try.underlying3 (by simp [MapKept.IsKey]) em 9998
  simp only [h3, Result.andThen_ok]
theorem adrKey : AdrKey Try.prog 34 := ⟨⟨_, Try.underlying34⟩, checkAd, eqAd⟩
theorem zero42 (w : World) : (zeroValue 42).run Try.prog w = .ok (.slice none 0 0) w := by kernel_rfl
theorem zero3 (w : World) : (zeroValue 3).run Try.prog w = .ok (.int .i64 0) w := by kernel_rfl

theorem retB {a b : Bool} (h : a = b) : Ending.returned (.bool a) = .returned (.bool b) := by rw [h]
theorem retI {k : IntKind} {a b : Int} (h : a = b) : Ending.returned (.int k a) = .returned (.int k b) := by rw [h]
/-! ### Links.on -/
def inA (x : Ar) (b : Ad) : Bool := inB x.1.1 x.1.2 x.2.1 x.2.2 b.1 b.2
def onV (l : List Ar) (b : Ad) : Bool := l.any fun x => inA x b
theorem take_any {α : Type} {l : List α} {f : α → Bool} {k : Nat} {x : α} (hx : l[k]? = some x) (h : (l.take k).any f = false) (hf : f x = false) : (l.take (k + 1)).any f = false := by
  rw [List.take_add_one, hx]; simp [hf] at *; exact h
theorem any_at {α : Type} {l : List α} {f : α → Bool} {k : Nat} {x : α} (hx : l[k]? = some x) (hf : f x = true) : l.any f = true :=
  List.any_eq_true.2 ⟨x, List.mem_of_getElem? hx, hf⟩
set_option maxHeartbeats 400000 in
theorem on_any (pb bm : Nat) (E : List (Ad × Value)) (a b : Ad) (l : List Ar) (w : World) (hpb : w.cell? ⟨pb, 0, none⟩ = some (.map (some bm))) (hm : MapIs w bm E)
    (hl : SlOf w arC 4 ((lk a E).getD (.slice none 0 0)) l) :
    Calls Try.prog 40 #[.pointer (some ⟨pb, 0, none⟩), .agg #[.int .i64 a.1, .int .i64 a.2], .agg #[.int .i64 b.1, .int .i64 b.2]] w fun e w' => e = .returned (.bool (onV l b)) ∧ Gr w w' := by
  have hpb' : pb < w.heap.size := World.block_lt_of_cell? w _ hpb
  have hbm' := hm.lt
  obtain ⟨w0, hw0, hb0, hs0, c0, c1, c2, c3⟩ := box2 w a.1 a.2 b.1 b.2 34 34
  have hg0 : Gr w w0 := by rw [← hw0]; exact ((Gr.refl _).alloc _).alloc _
  have hm0 : MapIs w0 bm E := hm.of_heap (hb0.block _ hbm')
  have hpb0 : w0.cell? ⟨pb, 0, none⟩ = some (.map (some bm)) := (hb0.cell (p := ⟨pb, 0, none⟩) hpb').trans hpb
  have hlk : ∀ n : Nat, (Instr.lookup 74 (.map (some bm)) (.agg #[.int .i64 a.1, .int .i64 a.2]) false).run Try.prog (w0.drewN n) = .ok ((lk a E).getD (.slice none 0 0)) (w0.drewN n) := fun n =>
    hm0.lookup (w := w0.drewN n) adrKey Try.underlying74 zero42 a
  obtain ⟨sa, cap, hv, q1, q2, hc⟩ := hl
  rw [hv] at hlk
  clear hv hpb hm hm0
  go_enter Try.func40, Try.ntmps40
  go_wp2_with fail
  clear hw0
  go_quiet (fail)
  go_wp2_with fail
  go_loopw [16] (fun i wr => ∃ k : Nat, k ≤ l.length ∧ i = .int .i64 k ∧ Hid ((l.take k).any (fun x => inA x b) = false) ∧ Gr w0 wr) (fun i _ => l.length - (intOf i).toNat)
  case atStart => exact ⟨0, Nat.zero_le _, rfl, (by unfold Hid; simp), (Gr.refl _).drewN _⟩
  case round =>
    obtain ⟨k, hk, rfl, HK, hg⟩ := hrel
    by_cases hlt : k < l.length
    · obtain ⟨b', off, rfl, hcc⟩ := hc (by intro h; simp [h] at hlt)
      obtain ⟨x, hx⟩ : ∃ x, l[k]? = some x := ⟨l[k], by simp [hlt]⟩
      obtain ⟨hgc, hgf⟩ := hg.xt.cells
      have hgz := hg.xt.sz
      obtain ⟨d0, d1, d2, d3⟩ := ar_cells (hcc k x hx)
      have hb' : b' < w.heap.size := World.block_lt_of_cell? w _ d0
      have e : ∀ o, wr.cell? ⟨b', o, none⟩ = w.cell? ⟨b', o, none⟩ := fun o => (hgc b' o (by omega)).trans (hb0.cell (p := ⟨b', o, none⟩) hb')
      rw [← e] at d0 d1 d2 d3
      rw [← hgc _ _ (by omega)] at c2 c3
      have z1 : w.heap.size + 1 < wr.heap.size := by omega
      have z2 : b' < wr.heap.size := by omega
      clear hlk hc hcc e hgc hgf hgz hb' c0 c1 hpb0 hs0
      cases hin : inA x b
      · go_wp2_with fail
        refine (in_any _ _ _ _ _ _ _).mono ?_
        rintro e w1 ⟨rfl, hg1⟩
        rw [show inB x.1.1 x.1.2 x.2.1 x.2.2 b.1 b.2 = false from hin]
        go_wp2_with fail
        go_roundw
        case rel => exact ⟨k + 1, by omega, by go_num, (take_any hx HK.out hin), Gr.trans (hg.alloc _) hg1⟩
        case measure => simp [intOf]; omega
      · go_wp2_with fail
        refine (in_any _ _ _ _ _ _ _).mono ?_
        rintro e w1 ⟨rfl, hg1⟩
        rw [show inB x.1.1 x.1.2 x.2.1 x.2.2 b.1 b.2 = true from hin]
        go_wp2_with fail
        go_ret
        exact ⟨retB (show true = onV l b from (any_at hx hin).symm), Gr.trans (Gr.trans hg0 (hg.alloc _)) hg1⟩
    · go_wp2_with fail
      go_ret
      have hkl : k = l.length := by omega
      exact ⟨retB (show false = onV l b by have := HK.out; rw [hkl, List.take_length] at this; exact this.symm), Gr.trans hg0 hg⟩
end Go.Proofs.Ytagfgkcipomopaa
namespace Go.Proofs.Ytagfgkcipomopaa
open Go.RowKit Go.Sort

/-! ### has -/
theorem eqA34 (w : World) (a b c d : Int) : (binOp .eql 34 (.agg #[.int .i64 a, .int .i64 b]) (.agg #[.int .i64 c, .int .i64 d])).run Try.prog w = .ok (.bool (decide ((a, b) = (c, d)))) w := by
  have := eqAd w (a, b) (c, d)
  simp only [adV] at this
  simp only [binOp]
  simp [this]
def hasB (l : List Ad) (a : Ad) : Bool := decide (a ∈ l)
theorem hasB_take {l : List Ad} {k : Nat} {x a : Ad} (hx : l[k]? = some x) (h : hasB (l.take k) a = false) (hne : x ≠ a) : hasB (l.take (k + 1)) a = false := by
  unfold hasB at *
  rw [decide_eq_false_iff_not] at *
  rw [List.take_add_one, hx]
  simp only [Option.toList_some, List.mem_append, List.mem_singleton]
  rintro (h1 | h1)
  · exact h h1
  · exact hne h1.symm
theorem hasB_at {l : List Ad} {k : Nat} {a : Ad} (hx : l[k]? = some a) : hasB l a = true := decide_eq_true (List.mem_of_getElem? hx)
set_option maxHeartbeats 400000 in
theorem has_any (v : Value) (l : List Ad) (a : Ad) (w : World) (h : SlOf w adC 2 v l) :
    Calls Try.prog 13 #[v, .agg #[.int .i64 a.1, .int .i64 a.2]] w fun e w' => e = .returned (.bool (hasB l a)) ∧ Gr w w' := by
  obtain ⟨w0, hw0, hb0, hs0, c0, c1⟩ := box1 w a.1 a.2 34
  have hg0 : Gr w w0 := by rw [← hw0]; exact (Gr.refl _).alloc _
  obtain ⟨sa, cap, rfl, q1, q2, hcc⟩ := h
  have HC := Lib.hid hcc
  clear hcc
  go_enter Try.func13, Try.ntmps13
  go_wp2_with fail
  clear hw0
  go_loopw [5] (fun i wr => ∃ k : Nat, k ≤ l.length ∧ i = .int .i64 k ∧ Hid (hasB (l.take k) a = false) ∧ Gr w0 wr) (fun i _ => l.length - (intOf i).toNat)
  case atStart => exact ⟨0, Nat.zero_le _, rfl, (by unfold Hid hasB; simp), (Gr.refl _)⟩
  case round =>
    obtain ⟨k, hk, rfl, HK, hg⟩ := hrel
    by_cases hlt : k < l.length
    · obtain ⟨b', off, rfl, hcell⟩ := HC.out (by intro h; simp [h] at hlt)
      obtain ⟨x, hx⟩ : ∃ x, l[k]? = some x := ⟨l[k], by simp [hlt]⟩
      obtain ⟨hgc, hgf⟩ := hg.xt.cells
      obtain ⟨d0, d1⟩ := ad_cells (hcell k x hx)
      have hb' : b' < w.heap.size := World.block_lt_of_cell? w _ d0
      have e : ∀ o, wr.cell? ⟨b', o, none⟩ = w.cell? ⟨b', o, none⟩ := fun o => (hgc b' o (by omega)).trans (hb0.cell (p := ⟨b', o, none⟩) hb')
      rw [← e] at d0 d1
      rw [← hgc _ _ (by omega)] at c0 c1
      have HX := Lib.hid hx
      clear hcell e hgc hgf hb' hx
      by_cases hxa : x = a
      · have heq : ∀ W, (binOp .eql 34 (.agg #[.int .i64 x.1, .int .i64 x.2]) (.agg #[.int .i64 a.1, .int .i64 a.2])).run Try.prog W = .ok (.bool true) W := fun W => by rw [eqA34]; simp [hxa]
        have HA := Lib.hid hxa
        clear hxa
        go_wp2_with fail
        go_quiet (fail)
        go_wp2_with fail
        go_ret
        exact ⟨retB (by have := HX.out; rw [HA.out] at this; exact (hasB_at this).symm), hg0.trans (hg.drewN _)⟩
      · have heq : ∀ W, (binOp .eql 34 (.agg #[.int .i64 x.1, .int .i64 x.2]) (.agg #[.int .i64 a.1, .int .i64 a.2])).run Try.prog W = .ok (.bool false) W := fun W => by rw [eqA34, decide_eq_false (show ¬ ((x.1, x.2) = (a.1, a.2)) from hxa)]
        have HA := Lib.hid hxa
        clear hxa
        go_wp2_with fail
        go_quiet (fail)
        go_wp2_with fail
        go_roundw
        case rel => exact ⟨k + 1, by omega, by go_num, hasB_take HX.out HK.out HA.out, hg.drewN _⟩
        case measure => simp [intOf]; omega
    · have hkl : k = l.length := by omega
      go_wp2_with fail
      go_ret
      exact ⟨retB (by have := HK.out; rw [hkl, List.take_length] at this; exact this.symm), hg0.trans hg⟩
end Go.Proofs.Ytagfgkcipomopaa
namespace Go.Proofs.Ytagfgkcipomopaa
open Go.Shelf Go.RowKit Go.Lib Go.Sort

def Try.sortAd_ren : Go.Shelf.Ren := ⟨fun | 6 => 37 | 15 => 64 | 14 => 63 | 28 => 78 | 29 => 79 | 20 => 70 | 21 => 71 | 22 => 72 | 23 => 73 | 24 => 74 | 25 => 75 | 26 => 76 | 27 => 77 | 46 => 89 | 47 => 90 | 48 => 91 | 49 => 92 | 50 => 93 | 57 => 97 | n => n, fun | 22 => 23 | 24 => 34 | 25 => 70 | 3 => 3 | 39 => 91 | 0 => 0 | 53 => 103 | 55 => 105 | 4 => 4 | 46 => 97 | 45 => 96 | 50 => 82 | 5 => 5 | 9 => 9 | 66 => 112 | 70 => 116 | 76 => 120 | 77 => 121 | n => n, fun | n => n⟩
theorem Try.sortAd : Go.Proofs.SlLaysF0.n6 Try.prog Try.sortAd_ren := {
  mixed := by kernel_rfl
  f6 := ⟨Try.f37.name, by decide, Try.func37.trans (congrArg some (by kernel_rfl))⟩
  f14 := ⟨Try.f63.name, by decide, Try.func63.trans (congrArg some (by kernel_rfl))⟩
  f15 := Try.func64.trans (congrArg some (by kernel_rfl))
  f20 := ⟨Try.f70.name, by decide, Try.func70.trans (congrArg some (by kernel_rfl))⟩
  f21 := ⟨Try.f71.name, by decide, Try.func71.trans (congrArg some (by kernel_rfl))⟩
  f22 := ⟨Try.f72.name, by decide, Try.func72.trans (congrArg some (by kernel_rfl))⟩
  f23 := ⟨Try.f73.name, by decide, Try.func73.trans (congrArg some (by kernel_rfl))⟩
  f24 := ⟨Try.f74.name, by decide, Try.func74.trans (congrArg some (by kernel_rfl))⟩
  f25 := ⟨Try.f75.name, by decide, Try.func75.trans (congrArg some (by kernel_rfl))⟩
  f26 := ⟨Try.f76.name, by decide, Try.func76.trans (congrArg some (by kernel_rfl))⟩
  f27 := ⟨Try.f77.name, by decide, Try.func77.trans (congrArg some (by kernel_rfl))⟩
  f28 := Try.func78.trans (congrArg some (by kernel_rfl))
  f29 := Try.func79.trans (congrArg some (by kernel_rfl))
  f46 := ⟨Try.f89.name, by decide, Try.func89.trans (congrArg some (by kernel_rfl))⟩
  f47 := Try.func90.trans (congrArg some (by kernel_rfl))
  f48 := Try.func91.trans (congrArg some (by kernel_rfl))
  f49 := ⟨Try.f92.name, by decide, Try.func92.trans (congrArg some (by kernel_rfl))⟩
  f50 := ⟨Try.f93.name, by decide, Try.func93.trans (congrArg some (by kernel_rfl))⟩
  f57 := ⟨Try.f97.name, by decide, Try.func97.trans (congrArg some (by kernel_rfl))⟩
  t0 := Try.underlying0
  a0 := Try.isAgg0
  z0 := Try.sizeOf0
  v0 := Try.zeroValue0
  t3 := Try.underlying3
  a3 := Try.isAgg3
  z3 := Try.sizeOf3
  v3 := Try.zeroValue3
  t4 := Try.underlying4
  a4 := Try.isAgg4
  z4 := Try.sizeOf4
  v4 := Try.zeroValue4
  t5 := Try.underlying5
  a5 := Try.isAgg5
  z5 := Try.sizeOf5
  v5 := Try.zeroValue5
  t9 := Try.underlying9
  a9 := Try.isAgg9
  z9 := Try.sizeOf9
  v9 := Try.zeroValue9
  t22 := Try.underlying23
  a22 := Try.isAgg23
  z22 := Try.sizeOf23
  v22 := Try.zeroValue23
  t25 := Try.underlying70
  a25 := Try.isAgg70
  z25 := Try.sizeOf70
  v25 := Try.zeroValue70
  t39 := Try.underlying91
  a39 := Try.isAgg91
  z39 := Try.sizeOf91
  v39 := Try.zeroValue91
  t45 := Try.underlying96
  a45 := Try.isAgg96
  z45 := Try.sizeOf96
  v45 := Try.zeroValue96
  t46 := Try.underlying97
  a46 := Try.isAgg97
  z46 := Try.sizeOf97
  v46 := Try.zeroValue97
  t50 := Try.underlying82
  a50 := Try.isAgg82
  z50 := Try.sizeOf82
  v50 := Try.zeroValue82
  t53 := Try.underlying103
  a53 := Try.isAgg103
  z53 := Try.sizeOf103
  v53 := Try.zeroValue103
  t55 := Try.underlying105
  a55 := Try.isAgg105
  z55 := Try.sizeOf105
  v55 := Try.zeroValue105
  t66 := Try.underlying112
  a66 := Try.isAgg112
  z66 := Try.sizeOf112
  v66 := Try.zeroValue112
  t70 := Try.underlying116
  a70 := Try.isAgg116
  z70 := Try.sizeOf116
  v70 := Try.zeroValue116
  t76 := Try.underlying120
  a76 := Try.isAgg120
  z76 := Try.sizeOf120
  v76 := Try.zeroValue120
  t77 := Try.underlying121
  a77 := Try.isAgg121
  z77 := Try.sizeOf121
  v77 := Try.zeroValue121 }
def Try.sortAr_ren : Go.Shelf.Ren := ⟨fun | 6 => 45 | 15 => 64 | 14 => 68 | 28 => 78 | 29 => 79 | 20 => 81 | 21 => 82 | 22 => 83 | 23 => 84 | 24 => 85 | 25 => 86 | 26 => 87 | 27 => 88 | 46 => 94 | 47 => 90 | 48 => 91 | 49 => 95 | 50 => 96 | 57 => 98 | n => n, fun | 22 => 42 | 24 => 41 | 25 => 81 | 3 => 3 | 39 => 91 | 0 => 0 | 53 => 103 | 55 => 105 | 4 => 4 | 46 => 97 | 45 => 96 | 50 => 82 | 5 => 5 | 9 => 9 | 66 => 112 | 70 => 116 | 76 => 120 | 77 => 121 | n => n, fun | n => n⟩
theorem Try.sortAr : Go.Proofs.SlLaysF0.n6 Try.prog Try.sortAr_ren := {
  mixed := by kernel_rfl
  f6 := ⟨Try.f45.name, by decide, Try.func45.trans (congrArg some (by kernel_rfl))⟩
  f14 := ⟨Try.f68.name, by decide, Try.func68.trans (congrArg some (by kernel_rfl))⟩
  f15 := Try.func64.trans (congrArg some (by kernel_rfl))
  f20 := ⟨Try.f81.name, by decide, Try.func81.trans (congrArg some (by kernel_rfl))⟩
  f21 := ⟨Try.f82.name, by decide, Try.func82.trans (congrArg some (by kernel_rfl))⟩
  f22 := ⟨Try.f83.name, by decide, Try.func83.trans (congrArg some (by kernel_rfl))⟩
  f23 := ⟨Try.f84.name, by decide, Try.func84.trans (congrArg some (by kernel_rfl))⟩
  f24 := ⟨Try.f85.name, by decide, Try.func85.trans (congrArg some (by kernel_rfl))⟩
  f25 := ⟨Try.f86.name, by decide, Try.func86.trans (congrArg some (by kernel_rfl))⟩
  f26 := ⟨Try.f87.name, by decide, Try.func87.trans (congrArg some (by kernel_rfl))⟩
  f27 := ⟨Try.f88.name, by decide, Try.func88.trans (congrArg some (by kernel_rfl))⟩
  f28 := Try.func78.trans (congrArg some (by kernel_rfl))
  f29 := Try.func79.trans (congrArg some (by kernel_rfl))
  f46 := ⟨Try.f94.name, by decide, Try.func94.trans (congrArg some (by kernel_rfl))⟩
  f47 := Try.func90.trans (congrArg some (by kernel_rfl))
  f48 := Try.func91.trans (congrArg some (by kernel_rfl))
  f49 := ⟨Try.f95.name, by decide, Try.func95.trans (congrArg some (by kernel_rfl))⟩
  f50 := ⟨Try.f96.name, by decide, Try.func96.trans (congrArg some (by kernel_rfl))⟩
  f57 := ⟨Try.f98.name, by decide, Try.func98.trans (congrArg some (by kernel_rfl))⟩
  t0 := Try.underlying0
  a0 := Try.isAgg0
  z0 := Try.sizeOf0
  v0 := Try.zeroValue0
  t3 := Try.underlying3
  a3 := Try.isAgg3
  z3 := Try.sizeOf3
  v3 := Try.zeroValue3
  t4 := Try.underlying4
  a4 := Try.isAgg4
  z4 := Try.sizeOf4
  v4 := Try.zeroValue4
  t5 := Try.underlying5
  a5 := Try.isAgg5
  z5 := Try.sizeOf5
  v5 := Try.zeroValue5
  t9 := Try.underlying9
  a9 := Try.isAgg9
  z9 := Try.sizeOf9
  v9 := Try.zeroValue9
  t22 := Try.underlying42
  a22 := Try.isAgg42
  z22 := Try.sizeOf42
  v22 := Try.zeroValue42
  t25 := Try.underlying81
  a25 := Try.isAgg81
  z25 := Try.sizeOf81
  v25 := Try.zeroValue81
  t39 := Try.underlying91
  a39 := Try.isAgg91
  z39 := Try.sizeOf91
  v39 := Try.zeroValue91
  t45 := Try.underlying96
  a45 := Try.isAgg96
  z45 := Try.sizeOf96
  v45 := Try.zeroValue96
  t46 := Try.underlying97
  a46 := Try.isAgg97
  z46 := Try.sizeOf97
  v46 := Try.zeroValue97
  t50 := Try.underlying82
  a50 := Try.isAgg82
  z50 := Try.sizeOf82
  v50 := Try.zeroValue82
  t53 := Try.underlying103
  a53 := Try.isAgg103
  z53 := Try.sizeOf103
  v53 := Try.zeroValue103
  t55 := Try.underlying105
  a55 := Try.isAgg105
  z55 := Try.sizeOf105
  v55 := Try.zeroValue105
  t66 := Try.underlying112
  a66 := Try.isAgg112
  z66 := Try.sizeOf112
  v66 := Try.zeroValue112
  t70 := Try.underlying116
  a70 := Try.isAgg116
  z70 := Try.sizeOf116
  v70 := Try.zeroValue116
  t76 := Try.underlying120
  a76 := Try.isAgg120
  z76 := Try.sizeOf120
  v76 := Try.zeroValue120
  t77 := Try.underlying121
  a77 := Try.isAgg121
  z77 := Try.sizeOf121
  v77 := Try.zeroValue121 }
def Try.cloneAd_ren : Go.Shelf.Ren := ⟨fun | 41 => 36 | n => n, fun | 22 => 23 | 23 => 34 | 4 => 4 | n => n, fun | n => n⟩
theorem Try.cloneAd : Go.Proofs.SlLaysE0.n41 Try.prog Try.cloneAd_ren := {
  mixed := by kernel_rfl
  f41 := ⟨Try.f36.name, by decide, Try.func36.trans (congrArg some (by kernel_rfl))⟩
  t4 := Try.underlying4
  a4 := Try.isAgg4
  z4 := Try.sizeOf4
  v4 := Try.zeroValue4
  t22 := Try.underlying23
  a22 := Try.isAgg23
  z22 := Try.sizeOf23
  v22 := Try.zeroValue23 }
def Try.cloneAr_ren : Go.Shelf.Ren := ⟨fun | 41 => 44 | n => n, fun | 22 => 42 | 23 => 41 | 4 => 4 | n => n, fun | n => n⟩
theorem Try.cloneAr : Go.Proofs.SlLaysE0.n41 Try.prog Try.cloneAr_ren := {
  mixed := by kernel_rfl
  f41 := ⟨Try.f44.name, by decide, Try.func44.trans (congrArg some (by kernel_rfl))⟩
  t4 := Try.underlying4
  a4 := Try.isAgg4
  z4 := Try.sizeOf4
  v4 := Try.zeroValue4
  t22 := Try.underlying42
  a22 := Try.isAgg42
  z22 := Try.sizeOf42
  v22 := Try.zeroValue42 }

end Go.Proofs.Ytagfgkcipomopaa
namespace Go.Proofs.Ytagfgkcipomopaa
open Go.RowKit Go.Sort Go.MapKept
open Go.ChangeMaps (setBlock)

/-! ### ranging over a map -/
/-- Block r is an iterator over the map in block b; these entries are to come; this one came last. -/
def IterIs (w : World) (r b : Nat) (E left : List (Ad × Value)) (cur : Option (Ad × Value)) : Prop :=
  ∃ es clock seen, w.heap[b]? = some (.map es clock) ∧ Stamped es clock ∧ es.toList.map kv = E.map kvE ∧ w.heap[r]? = some (.mapIter (some b) clock seen clock) ∧
    (leftOf es seen).toList.map kv = left.map kvE ∧ ∀ x, cur = some x → ∃ (seen' : Array Nat) (e : MapEntry), seen = seen'.push e.born ∧ e ∈ es.toList ∧ kv e = kvE x
theorem IterIs.map {w : World} {r b : Nat} {E left : List (Ad × Value)} {cur : Option (Ad × Value)} (h : IterIs w r b E left cur) : MapIs w b E := by
  obtain ⟨es, clock, seen, h1, h2, h3, _⟩ := h
  exact ⟨es, clock, h1, h2, h3⟩
theorem IterIs.ne {w : World} {r b : Nat} {E left : List (Ad × Value)} {cur : Option (Ad × Value)} (h : IterIs w r b E left cur) : r ≠ b := by
  obtain ⟨es, clock, seen, h1, _, _, h4, _⟩ := h
  intro e; subst e; rw [h1] at h4; cases h4
theorem IterIs.lt {w : World} {r b : Nat} {E left : List (Ad × Value)} {cur : Option (Ad × Value)} (h : IterIs w r b E left cur) : r < w.heap.size := by
  obtain ⟨es, clock, seen, h1, _, _, h4, _⟩ := h
  exact (Array.getElem?_eq_some_iff.1 h4).1
theorem IterIs.of_heap {w w' : World} {r b : Nat} {E left : List (Ad × Value)} {cur : Option (Ad × Value)} (h : IterIs w r b E left cur) (hb : w'.heap[b]? = w.heap[b]?) (hr : w'.heap[r]? = w.heap[r]?) : IterIs w' r b E left cur := by
  obtain ⟨es, clock, seen, h1, h2, h3, h4, h5⟩ := h
  exact ⟨es, clock, seen, hb.trans h1, h2, h3, hr.trans h4, h5⟩
theorem kvE_inj {x y : Ad × Value} (h : kvE x = kvE y) : x = y := by
  obtain ⟨a, v⟩ := x; obtain ⟨b, u⟩ := y
  simp only [kvE, Prod.mk.injEq] at h
  obtain ⟨h1, rfl⟩ := h
  rw [adV_inj h1]
theorem map_kvE_inj : ∀ {l l' : List (Ad × Value)}, l.map kvE = l'.map kvE → l = l'
  | [], [], _ => rfl
  | [], _ :: _, h => by simp at h
  | _ :: _, [], h => by simp at h
  | x :: l, y :: l', h => by
    simp only [List.map_cons, List.cons.injEq] at h
    rw [kvE_inj h.1, map_kvE_inj h.2]
theorem MapIs.range {P : Program} {t k e : TypeId} (ht : P.underlying t = some (.map k e)) {w : World} {b : Nat} {E : List (Ad × Value)} (h : MapIs w b E) :
    ∃ w', (Instr.range t (.map (some b))).run P w = .ok (.pointer (some ⟨w.heap.size, 0, none⟩)) w' ∧ IterIs w' w.heap.size b E E none ∧ Gr w w' ∧ w'.heap.size = w.heap.size + 1 := by
  have hlt := h.lt
  obtain ⟨es, clock, hb, hs, he⟩ := h
  refine ⟨_, run_range_map w t k e b es clock ht hb, ⟨es, clock, #[], ((MapKept.heap_alloc w _).2 b hlt).trans hb, hs, he, (MapKept.heap_alloc w _).1, ?_, fun x hx => by cases hx⟩, (Gr.refl _).alloc _, by simp⟩
  rw [← he]
  simp only [leftOf, Array.toList_filter]
  rw [List.filter_eq_self.2 (by simp)]
theorem filter_out : ∀ {L1 L2 : List MapEntry} {e : MapEntry}, ((L1 ++ e :: L2).map (·.born)).Nodup → (L1 ++ e :: L2).filter (fun x => !(x.born == e.born)) = L1 ++ L2 := by
  intro L1 L2 e h
  rw [List.map_append, List.map_cons, List.nodup_append] at h
  obtain ⟨_, h2, h3⟩ := h
  rw [List.nodup_cons] at h2
  rw [List.filter_append, List.filter_cons]
  simp only [beq_self_eq_true, Bool.not_true, Bool.false_eq_true, if_false]
  congr 1
  · refine List.filter_eq_self.2 fun x hx => ?_
    have : x.born ≠ e.born := fun hh => h3 _ (List.mem_map.2 ⟨x, hx, rfl⟩) _ (List.mem_cons_self ..) hh
    simp [this]
  · refine List.filter_eq_self.2 fun x hx => ?_
    have : x.born ≠ e.born := fun hh => h2.1 (List.mem_map.2 ⟨x, hx, hh⟩)
    simp [this]
theorem IterIs.next {P : Program} {w : World} {r b : Nat} {E left : List (Ad × Value)} {cur : Option (Ad × Value)} (h : IterIs w r b E left cur) (ty : TypeId) :
    (left = [] ∧ (Instr.next (.pointer (some ⟨r, 0, none⟩)) false ty).run P w = .ok (.tuple #[.bool false]) w) ∨
    ∃ x l1 l2 w1, left = l1 ++ x :: l2 ∧ (Instr.next (.pointer (some ⟨r, 0, none⟩)) false ty).run P w = .ok (.tuple #[.bool true, adV x.1, x.2]) w1 ∧ IterIs w1 r b E (l1 ++ l2) (some x) ∧ w.grownBy w1 (some r) ∧ w1.heap.size = w.heap.size := by
  have hne := h.ne
  obtain ⟨es, clock, seen, hb, hs, he, hr, hl, _⟩ := h
  rcases run_next_at (P := P) w ty r b clock clock seen es clock hr hb hs.1 (Nat.le_refl _) with ⟨h0, hrun⟩ | ⟨e, hemem, w1, hw1, hrun⟩
  · refine Or.inl ⟨?_, hrun⟩
    have : leftOf es seen = #[] := Array.eq_empty_of_size_eq_zero h0
    rw [this] at hl
    cases left with
    | nil => rfl
    | cons _ _ => simp at hl
  · obtain ⟨hes, hseen⟩ := mem_left hemem
    obtain ⟨L1, L2, hL⟩ := List.append_of_mem hemem
    rw [hL, List.map_append, List.map_cons] at hl
    obtain ⟨l1, l2', hll, hl1, hl2⟩ := List.map_eq_append_iff.1 hl.symm
    obtain ⟨x, l2, rfl, hx, hl2⟩ := List.map_eq_cons_iff.1 hl2
    have hkv : e.key = adV x.1 ∧ e.val = x.2 := by
      simp only [kv, kvE, Prod.mk.injEq] at hx
      exact ⟨hx.1.symm, hx.2.symm⟩
    have hw1h : w1.heap = w.heap := by rcases hw1 with rfl | rfl <;> rfl
    have hr1 : w1.heap[r]? = some (.mapIter (some b) clock seen clock) := by rw [hw1h]; exact hr
    have hrl : r < w1.heap.size := (Array.getElem?_eq_some_iff.1 hr1).1
    refine Or.inr ⟨x, l1, l2, setBlock w1 r (.mapIter (some b) clock (seen.push e.born) clock), hll, by rw [hrun, hkv.1, hkv.2], ⟨es, clock, seen.push e.born, ?_, hs, he, ?_, ?_, ?_⟩, ?_, ?_⟩
    · simp only [setBlock]
      rw [Array.getElem?_setIfInBounds_ne hne, hw1h]; exact hb
    · simp only [setBlock]
      rw [Array.getElem?_setIfInBounds_self_of_lt hrl]
    · have hf : (leftOf es (seen.push e.born)).toList = L1 ++ L2 := by
        have hnd : ((leftOf es seen).toList.map (·.born)).Nodup := by
          have : (leftOf es seen).toList.Sublist es.toList := by unfold leftOf; rw [Array.toList_filter]; exact List.filter_sublist
          exact (this.map _).nodup hs.2.1
        rw [hL] at hnd
        rw [← filter_out hnd, ← hL]
        unfold leftOf
        simp only [Array.toList_filter, List.filter_filter]
        refine List.filter_congr fun y _ => ?_
        rw [contains_push, Bool.not_or, Bool.and_comm]
      rw [hf, List.map_append, List.map_append, hl1, hl2]
    · intro y hy
      cases hy
      exact ⟨seen, e, rfl, hes, hx.symm⟩
    · refine ⟨?_, ?_, ?_, ?_, ?_⟩
      · rcases hw1 with rfl | rfl <;> rfl
      · rcases hw1 with rfl | rfl <;> rfl
      · rcases hw1 with rfl | rfl <;> rfl
      · simp [setBlock, hw1h]
      · intro k _ hk
        simp only [setBlock]
        rw [Array.getElem?_setIfInBounds_ne (fun e => hk (by rw [e])), hw1h]
    · simp [setBlock, hw1h]
theorem IterIs.entry {P : Program} {w : World} {r b : Nat} {E left : List (Ad × Value)} {x : Ad × Value} (h : IterIs w r b E left (some x)) :
    (Instr.entry (.pointer (some ⟨r, 0, none⟩))).run P w = .ok (.tuple #[adV x.1, x.2]) w := by
  obtain ⟨es, clock, seen, hb, hs, he, hr, hl, hc⟩ := h
  obtain ⟨seen', e, rfl, hmem, hx⟩ := hc x rfl
  rw [run_entry_at (P := P) w r b clock seen' es clock e hr hb hmem hs.2.1]
  simp only [kv, kvE, Prod.mk.injEq] at hx
  rw [hx.1, hx.2]

section
variable {P : Program} (w : World) {ops : Array Oper} {rest : List Oper} {o : Oper} {a : Act} {Q : Exit → Act → World → Prop}
/-- 'range m' at the operation. -/
theorem wpList_range_it (hg : o.guard = none) (m : Operand) (t k e : TypeId) (hop : o.op = Op.range t m) (ht : P.underlying t = some (.map k e)) (b : Nat) (E : List (Ad × Value)) (hm : a.eval m = .map (some b)) (h : MapIs w b E)
    (hK : ∀ w', IterIs w' w.heap.size b E E none → Gr w w' → w'.heap.size = w.heap.size + 1 → wpList P ops Q rest (a.put o.dst (.pointer (some ⟨w.heap.size, 0, none⟩))) w') :
    wpList P ops Q (o :: rest) a w := by
  refine wpList_plain hg fun K' hK' => ?_
  obtain ⟨w', hrun, r1, r2, r3⟩ := h.range (P := P) ht
  unfold Oper.wp
  simp [execOp, hop, hm, hrun, Result.andThen]
  exact hK' _ _ (hK w' r1 r2 r3)
/-- The step. -/
theorem wpList_next_it (hg : o.guard = none) (it : Operand) (hop : o.op = Op.next it false) (r b : Nat) (E left : List (Ad × Value)) (cur : Option (Ad × Value)) (hit : a.eval it = .pointer (some ⟨r, 0, none⟩)) (h : IterIs w r b E left cur)
    (hDone : left = [] → wpList P ops Q rest (a.put o.dst (.tuple #[.bool false])) w)
    (hMore : ∀ (c d : Int) (v : Value) l1 l2 w1, left = l1 ++ ((c, d), v) :: l2 → IterIs w1 r b E (l1 ++ l2) (some ((c, d), v)) → w.grownBy w1 (some r) → w1.heap.size = w.heap.size →
      (Instr.entry (.pointer (some ⟨r, 0, none⟩))).run P w1 = .ok (.tuple #[.agg #[.int .i64 c, .int .i64 d], v]) w1 → wpList P ops Q rest (a.put o.dst (.tuple #[.bool true, .agg #[.int .i64 c, .int .i64 d], v])) w1) :
    wpList P ops Q (o :: rest) a w := by
  refine wpList_plain hg fun K' hK' => ?_
  unfold Oper.wp
  rcases h.next (P := P) o.type with ⟨h0, hrun⟩ | ⟨x, l1, l2, w1, hl, hrun, hI, hgr, hsz⟩
  · simp [execOp, hop, hit, hrun, Result.andThen]
    exact hK' _ _ (hDone h0)
  · simp [execOp, hop, hit, hrun, Result.andThen]
    exact hK' _ _ (hMore x.1.1 x.1.2 x.2 l1 l2 w1 hl hI hgr hsz hI.entry)
/-- 'delete(m, k)'. -/
theorem wpList_delete_it (hg : o.guard = none) (m x : Operand) (t tk k e : TypeId) (hop : o.op = Op.call { callee := Callee.builtin Builtin.delete, args := #[m, x], argTypes := #[t, tk] }) (K : AdrKey P k) (ht : P.underlying t = some (.map k e)) (b : Nat) (E : List (Ad × Value)) (hm : a.eval m = .map (some b)) (c d : Int) (hx : a.eval x = .agg #[.int .i64 c, .int .i64 d]) (h : MapIs w b E)
    (hK : ∀ w', MapIs w' b (dlE (c, d) E) → w.grownBy w' (some b) → w'.heap.size = w.heap.size → wpList P ops Q rest (a.put o.dst (.tuple #[])) w') :
    wpList P ops Q (o :: rest) a w := by
  refine wpList_plain hg fun K' hK' => ?_
  obtain ⟨w', hrun, r1, r2, _, r3⟩ := h.delete (ty := o.type) K ht (c, d) tk
  have hrun' : (Builtin.delete_ #[t, tk] o.type #[.map (some b), .agg #[.int .i64 c, .int .i64 d]]).run P w = .ok (.tuple #[]) w' := hrun
  unfold Oper.wp
  simp [execOp, hop, resolve, invoke, builtin, hm, hx, hrun', Result.andThen]
  exact hK' _ _ (hK w' r1 r2 r3)
/-- 'm[k] = v'. -/
theorem wpList_update_it (hg : o.guard = none) (m x v : Operand) (t k e : TypeId) (hop : o.op = Op.mapUpdate t m x v) (K : AdrKey P k) (ht : P.underlying t = some (.map k e)) (b : Nat) (E : List (Ad × Value)) (hm : a.eval m = .map (some b)) (c d : Int) (hx : a.eval x = .agg #[.int .i64 c, .int .i64 d]) (val : Value) (hv : a.eval v = val) (h : MapIs w b E)
    (hK : ∀ w', MapIs w' b (upE (c, d) val E) → w.grownBy w' (some b) → w'.heap.size = w.heap.size → wpList P ops Q rest (a.put o.dst undef) w') :
    wpList P ops Q (o :: rest) a w := by
  refine wpList_plain hg fun K' hK' => ?_
  obtain ⟨w', hrun, r1, r2, _, r3⟩ := h.update K ht (c, d) val
  have hrun' : (Instr.mapUpdate t (.map (some b)) (.agg #[.int .i64 c, .int .i64 d]) val).run P w = .ok () w' := hrun
  unfold Oper.wp
  simp [execOp, hop, hm, hx, hv, hrun', Result.andThen]
  exact hK' _ _ (hK w' r1 r2 r3)
end
end Go.Proofs.Ytagfgkcipomopaa
namespace Go.Proofs.Ytagfgkcipomopaa
open Go.RowKit Go.Sort Go.MapKept

/-! ### rows of the call's own, element by element -/
section
variable {α : Type} {enc : α → List Value} {k : Nat}
theorem flat_len (hk : ∀ x, (enc x).length = k) : ∀ (l : List α), (l.flatMap enc).length = l.length * k
  | [] => by simp
  | x :: l => by simp [List.flatMap_cons, hk, flat_len hk l, Nat.add_mul, Nat.add_comm]
theorem flat_get (hk : ∀ x, (enc x).length = k) : ∀ (l : List α) (j i : Nat) (x : α), l[j]? = some x → i < k → (l.flatMap enc)[j * k + i]? = (enc x)[i]?
  | [], _, _, _, h, _ => by simp at h
  | y :: l, 0, i, x, h, hi => by
    simp only [List.getElem?_cons_zero, Option.some.injEq] at h
    subst h
    rw [List.flatMap_cons, Nat.zero_mul, Nat.zero_add, List.getElem?_append_left (by rw [hk]; exact hi)]
  | y :: l, j + 1, i, x, h, hi => by
    simp only [List.getElem?_cons_succ] at h
    rw [List.flatMap_cons, List.getElem?_append_right (by rw [hk, Nat.add_mul]; omega), hk, show (j + 1) * k + i - k = j * k + i by rw [Nat.add_mul]; omega]
    exact flat_get hk l j i x h hi
/-- A slice of the call's own, by its elements. -/
def OwnL (w : World) (base : Nat) (T : TypeId) (k : Nat) (enc : α → List Value) (v : Value) (l : List α) : Prop := w.ownsRow base T k v l.length (l.flatMap enc)
theorem OwnL.sl {w : World} {base : Nat} {T : TypeId} {v : Value} {l : List α} (h : OwnL w base T k enc v l) (hk : ∀ x, (enc x).length = k) : SlOf w enc k v l := by
  obtain ⟨h1, h2⟩ := h
  rcases h2 with ⟨rfl, h0⟩ | ⟨g, cap, cur, rfl, hb, hg, hn, hc, hs, ht⟩
  · refine ⟨none, 0, by rw [h0], by omega, by omega, fun hl => ?_⟩
    exact absurd (List.length_eq_zero_iff.1 h0) hl
  · refine ⟨_, cap, rfl, hn, by unfold maxLen at hc; omega, fun _ => ⟨g, 0, rfl, fun j x hx i u hu => ?_⟩⟩
    have hi : i < k := by rw [← hk x]; exact (List.getElem?_eq_some_iff.1 hu).1
    have hf := flat_get hk l j i x hx hi
    rw [hu, ← ht] at hf
    rw [List.getElem?_take] at hf
    split at hf
    · rw [Nat.zero_add, cell_of_row w g _ cur T (0, 0) hg]
      simpa using hf
    · cases hf
theorem OwnL.inF {w : World} {base : Nat} {T : TypeId} {v : Value} {l : List α} (h : OwnL w base T k enc v l) : slIn (fun b => base ≤ b) v := by
  intro a n c hv
  rcases h.2 with ⟨h0, _⟩ | ⟨g, cap, cur, h0, hb, _⟩
  · rw [h0] at hv; cases hv
  · rw [h0] at hv; cases hv; exact hb
theorem OwnL.base {w : World} {base base' : Nat} {T : TypeId} {v : Value} {l : List α} (h : OwnL w base T k enc v l) (hb : base' ≤ base) : OwnL w base' T k enc v l := by
  refine ⟨h.1, ?_⟩
  rcases h.2 with h0 | ⟨g, cap, cur, h0, h1, r⟩
  · exact Or.inl h0
  · exact Or.inr ⟨g, cap, cur, h0, by omega, r⟩
theorem Xt.grown {a b : World} (h : Xt a b) (row : Option Nat) : a.grownBy b row := ⟨h.os, h.tape, h.output, h.size, fun k hk _ => Below.block h k hk⟩
theorem OwnL.xt {w w' : World} {base : Nat} {T : TypeId} {v : Value} {l : List α} (h : OwnL w base T k enc v l) (hx : Xt w w') : OwnL w' base T k enc v l :=
  World.ownsRow.kept h (hx.grown none) (by cases v.ownBlock <;> simp)
theorem own_ne {w : World} {base n size : Nat} {T : TypeId} {v : Value} {xs : List Value} (h : w.ownsRow base T size v n xs) {r : Nat} (hr : r < base) : v.ownBlock = none ∨ v.ownBlock ≠ some r := by
  cases hv : v.ownBlock with
  | none => exact Or.inl rfl
  | some q => exact Or.inr fun e => by cases e; have := (World.ownsRow.lt h _ hv).1; omega
theorem news_at (W : World) (cs : List Value) (T : TypeId) {b : Nat} (hb : b = W.heap.size) : ∀ (j : Nat) (u : Value), cs[j]? = some u → (W.alloc (.cells cs.toArray T)).cell? ((⟨b, 0, none⟩ : Addr).add j) = some u := by
  intro j u hu
  subst hb
  rw [show (⟨W.heap.size, 0, none⟩ : Addr).add j = ⟨W.heap.size, 0 + j, none⟩ from Addr.add_lit .., Nat.zero_add, World.cell?_alloc_new]
  simpa using hu
theorem holdsK_of [Inhabited α] {w : World} {g : Nat} {T : TypeId} {cur : Array Value} {l : List α} (hk : ∀ x, (enc x).length = k) (hg : w.heap[g]? = some (.cells cur T (0, 0))) (ht : cur.toList.take (l.length * k) = l.flatMap enc) : HoldsK enc k w g 0 l.toArray := by
  intro t hts
  rw [size_flatK] at hts
  have htl : t < l.length * k := by simpa using hts
  have k0 : 0 < k := by rcases Nat.eq_zero_or_pos k with h | h; · subst h; simp at htl
                        · exact h
  have hj : t / k < l.length := by rw [Nat.div_lt_iff_lt_mul k0]; exact htl
  have hi : t % k < k := Nat.mod_lt _ k0
  refine ⟨?_, ?_⟩
  · rw [get_flatK enc k _ t hts, Nat.zero_add, cell_of_row w g t cur T (0, 0) hg]
    have hf := flat_get hk l (t / k) (t % k) l[t / k] (by simp [hj]) hi
    rw [Nat.div_add_mod' t k, ← ht, List.getElem?_take, if_pos htl] at hf
    have e1 : (enc (l.toArray[t / k]!)) = enc l[t / k] := by rw [getElem!_pos _ _ (by simpa using hj)]; simp
    rw [e1]
    have hl2 : t % k < (enc l[t / k]).length := by rw [hk]; exact hi
    rw [getElem!_pos (enc l[t / k]) (t % k) hl2]
    rw [List.getElem?_eq_getElem hl2] at hf
    simpa using hf
  · simp [World.frozen?, hg]
theorem putCells_take (F cur : Array Value) (h : F.size ≤ cur.size) : (putCells id 0 F cur).size = cur.size ∧ (putCells id 0 F cur).toList.take F.size = F.toList := by
  refine ⟨by simp [putCells], ?_⟩
  apply List.ext_getElem?
  intro i
  rw [List.getElem?_take]
  by_cases hi : i < F.size
  · have hc : i < cur.size := by omega
    rw [if_pos hi, Array.getElem?_toList, Array.getElem?_toList]
    simp only [putCells, Array.getElem?_mapIdx, Array.getElem?_eq_getElem hc, Option.map_some, Nat.zero_le, Nat.zero_add, hi, and_self, if_true, id, Nat.sub_zero, Array.getElem?_eq_getElem hi]
    rw [getElem!_pos F i hi]
  · rw [if_neg hi]
    simp [Array.getElem?_eq_none (Nat.le_of_not_lt hi)]
theorem flatK_toList [Inhabited α] (hk : ∀ x, (enc x).length = k) (d : Array α) : (flatK enc k d).toList = d.toList.flatMap enc := by
  apply List.ext_getElem?
  intro t
  by_cases htl : t < d.size * k
  · have k0 : 0 < k := by rcases Nat.eq_zero_or_pos k with h | h; · subst h; simp at htl
                          · exact h
    have hj : t / k < d.size := by rw [Nat.div_lt_iff_lt_mul k0]; exact htl
    have hi : t % k < k := Nat.mod_lt _ k0
    have hf := flat_get hk d.toList (t / k) (t % k) d[t / k] (by simp [hj]) hi
    rw [Nat.div_add_mod' t k] at hf
    rw [hf, Array.getElem?_toList, Array.getElem?_eq_getElem (by simpa using htl), ← getElem!_pos (flatK enc k d) t (by simpa using htl), get_flatK enc k d t htl]
    rw [getElem!_pos d _ hj]
    have hl2 : t % k < (enc d[t / k]).length := by rw [hk]; exact hi
    rw [List.getElem?_eq_getElem hl2, getElem!_pos (enc d[t / k]) (t % k) hl2]
  · have h1 : (d.toList.flatMap enc).length = d.size * k := by rw [flat_len hk]; simp
    rw [List.getElem?_eq_none (l := d.toList.flatMap enc) (by rw [h1]; omega), List.getElem?_eq_none (by simp; omega)]
theorem ah_heap (w : World) (m : Nat) : (Go.Sort.ahead w m).heap = w.heap := rfl
theorem owns_sortWorld [Inhabited α] (hk : ∀ x, (enc x).length = k) {w : World} {g B : Nat} {T : TypeId} {cur : Array Value} {cap m : Nat} {d : Array α} {os : Array Obj} (hg : w.heap[g]? = some (.cells cur T (0, 0))) (hB : B ≤ g)
    (hn : d.size ≤ cap) (hc : cap ≤ maxLen) (hs : cur.size = cap * k) :
    (sortWorldK enc k w g 0 m d os).ownsRow B T k (.slice (some ⟨g, 0, none⟩) d.size cap) d.size (d.toList.flatMap enc) ∧ w.grownBy (sortWorldK enc k w g 0 m d os) (some g) := by
  have hlt : g < w.heap.size := (Array.getElem?_eq_some_iff.1 hg).1
  have hF : (flatK enc k d).size ≤ cur.size := by rw [size_flatK, hs]; exact Nat.mul_le_mul_right _ hn
  obtain ⟨p1, p2⟩ := putCells_take (flatK enc k d) cur hF
  have hh : (sortWorldK enc k w g 0 m d os).heap[g]? = some (.cells (putCells id 0 (flatK enc k d) cur) T (0, 0)) := by
    simp only [sortWorldK, grow, putRowK, putRow, mapBlock, ah_heap]
    rw [Array.getElem?_append_left (by simpa using hlt), Array.getElem?_modify, if_pos rfl, hg]
    rfl
  refine ⟨⟨by rw [flat_len hk]; simp, Or.inr ⟨g, cap, _, rfl, hB, hh, hn, hc, by rw [p1, hs], ?_⟩⟩, ⟨rfl, rfl, rfl, ?_, fun i hi hne => ?_⟩⟩
  · rw [← flatK_toList hk d, ← p2, size_flatK]
  · simp [sortWorldK, grow, putRowK, putRow, mapBlock]
  · simp only [sortWorldK, grow, putRowK, putRow, mapBlock, ah_heap]
    rw [Array.getElem?_append_left (by simpa using hi), Array.getElem?_modify, if_neg (fun e => hne (by rw [e]))]
end
end Go.Proofs.Ytagfgkcipomopaa
namespace Go.Proofs.Ytagfgkcipomopaa
open Go.Shelf Go.RowKit Go.Lib Go.Sort

/-! ### the two orders -/
def adCmp (a b : Ad) : Int := orI (cmpI a.2 b.2) (cmpI a.1 b.1)
def adLt (a b : Ad) : Bool := decide (a.2 < b.2) || (decide (a.2 = b.2) && decide (a.1 < b.1))
theorem adCmp_lt (a b : Ad) : decide (adCmp a b < 0) = adLt a b := by
  unfold adCmp adLt orI cmpI
  by_cases h1 : a.2 < b.2
  · have : ¬ a.2 = b.2 := by omega
    simp [h1]
  · by_cases h2 : b.2 < a.2
    · have : ¬ a.2 = b.2 := by omega
      simp [h1, h2, this]
    · have : a.2 = b.2 := by omega
      by_cases h3 : a.1 < b.1
      · simp [this, h3]
      · by_cases h4 : b.1 < a.1 <;> simp [this, h3, h4]
theorem adCmp_0 (a b : Ad) : adCmp a b = 0 ↔ a = b := by
  unfold adCmp orI cmpI
  rw [Prod.ext_iff]
  by_cases h1 : a.2 < b.2
  · simp [h1]; omega
  · by_cases h2 : b.2 < a.2
    · simp [h1, h2]; omega
    · have : a.2 = b.2 := by omega
      by_cases h3 : a.1 < b.1
      · simp [this, h3]; omega
      · by_cases h4 : b.1 < a.1
        · simp [this, h3, h4]; omega
        · simp [this, h3, h4]; omega
theorem ltOf_ad : ltOf adCmp = adLt := by funext a b; exact adCmp_lt a b
theorem adLt_iff (a b : Ad) : adLt a b = true ↔ a.2 < b.2 ∨ a.2 = b.2 ∧ a.1 < b.1 := by simp [adLt]
theorem adLt_false (a b : Ad) : adLt a b = false ↔ ¬ (a.2 < b.2 ∨ a.2 = b.2 ∧ a.1 < b.1) := by rw [← adLt_iff]; simp
theorem swo_ad : SWO adLt where
  irrefl x := by rw [adLt_false]; omega
  trans x y z h1 h2 := by rw [adLt_iff] at *; omega
  ntrans x y z h1 h2 := by rw [adLt_false] at *; omega
theorem tot_ad (x y : Ad) (h1 : adLt x y = false) (h2 : adLt y x = false) : x = y := by
  rw [adLt_false] at *; rw [Prod.ext_iff]; omega
def arCmp (x y : Ar) : Int := orI (adCmp x.1 y.1) (adCmp x.2 y.2)
def arLt (x y : Ar) : Bool := adLt x.1 y.1 || (decide (x.1 = y.1) && adLt x.2 y.2)
theorem arCmp_lt (x y : Ar) : decide (arCmp x y < 0) = arLt x y := by
  unfold arCmp arLt orI
  rw [← adCmp_lt, ← adCmp_lt]
  by_cases h : adCmp x.1 y.1 = 0
  · have := (adCmp_0 _ _).1 h
    rw [if_pos h, this]
    have z : decide (adCmp y.1 y.1 < 0) = false := by rw [(adCmp_0 _ _).2 rfl]; rfl
    rw [z]; simp
  · have : ¬ x.1 = y.1 := fun e => h ((adCmp_0 _ _).2 e)
    simp [h, this]
theorem ltOf_ar : ltOf arCmp = arLt := by funext a b; exact arCmp_lt a b
theorem arLt_iff (x y : Ar) : arLt x y = true ↔ adLt x.1 y.1 = true ∨ x.1 = y.1 ∧ adLt x.2 y.2 = true := by simp [arLt]
theorem arLt_false (x y : Ar) : arLt x y = false ↔ ¬ (adLt x.1 y.1 = true ∨ x.1 = y.1 ∧ adLt x.2 y.2 = true) := by rw [← arLt_iff]; simp
theorem swo_ar : SWO arLt where
  irrefl x := by rw [arLt_false]; simp only [swo_ad.irrefl]; simp
  trans x y z h1 h2 := by
    rw [arLt_iff] at *
    rcases h1 with h1 | ⟨e1, h1⟩ <;> rcases h2 with h2 | ⟨e2, h2⟩
    · exact Or.inl (swo_ad.trans _ _ _ h1 h2)
    · exact Or.inl (e2 ▸ h1)
    · exact Or.inl (e1 ▸ h2)
    · exact Or.inr ⟨e1.trans e2, swo_ad.trans _ _ _ h1 h2⟩
  ntrans x y z h1 h2 := by
    rw [arLt_false, Prod.ext_iff] at *
    simp only [adLt_iff] at *
    omega
theorem tot_ar (x y : Ar) (h1 : arLt x y = false) (h2 : arLt y x = false) : x = y := by
  rw [arLt_false] at *
  simp only [adLt_iff, Prod.ext_iff] at *
  omega

/-! ### slices.SortFunc at the two -/
def sortL {α : Type} (lt : α → α → Bool) (l : List α) : List α := l.mergeSort fun x y => !lt y x
theorem adC_len (x : Ad) : (adC x).length = 2 := rfl
theorem arC_len (x : Ar) : (arC x).length = 4 := rfl
theorem adC_one (x : Ad) : ∀ v ∈ adC x, v.oneCell' = true := by intro v hv; simp [adC] at hv; rcases hv with rfl | rfl <;> rfl
theorem arC_one (x : Ar) : ∀ v ∈ arC x, v.oneCell' = true := by intro v hv; simp [arC] at hv; rcases hv with rfl | rfl | rfl | rfl <;> rfl
theorem sortAd_row (g cap : Nat) (l : List Ad) (w : World) (hH : HoldsK adC 2 w g 0 l.toArray) (hg : g < w.heap.size) (hsz : l.length < 4611686018427387904) :
    Calls Try.prog 37 #[.slice (some ⟨g, 0, none⟩) l.length cap, .func (.func 38) #[] #[]] w fun e w' => e = .returned (.tuple #[]) ∧ ∃ n os, w' = sortWorldK adC 2 w g 0 n (sortL adLt l).toArray os := by
  have eg : ∀ args w, (callFunc 38 args).run Try.prog w = .ok (.enter 38 args) w := enters_of Try.func38 (by kernel_rfl) rfl
  have hcmp : CmpLays Try.prog 38 #[] adC 2 adCmp g 0 l.toArray.size w := fun _ _ _ _ x y => order_any x.1 x.2 y.1 y.2 _
  have hcon := AnyQ.slices_SortFunc Try.sortAd 2 Try.isAgg34 Try.sizeOf34 adC adC_len adC_one adCmp (by rw [ltOf_ad]; exact swo_ad) 38 #[] g 0 cap l.toArray w eg hcmp hH hg (by simpa using hsz)
  change Calls Try.prog 37 _ _ _ at hcon
  rw [show l.toArray.size = l.length from by simp] at hcon
  refine hcon.mono fun e w' ⟨he, d', n, os, hp, hs, hw⟩ => ⟨he, n, os, ?_⟩
  rw [hw]
  congr 1
  rw [ltOf_ad] at hs
  have := sorted_unique_holds swo_ad (fun x y h1 h2 => tot_ad x y h1 h2) l.toArray d' (by simpa using hp) (by simpa using hs)
  rw [show d' = d'.toList.toArray from by simp, this]; rfl
theorem sortAr_row (g cap : Nat) (l : List Ar) (w : World) (hH : HoldsK arC 4 w g 0 l.toArray) (hg : g < w.heap.size) (hsz : l.length < 4611686018427387904) :
    Calls Try.prog 45 #[.slice (some ⟨g, 0, none⟩) l.length cap, .func (.func 46) #[] #[]] w fun e w' => e = .returned (.tuple #[]) ∧ ∃ n os, w' = sortWorldK arC 4 w g 0 n (sortL arLt l).toArray os := by
  have eg : ∀ args w, (callFunc 46 args).run Try.prog w = .ok (.enter 46 args) w := enters_of Try.func46 (by kernel_rfl) rfl
  have hcmp : CmpLays Try.prog 46 #[] arC 4 arCmp g 0 l.toArray.size w := fun _ _ _ _ x y => areaOrder_any x.1.1 x.1.2 x.2.1 x.2.2 y.1.1 y.1.2 y.2.1 y.2.2 _
  have hcon := AnyQ.slices_SortFunc Try.sortAr 4 Try.isAgg41 Try.sizeOf41 arC arC_len arC_one arCmp (by rw [ltOf_ar]; exact swo_ar) 46 #[] g 0 cap l.toArray w eg hcmp hH hg (by simpa using hsz)
  change Calls Try.prog 45 _ _ _ at hcon
  rw [show l.toArray.size = l.length from by simp] at hcon
  refine hcon.mono fun e w' ⟨he, d', n, os, hp, hs, hw⟩ => ⟨he, n, os, ?_⟩
  rw [hw]
  congr 1
  rw [ltOf_ar] at hs
  have := sorted_unique_holds swo_ar (fun x y h1 h2 => tot_ar x y h1 h2) l.toArray d' (by simpa using hp) (by simpa using hs)
  rw [show d' = d'.toList.toArray from by simp, this]; rfl

theorem sortL_len {α : Type} (lt : α → α → Bool) (l : List α) : (sortL lt l).length = l.length := by simp [sortL]
theorem sortAd_own {B : Nat} {v : Value} {l : List Ad} {w : World} (h : OwnL w B 34 2 adC v l) (hsz : l.length < 4611686018427387904) :
    Calls Try.prog 37 #[v, .func (.func 38) #[] #[]] w fun e w' => e = .returned (.tuple #[]) ∧ OwnL w' B 34 2 adC v (sortL adLt l) ∧ w.grownBy w' v.ownBlock := by
  have h0 := h
  obtain ⟨h1, h2⟩ := h
  rcases h2 with ⟨rfl, hn⟩ | ⟨g, cap, cur, rfl, hb, hg, hn, hc, hs, ht⟩
  · have hl : l = [] := List.length_eq_zero_iff.1 hn
    subst hl
    have hcon := AnyF.slices_SortFunc_none Try.sortAd none 0 (.func (.func 38) #[] #[]) w
    change Calls Try.prog 37 _ _ _ at hcon
    refine hcon.mono fun e w' ⟨he, hw⟩ => ?_
    subst hw
    exact ⟨he, by simpa [sortL] using h0, ⟨rfl, rfl, rfl, Nat.le_refl _, fun _ _ _ => rfl⟩⟩
  · refine (sortAd_row g cap l w (holdsK_of adC_len hg ht) (Array.getElem?_eq_some_iff.1 hg).1 hsz).mono fun e w' ⟨he, n, os, hw⟩ => ?_
    have := owns_sortWorld (m := n) (os := os) (d := (sortL adLt l).toArray) adC_len hg hb (by simpa [sortL_len] using hn) hc hs
    subst hw
    exact ⟨he, by simpa [OwnL, sortL_len] using this.1, this.2⟩
theorem sortAr_own {B : Nat} {v : Value} {l : List Ar} {w : World} (h : OwnL w B 41 4 arC v l) (hsz : l.length < 4611686018427387904) :
    Calls Try.prog 45 #[v, .func (.func 46) #[] #[]] w fun e w' => e = .returned (.tuple #[]) ∧ OwnL w' B 41 4 arC v (sortL arLt l) ∧ w.grownBy w' v.ownBlock := by
  have h0 := h
  obtain ⟨h1, h2⟩ := h
  rcases h2 with ⟨rfl, hn⟩ | ⟨g, cap, cur, rfl, hb, hg, hn, hc, hs, ht⟩
  · have hl : l = [] := List.length_eq_zero_iff.1 hn
    subst hl
    have hcon := AnyF.slices_SortFunc_none Try.sortAr none 0 (.func (.func 46) #[] #[]) w
    change Calls Try.prog 45 _ _ _ at hcon
    refine hcon.mono fun e w' ⟨he, hw⟩ => ?_
    subst hw
    exact ⟨he, by simpa [sortL] using h0, ⟨rfl, rfl, rfl, Nat.le_refl _, fun _ _ _ => rfl⟩⟩
  · refine (sortAr_row g cap l w (holdsK_of arC_len hg ht) (Array.getElem?_eq_some_iff.1 hg).1 hsz).mono fun e w' ⟨he, n, os, hw⟩ => ?_
    have := owns_sortWorld (m := n) (os := os) (d := (sortL arLt l).toArray) arC_len hg hb (by simpa [sortL_len] using hn) hc hs
    subst hw
    exact ⟨he, by simpa [OwnL, sortL_len] using this.1, this.2⟩
end Go.Proofs.Ytagfgkcipomopaa
namespace Go.Proofs.Ytagfgkcipomopaa
open Go.RowKit Go.Sort Go.MapKept

theorem SlOf.xt {α : Type} {w w' : World} {enc : α → List Value} {sz : Nat} {v : Value} {l : List α} (h : SlOf w enc sz v l) (hx : Xt w w') : SlOf w' enc sz v l := by
  obtain ⟨a, cap, rfl, q1, q2, h2⟩ := h
  refine ⟨a, cap, rfl, q1, q2, fun hl => ?_⟩
  obtain ⟨b, off, rfl, hc⟩ := h2 hl
  refine ⟨b, off, rfl, fun k x hk i u hu => ?_⟩
  have h0 := hc k x hk i u hu
  exact ((hx.cells).1 _ _ (World.block_lt_of_cell? w _ h0)).trans h0
/-! ### what is set, in order -/
abbrev Mp := List (Ad × List Ar)
def lkM (a : Ad) : Mp → Option (List Ar)
  | [] => none
  | x :: r => if x.1 = a then some x.2 else lkM a r
def setM (a : Ad) (l : List Ar) : Mp → Mp
  | [] => [(a, l)]
  | x :: r => if x.1 = a then (a, l) :: r else if adLt a x.1 = true then (a, l) :: x :: r else x :: setM a l r
def delM (a : Ad) (M : Mp) : Mp := M.filter (fun x => !decide (x.1 = a))
def SortedM (M : Mp) : Prop := M.Pairwise (fun x y => adLt x.1 y.1 = true)
theorem lkM_none {a : Ad} : ∀ {M : Mp}, lkM a M = none ↔ ∀ x ∈ M, x.1 ≠ a
  | [] => by simp [lkM]
  | x :: r => by
    unfold lkM
    by_cases hx : x.1 = a
    · simp [hx]
    · simp only [hx, if_false, List.mem_cons, forall_eq_or_imp]
      rw [lkM_none (M := r)]
      exact ⟨fun h => ⟨hx, h⟩, fun h => h.2⟩
theorem lkM_mem {a : Ad} {l : List Ar} : ∀ {M : Mp}, lkM a M = some l → (a, l) ∈ M
  | [], h => by simp [lkM] at h
  | x :: r, h => by
    unfold lkM at h
    by_cases hx : x.1 = a
    · simp only [hx, if_true, Option.some.injEq] at h
      subst h; subst hx; simp
    · simp only [hx, if_false] at h
      exact List.mem_cons_of_mem _ (lkM_mem h)
theorem lkM_set (a b : Ad) (l : List Ar) : ∀ (M : Mp), lkM b (setM a l M) = if a = b then some l else lkM b M
  | [] => by simp [setM, lkM]
  | x :: r => by
    unfold setM
    by_cases hx : x.1 = a
    · simp only [hx, if_true]
      unfold lkM
      by_cases hab : a = b
      · simp [hab]
      · have : ¬ x.1 = b := fun e => hab (hx.symm.trans e)
        simp [hab, this]
    · simp only [hx, if_false]
      by_cases hl : adLt a x.1 = true
      · simp only [hl, if_true]
        conv => lhs; unfold lkM
      · simp only [hl, Bool.false_eq_true, if_false]
        unfold lkM
        by_cases hb : x.1 = b
        · have : ¬ a = b := fun e => hx (hb.trans e.symm)
          simp [hb, this]
        · simp only [hb, if_false]
          exact lkM_set a b l r
theorem adLt_irrefl (a : Ad) : adLt a a = false := swo_ad.irrefl a
theorem adLt_tri (a b : Ad) : a = b ∨ adLt a b = true ∨ adLt b a = true := by
  simp only [adLt_iff, Prod.ext_iff]; omega
theorem mem_setM {a : Ad} {l : List Ar} : ∀ {M : Mp} {x : Ad × List Ar}, x ∈ setM a l M → x = (a, l) ∨ x ∈ M
  | [], x, h => by simp [setM] at h; exact Or.inl h
  | y :: r, x, h => by
    unfold setM at h
    split at h
    · simp at h; rcases h with h | h
      · exact Or.inl h
      · exact Or.inr (by simp [h])
    · split at h
      · simp at h; rcases h with h | h | h
        · exact Or.inl h
        · exact Or.inr (by simp [h])
        · exact Or.inr (by simp [h])
      · simp at h; rcases h with h | h
        · exact Or.inr (by simp [h])
        · rcases mem_setM h with h | h
          · exact Or.inl h
          · exact Or.inr (by simp [h])
theorem sorted_setM (a : Ad) (l : List Ar) : ∀ {M : Mp}, SortedM M → SortedM (setM a l M)
  | [], _ => by simp [setM, SortedM]
  | x :: r, h => by
    obtain ⟨h1, h2⟩ := List.pairwise_cons.1 h
    unfold setM
    by_cases hx : x.1 = a
    · simp only [hx, if_true]
      exact List.pairwise_cons.2 ⟨fun y hy => by have := h1 y hy; rw [hx] at this; exact this, h2⟩
    · simp only [hx, if_false]
      by_cases hl : adLt a x.1 = true
      · simp only [hl, if_true]
        refine List.pairwise_cons.2 ⟨fun y hy => ?_, h⟩
        rcases List.mem_cons.1 hy with rfl | hy
        · exact hl
        · exact swo_ad.trans _ _ _ hl (h1 y hy)
      · simp only [hl, Bool.false_eq_true, if_false]
        refine List.pairwise_cons.2 ⟨fun y hy => ?_, sorted_setM a l h2⟩
        rcases mem_setM hy with rfl | hy
        · rcases adLt_tri a x.1 with e | e | e
          · exact absurd e.symm hx
          · exact absurd e hl
          · exact e
        · exact h1 y hy
theorem sorted_delM (a : Ad) {M : Mp} (h : SortedM M) : SortedM (delM a M) := h.filter _
theorem lkM_del (a b : Ad) : ∀ (M : Mp), lkM b (delM a M) = if a = b then none else lkM b M
  | [] => by simp [delM, lkM]
  | x :: r => by
    have ih := lkM_del a b r
    unfold delM at ih ⊢
    rw [List.filter_cons]
    by_cases hx : x.1 = a
    · simp only [hx, decide_true, Bool.not_true, Bool.false_eq_true, if_false]
      rw [ih]
      by_cases hab : a = b
      · simp [hab]
      · have : ¬ x.1 = b := fun e => hab (hx.symm.trans e)
        simp [hab, lkM, this]
    · simp only [hx, decide_false, Bool.not_false, if_true]
      unfold lkM
      by_cases hb : x.1 = b
      · have : ¬ a = b := fun e => hx (hb.trans e.symm)
        simp [hb, this]
      · simp only [hb, if_false]
        exact ih
theorem nodup_M {M : Mp} (h : SortedM M) : (M.map (·.1)).Nodup := by
  unfold List.Nodup
  rw [List.pairwise_map]
  exact h.imp fun hlt e => by rw [e, adLt_irrefl] at hlt; cases hlt
/-! ### the map and the list -/
/-- The map's entries tell just this list; their slices lie in blocks of F. -/
structure Ents (w : World) (F : Nat → Prop) (E : List (Ad × Value)) (M : Mp) : Prop where
  sorted : SortedM M
  no : ∀ a, lkM a M = none → lk a E = none
  yes : ∀ a l, lkM a M = some l → ∃ v, lk a E = some v ∧ SlOf w arC 4 v l ∧ slIn F v
theorem Ents.look {w : World} {F : Nat → Prop} {E : List (Ad × Value)} {M : Mp} (h : Ents w F E M) (a : Ad) : SlOf w arC 4 ((lk a E).getD (.slice none 0 0)) ((lkM a M).getD []) ∧ slIn F ((lk a E).getD (.slice none 0 0)) ∧ (lk a E).isSome = (lkM a M).isSome := by
  cases hM : lkM a M with
  | none =>
    rw [h.no a hM]
    exact ⟨SlOf.nil _ _ _ _ _ (by omega), fun _ _ _ e => (by cases e), rfl⟩
  | some l =>
    obtain ⟨v, h1, h2, h3⟩ := h.yes a l hM
    rw [h1]
    exact ⟨h2, h3, rfl⟩
theorem lk_mem_iff {a : Ad} {E : List (Ad × Value)} : (lk a E).isSome = true ↔ a ∈ E.map (·.1) := by
  cases h : lk a E with
  | none =>
    have := lk_none.1 h
    simp only [Option.isSome_none, Bool.false_eq_true, false_iff, List.mem_map, not_exists, not_and]
    exact this
  | some v =>
    simp only [Option.isSome_some, true_iff]
    have : ¬ (lk a E = none) := by rw [h]; simp
    rw [lk_none] at this
    simp only [ne_eq, Classical.not_forall, Classical.not_not, exists_prop] at this
    obtain ⟨x, hx, he⟩ := this
    exact List.mem_map.2 ⟨x, hx, he⟩
theorem lkM_mem_iff {a : Ad} {M : Mp} : (lkM a M).isSome = true ↔ a ∈ M.map (·.1) := by
  cases h : lkM a M with
  | none =>
    have := lkM_none.1 h
    simp only [Option.isSome_none, Bool.false_eq_true, false_iff, List.mem_map, not_exists, not_and]
    exact this
  | some v =>
    simp only [Option.isSome_some, true_iff]
    exact List.mem_map.2 ⟨_, lkM_mem h, rfl⟩
theorem Ents.perm {w : World} {F : Nat → Prop} {E : List (Ad × Value)} {M : Mp} (h : Ents w F E M) (hn : (E.map (·.1)).Nodup) : (E.map (·.1)).Perm (M.map (·.1)) := by
  refine (List.perm_ext_iff_of_nodup hn (nodup_M h.sorted)).2 fun a => ?_
  rw [← lk_mem_iff, ← lkM_mem_iff, (h.look a).2.2]
theorem Ents.len {w : World} {F : Nat → Prop} {E : List (Ad × Value)} {M : Mp} (h : Ents w F E M) (hn : (E.map (·.1)).Nodup) : E.length = M.length := by
  have := (h.perm hn).length_eq
  simpa using this
theorem Ents.keep {w w' : World} {F F' : Nat → Prop} {E : List (Ad × Value)} {M : Mp} (h : Ents w F E M) (hk : ∀ b, F b → w'.heap[b]? = w.heap[b]?) (hF : ∀ b, F b → F' b) : Ents w' F' E M :=
  ⟨h.sorted, h.no, fun a l hl => by obtain ⟨v, h1, h2, h3⟩ := h.yes a l hl; exact ⟨v, h1, h2.keep h3 hk, fun a n c e => hF _ (h3 a n c e)⟩⟩
theorem lk_up (a b : Ad) (v : Value) (E : List (Ad × Value)) : lk b (upE a v E) = if a = b then some v else lk b E := by
  unfold upE
  cases hs : (lk a E).isSome with
  | true =>
    simp only [if_true]
    induction E with
    | nil => simp [lk] at hs
    | cons x r ih =>
      simp only [List.map_cons]
      unfold lk at hs ⊢
      by_cases hx : x.1 = a
      · simp only [hx, if_true]
        by_cases hab : a = b
        · simp [hab]
        · have hxb : ¬ x.1 = b := fun e => hab (hx.symm.trans e)
          simp only [hab, if_false]
          clear ih hs
          induction r with
          | nil => simp [lk]
          | cons y r ih2 =>
            simp only [List.map_cons]
            unfold lk
            by_cases hy : y.1 = a
            · have hyb : ¬ y.1 = b := fun e => hab (hy.symm.trans e)
              simp only [hy, if_true, hab, if_false]
              exact ih2
            · simp only [hy, if_false]
              by_cases hyb : y.1 = b
              · simp [hyb]
              · simp only [hyb, if_false]; exact ih2
      · simp only [hx, if_false] at hs ⊢
        by_cases hxb : x.1 = b
        · have : ¬ a = b := fun e => hx (hxb.trans e.symm)
          simp [hxb, this]
        · simp only [hxb, if_false]; exact ih hs
  | false =>
    simp only [Bool.false_eq_true, if_false]
    have hn : lk a E = none := by simpa using hs
    induction E with
    | nil => simp [lk]
    | cons x r ih =>
      unfold lk at hn
      by_cases hx : x.1 = a
      · simp [hx] at hn
      · simp only [hx, if_false] at hn
        simp only [List.cons_append]
        unfold lk
        by_cases hxb : x.1 = b
        · have : ¬ a = b := fun e => hx (hxb.trans e.symm)
          simp [hxb, this]
        · simp only [hxb, if_false]
          exact ih (by simp [hn]) hn
theorem lk_dl (a b : Ad) : ∀ (E : List (Ad × Value)), lk b (dlE a E) = if a = b then none else lk b E
  | [] => by simp [dlE, lk]
  | x :: r => by
    have ih := lk_dl a b r
    unfold dlE at ih ⊢
    rw [List.filter_cons]
    by_cases hx : x.1 = a
    · simp only [hx, decide_true, Bool.not_true, Bool.false_eq_true, if_false]
      rw [ih]
      by_cases hab : a = b
      · simp [hab]
      · have : ¬ x.1 = b := fun e => hab (hx.symm.trans e)
        simp [hab, lk, this]
    · simp only [hx, decide_false, Bool.not_false, if_true]
      unfold lk
      by_cases hb : x.1 = b
      · have : ¬ a = b := fun e => hx (hb.trans e.symm)
        simp [hb, this]
      · simp only [hb, if_false]
        exact ih
theorem Ents.set {w : World} {F : Nat → Prop} {E : List (Ad × Value)} {M : Mp} (h : Ents w F E M) {a : Ad} {v : Value} {l : List Ar} (hv : SlOf w arC 4 v l) (hF : slIn F v) : Ents w F (upE a v E) (setM a l M) where
  sorted := sorted_setM a l h.sorted
  no b hb := by
    rw [lkM_set] at hb
    rw [lk_up]
    split at hb
    · cases hb
    · rename_i hab; rw [if_neg hab]; exact h.no b hb
  yes b l' hb := by
    rw [lkM_set] at hb
    rw [lk_up]
    split at hb
    · rename_i hab; rw [if_pos hab]; cases hb; exact ⟨v, rfl, hv, hF⟩
    · rename_i hab; rw [if_neg hab]; exact h.yes b l' hb
theorem Ents.del {w : World} {F : Nat → Prop} {E : List (Ad × Value)} {M : Mp} (h : Ents w F E M) (a : Ad) : Ents w F (dlE a E) (delM a M) where
  sorted := sorted_delM a h.sorted
  no b hb := by
    rw [lkM_del] at hb
    rw [lk_dl]
    split at hb
    · rename_i hab; rw [if_pos hab]
    · rename_i hab; rw [if_neg hab]; exact h.no b hb
  yes b l' hb := by
    rw [lkM_del] at hb
    rw [lk_dl]
    split at hb
    · cases hb
    · rename_i hab; rw [if_neg hab]; exact h.yes b l' hb
/-- Links behind a pointer: which cell uses what. -/
structure Lk (w : World) (pb bm : Nat) (F : Nat → Prop) (M : Mp) : Prop where
  cell : w.cell? ⟨pb, 0, none⟩ = some (.map (some bm))
  inP : F pb
  inM : F bm
  map : ∃ E, MapIs w bm E ∧ Ents w F E M
  many : M.length ≤ 4096
  few : ∀ x ∈ M, x.2.length ≤ 256
theorem Lk.keep {w w' : World} {pb bm : Nat} {F F' : Nat → Prop} {M : Mp} (h : Lk w pb bm F M) (hk : ∀ b, F b → w'.heap[b]? = w.heap[b]?) (hF : ∀ b, F b → F' b) : Lk w' pb bm F' M := by
  obtain ⟨E, hm, he⟩ := h.map
  exact ⟨(World.cell?_of_block (w := w) (a := ⟨pb, 0, none⟩) (hk pb h.inP)).trans h.cell, hF _ h.inP, hF _ h.inM, ⟨E, hm.of_heap (hk bm h.inM), he.keep hk hF⟩, h.many, h.few⟩
theorem sl_keep' {w w' : World} {v : Value} {l : List Ar} {F : Nat → Prop} {bm : Nat} (h : SlOf w arC 4 v l) (hF : slIn F v) (hk : ∀ b, F b → b ≠ bm → w'.heap[b]? = w.heap[b]?) (hb : ∀ o, w.cell? ⟨bm, o, none⟩ = none) : SlOf w' arC 4 v l := by
  obtain ⟨a, cap, rfl, q1, q2, h2⟩ := h
  refine ⟨a, cap, rfl, q1, q2, fun hl => ?_⟩
  obtain ⟨b, off, rfl, hc⟩ := h2 hl
  have hne : b ≠ bm := by
    intro e; subst e
    cases l with
    | nil => exact hl rfl
    | cons x l =>
      have := hc 0 x rfl 0 _ rfl
      rw [hb] at this; cases this
  have hbb : w'.heap[b]? = w.heap[b]? := hk b (hF _ _ _ rfl) hne
  exact ⟨b, off, rfl, fun k x hx i u hu => (World.cell?_of_block (w := w) (a := ⟨b, off + k * 4 + i, none⟩) hbb).trans (hc k x hx i u hu)⟩
theorem Ents.keep' {w w' : World} {F F' : Nat → Prop} {E : List (Ad × Value)} {M : Mp} {bm : Nat} (h : Ents w F E M) (hk : ∀ b, F b → b ≠ bm → w'.heap[b]? = w.heap[b]?) (hb : ∀ o, w.cell? ⟨bm, o, none⟩ = none) (hF : ∀ b, F b → F' b) : Ents w' F' E M :=
  ⟨h.sorted, h.no, fun a l hl => by obtain ⟨v, h1, h2, h3⟩ := h.yes a l hl; exact ⟨v, h1, sl_keep' h2 h3 hk hb, fun a n c e => hF _ (h3 a n c e)⟩⟩
theorem MapIs.nocell {w : World} {b : Nat} {E : List (Ad × Value)} (h : MapIs w b E) (o : Nat) : w.cell? ⟨b, o, none⟩ = none := by
  obtain ⟨es, c, h1, _⟩ := h
  simp [World.cell?, h1]
theorem Lk.fewAt {w : World} {pb bm : Nat} {F : Nat → Prop} {M : Mp} (h : Lk w pb bm F M) (a : Ad) : ((lkM a M).getD []).length ≤ 256 := by
  cases hm : lkM a M with
  | none => simp
  | some l => exact h.few _ (lkM_mem hm)
theorem delM_len (a : Ad) (M : Mp) : (delM a M).length ≤ M.length := List.length_filter_le ..
/-- The map's block is written, the rest stands: Links of another list. -/
theorem Lk.wrote {w w' : World} {pb bm : Nat} {F F' : Nat → Prop} {M M' : Mp} (h : Lk w pb bm F M) (hk : ∀ b, F b → b ≠ bm → w'.heap[b]? = w.heap[b]?) (hF : ∀ b, F b → F' b) {E' : List (Ad × Value)} (hm : MapIs w' bm E') (he : Ents w' F' E' M') (hn : M'.length ≤ 4096) (hw : ∀ x ∈ M', x.2.length ≤ 256) : Lk w' pb bm F' M' := by
  have hne : pb ≠ bm := by
    intro e; subst e
    obtain ⟨E, hm0, _⟩ := h.map
    have := h.cell; rw [hm0.nocell] at this; cases this
  exact ⟨(World.cell?_of_block (w := w) (a := ⟨pb, 0, none⟩) (hk pb h.inP hne)).trans h.cell, hF _ h.inP, hF _ h.inM, ⟨E', hm, he⟩, hn, hw⟩
end Go.Proofs.Ytagfgkcipomopaa
namespace Go.Proofs.Ytagfgkcipomopaa
open Go.RowKit Go.Sort

theorem sortL_of {l ks : List Ad} (hl : l.Pairwise (fun x y => adLt x y = true)) (hp : ks.Perm l) : sortL adLt ks = l := by
  refine List.Perm.eq_of_pairwise (le := fun x y => (!adLt y x) = true) ?_ ?_ ?_ ((List.mergeSort_perm _ _).trans hp)
  · intro a b _ _ h1 h2
    exact tot_ad a b (by simpa using h2) (by simpa using h1)
  · refine List.pairwise_mergeSort (fun a b c h1 h2 => ?_) (fun a b => ?_) ks
    · simp only [Bool.not_eq_true', adLt_false] at *; omega
    · simp only [Bool.or_eq_true, Bool.not_eq_true', adLt_false]; omega
  · refine hl.imp fun {a b} h => ?_
    simp only [Bool.not_eq_true', adLt_false]
    rw [adLt_iff] at h; omega
theorem info34 : (Try.prog.info? 34).map (fun i => (i.zero, i.size, i.bytes)) = some (some (.agg #[.int .i64 0, .int .i64 0]), 2, 16) := by kernel_rfl
theorem info41 : (Try.prog.info? 41).map (fun i => (i.zero, i.size, i.bytes)) = some (some (.agg #[.int .i64 0, .int .i64 0, .int .i64 0, .int .i64 0]), 4, 32) := by kernel_rfl
theorem info3 : (Try.prog.info? 3).map (fun i => (i.zero, i.size, i.bytes)) = some (some (.int .i64 0), 1, 8) := by kernel_rfl
/-- A list of cells in memory of the call's own. -/
def RetL (w : World) (l : List Ad) (e : Ending) (w' : World) : Prop := ∃ v, e = .returned v ∧ OwnL w' w.heap.size 34 2 adC v l ∧ Xt w w'

theorem OwnL.snoc {α : Type} {enc : α → List Value} {w : World} {B : Nat} {T : TypeId} {k : Nat} {v : Value} {l : List α} {x : α} (h : w.ownsRow B T k v (l.length + 1) (l.flatMap enc ++ enc x)) : OwnL w B T k enc v (l ++ [x]) := by
  unfold OwnL
  simpa using h

set_option maxHeartbeats 1000000 in
set_option maxRecDepth 20000 in
theorem set_any (pb bm : Nat) (F : Nat → Prop) (M : Mp) (w : World) (h : Lk w pb bm F M) :
    Calls Try.prog 42 #[.pointer (some ⟨pb, 0, none⟩)] w (RetL w (M.map (·.1))) := by
  obtain ⟨i0, hi, hz0, hz1, hz2⟩ := info_parts info34
  have hc := h.cell
  obtain ⟨E, hm, he⟩ := h.map
  have hperm := Lib.hid (he.perm hm.nodup)
  have hlen := he.len hm.nodup
  have hbm := hm.lt
  have hmany := h.many
  have hM : (M.map (·.1)).Pairwise (fun x y => adLt x y = true) := by rw [List.pairwise_map]; exact he.sorted
  have HM := Lib.hid hM
  clear hM he h
  go_enter Try.func42, Try.ntmps42
  go_wp2_with (at_range; refine wpList_range_it _ rfl _ 74 34 42 rfl Try.underlying74 bm E rfl hm ?_; intro w0 hI hg0 hs0; go_frame)
  go_loopg [3] E.length (fun k v wr => ∃ left cur ks, left.length = k ∧ Hid ((ks ++ left.map (·.1)).Perm (E.map (·.1))) ∧ IterIs wr w.heap.size bm E left cur ∧ OwnL wr (w.heap.size + 1) 34 2 adC v ks ∧ Below w.heap.size w wr)
  case atStart => exact ⟨E, none, [], rfl, by unfold Hid; simp, hI, World.ownsRow_nil _ _ _ _, hg0.below⟩
  case round =>
    obtain ⟨left, cur, ks, rfl, HP, hI1, hown, hbel⟩ := hrel
    go_wp2_with (at_next; refine wpList_next_it _ rfl _ rfl _ _ _ _ _ rfl hI1 ?_ ?_)
    · intro hdone
      subst hdone
      have hkl : ks.length ≤ 4096 := by have := HP.out.length_eq; simp at this; omega
      go_wp2_with fail
      refine (sortAd_own hown (by omega)).mono ?_
      rintro e w1 ⟨rfl, hown1, hg1⟩
      go_wp2_with fail
      go_ret
      have hs : sortL adLt ks = M.map (·.1) := sortL_of HM.out (by have := HP.out; simp only [List.map_nil, List.append_nil] at this; exact this.trans hperm.out)
      rw [hs] at hown1
      exact ⟨u3, rfl, hown1.base (by omega), Below.grown hbel hg1 hbel.size (fun k hk => by have := (World.ownsRow.lt hown k hk).1; omega)⟩
    · intro c d v l1 l2 w1 hl hI2 hg1 hs1 hen
      have HL := Lib.hid hl
      have hkl : ks.length ≤ 4096 := by have := HP.out.length_eq; simp at this; omega
      have HP' : Hid (((ks ++ [(c, d)]) ++ (l1 ++ l2).map (·.1)).Perm (E.map (·.1))) := by
        refine List.Perm.trans ?_ HP.out
        rw [hl]
        simp only [List.map_append, List.map_cons, List.append_assoc, List.singleton_append]
        exact List.Perm.append_left _ List.perm_middle.symm
      have hz : w.heap.size < w1.heap.size := hI2.lt
      have hne := hI2.ne
      have hown1 : w1.ownsRow (w.heap.size + 1) 34 2 u3 ks.length (ks.flatMap adC) := hown.kept hg1 (own_ne hown (by omega))
      have hbel1 : Below w.heap.size w w1 := Below.grown hbel hg1 hbel.size (fun k hk => by cases hk; omega)
      have hlt := HL.out
      clear hown hs1 hl HP hI hg0 hm hlen hmany hI1 hg1 hbel hlt
      go_wp2_with (at_builtin; refine wpList_append_own _ rfl _ _ 23 rfl (w.heap.size + 1) 34 i0 (.agg #[.int .i64 0, .int .i64 0]) 2 16 Try.underlying23 hi hz0 hz1 hz2 rfl (by decide) _ _ _ rfl ((hown1.alloc _).alloc _) ⟨w1.heap.size + 1, 0, none⟩ 1 1 [.int .i64 c, .int .i64 d] rfl rfl (news_at _ [.int .i64 c, .int .i64 d] 34 (by simp)) (adC_one (c, d)) ?c4 ?c5 ?c6 ?_)
      case c4 => unfold maxLen; omega
      case c5 => omega
      case c6 => first | omega | (simp; omega)
      intro v' w2 hown2 hg2 _
      have hg3 : w1.grownBy w2 u3.ownBlock := (World.grownBy_alloc w1 _ _).trans ((World.grownBy_alloc _ _ _).trans hg2)
      have ho3 : ∀ r, r < w.heap.size + 1 → w2.heap[r]? = w1.heap[r]? := fun r hr => hg3.block r (by omega) (fun e => by rcases own_ne hown1 hr with h | h <;> rw [← e] at h <;> simp at h)
      go_wp2_with fail
      go_roundg (l1 ++ l2).length
      case measure => rw [HL.out]; simp
      case rel =>
        refine ⟨l1 ++ l2, _, ks ++ [(c, d)], rfl, HP', hI2.of_heap ?_ ?_, OwnL.snoc hown2, Below.grown hbel1 hg3 hbel1.size (fun k hk => by have := (World.ownsRow.lt hown1 k hk).1; omega)⟩
        · exact ho3 _ (by omega)
        · exact ho3 _ (by omega)
end Go.Proofs.Ytagfgkcipomopaa
namespace Go.Proofs.Ytagfgkcipomopaa
open Go.RowKit Go.Sort

/-! ### New, Len, Drop, Uses -/
def NewR (w : World) (e : Ending) (w' : World) : Prop := e = .returned (.pointer (some ⟨w.heap.size + 1, 0, none⟩)) ∧ Lk w' (w.heap.size + 1) w.heap.size (fun b => w.heap.size ≤ b ∧ b < w'.heap.size) [] ∧ Gr w w'
theorem new_any (w : World) : Calls Try.prog 15 #[] w (NewR w) := by
  have hmm := @run_makeMap Try.prog
  go_enter Try.func15, Try.ntmps15
  go_wp2
  go_ret
  refine ⟨rfl, ⟨by simp, ?_, ?_, ⟨[], ?_, ⟨?_, ?_, ?_⟩⟩, by simp, fun x hx => by cases hx⟩, ((Gr.refl _).alloc _).alloc _⟩
  · exact ⟨by omega, by simp⟩
  · exact ⟨Nat.le_refl _, by simp; omega⟩
  · rw [MapIs_alloc _ _ _ _ (by simp)]; exact MapIs.made w
  · exact List.Pairwise.nil
  · intro a _; rfl
  · intro a l h; cases h
theorem lenNil_any (w : World) : Calls Try.prog 19 #[.pointer none] w fun e w' => e = .returned (.int .i64 0) ∧ w = w' := by
  go_enter Try.func19, Try.ntmps19
  go_wp2
  go_ret
  exact ⟨rfl, rfl⟩
theorem len_any (pb bm : Nat) (F : Nat → Prop) (M : Mp) (w : World) (h : Lk w pb bm F M) : Calls Try.prog 19 #[.pointer (some ⟨pb, 0, none⟩)] w fun e w' => e = .returned (.int .i64 M.length) ∧ w = w' := by
  have hc := h.cell
  obtain ⟨E, hm, he⟩ := h.map
  have hl : ∀ ty, (Builtin.len_ #[74] ty #[.map (some bm)]).run Try.prog w = .ok (.int .i64 M.length) w := fun ty => by rw [← he.len hm.nodup]; exact hm.len Try.underlying74
  clear hm he h
  go_enter Try.func19, Try.ntmps19
  go_wp2
  go_ret
  exact ⟨rfl, rfl⟩
theorem dropNil_any (a : Ad) (w : World) : Calls Try.prog 18 #[.pointer none, .agg #[.int .i64 a.1, .int .i64 a.2]] w fun e w' => e = .returned (.bool false) ∧ Gr w w' := by
  go_enter Try.func18, Try.ntmps18
  go_wp2
  go_ret
  exact ⟨rfl, (Gr.refl _).alloc _⟩
theorem usesNil_any (a : Ad) (w : World) : Calls Try.prog 27 #[.pointer none, .agg #[.int .i64 a.1, .int .i64 a.2]] w fun e w' => e = .returned (.slice none 0 0) ∧ Gr w w' := by
  go_enter Try.func27, Try.ntmps27
  go_wp2
  go_ret
  exact ⟨rfl, (Gr.refl _).alloc _⟩
theorem usersNil_any (a : Ad) (w : World) : Calls Try.prog 14 #[.pointer none, .agg #[.int .i64 a.1, .int .i64 a.2]] w fun e w' => e = .returned (.slice none 0 0) ∧ Gr w w' := by
  go_enter Try.func14, Try.ntmps14
  go_wp2
  go_ret
  exact ⟨rfl, (Gr.refl _).alloc _⟩
theorem setNil_any (a : Ad) (v : Value) (w : World) : Calls Try.prog 16 #[.pointer none, .agg #[.int .i64 a.1, .int .i64 a.2], v] w fun e w' => e = .returned (.int .i64 1) ∧ Gr w w' := by
  go_enter Try.func16, Try.ntmps16
  go_wp2
  go_ret
  exact ⟨rfl, (Gr.refl _).alloc _⟩
set_option maxRecDepth 20000 in
theorem readyNil_any (v u : Value) (w : World) : Calls Try.prog 11 #[.pointer none, v, u] w fun e w' => e = .returned (.tuple #[.slice none 0 0, .int .i64 1]) ∧ w = w' := by
  go_enter Try.func11, Try.ntmps11
  go_wp2
  go_ret2
  exact ⟨rfl, rfl⟩
set_option maxRecDepth 20000 in
theorem orderNil_any (v : Value) (w : World) : Calls Try.prog 12 #[.pointer none, v] w fun e w' => e = .returned (.tuple #[.slice none 0 0, .int .i64 1]) ∧ w = w' := by
  go_enter Try.func12, Try.ntmps12
  go_wp2_with (go_at_call 11; refine (readyNil_any _ _ _).mono ?_; rintro e w' ⟨rfl, rfl⟩)
  go_ret2
  exact ⟨rfl, rfl⟩
theorem circleNil_any (w : World) : Calls Try.prog 22 #[.pointer none] w fun e w' => e = .returned (.tuple #[.slice none 0 0, .bool false]) ∧ w = w' := by
  go_enter Try.func22, Try.ntmps22
  go_wp2
  go_ret2
  exact ⟨rfl, rfl⟩
theorem copyNil_any (w : World) : Calls Try.prog 32 #[.pointer none] w fun e w' => e = .returned (.pointer none) ∧ w = w' := by
  go_enter Try.func32, Try.ntmps32
  go_wp2
  go_ret
  exact ⟨rfl, rfl⟩
theorem aboveNil_any (v : Value) (w : World) : Calls Try.prog 29 #[.pointer none, v] w fun e w' => e = .returned (.slice none 0 0) ∧ Gr w w' := by
  go_enter Try.func29, Try.ntmps29
  go_wp2
  go_ret
  exact ⟨rfl, (Gr.refl _).alloc _⟩

/-! ### Drop, of some -/
def DropR (w : World) (pb bm : Nat) (F : Nat → Prop) (M : Mp) (a : Ad) (e : Ending) (w' : World) : Prop :=
  e = .returned (.bool (lkM a M).isSome) ∧ Lk w' pb bm F (delM a M) ∧ w.grownBy w' (some bm)
set_option maxRecDepth 20000 in
theorem drop_any (pb bm : Nat) (F : Nat → Prop) (M : Mp) (a : Ad) (w : World) (h : Lk w pb bm F M) (hF : ∀ b, F b → b < w.heap.size) : Calls Try.prog 18 #[.pointer (some ⟨pb, 0, none⟩), .agg #[.int .i64 a.1, .int .i64 a.2]] w (DropR w pb bm F M a) := by
  have H := Lib.hid h
  obtain ⟨E, hm, he⟩ := h.map
  have HE := Lib.hid he
  have HF := Lib.hid hF
  have hbm' := hm.lt
  obtain ⟨w0, hw0, hb0, hs0, c0, c1⟩ := box1 w a.1 a.2 34
  have hpb' : pb < w.heap.size := World.block_lt_of_cell? w _ h.cell
  have hm0 : MapIs w0 bm E := hm.of_heap (hb0.block _ hbm')
  have hpb0 : w0.cell? ⟨pb, 0, none⟩ = some (.map (some bm)) := (hb0.cell (p := ⟨pb, 0, none⟩) hpb').trans h.cell
  have hlk : ∀ n : Nat, (Instr.lookup 74 (.map (some bm)) (.agg #[.int .i64 a.1, .int .i64 a.2]) true).run Try.prog (w0.drewN n) = .ok (.tuple #[(lk a E).getD (.slice none 0 0), .bool (lkM a M).isSome]) (w0.drewN n) := fun n => by
    rw [← (he.look a).2.2]; exact hm0.lookup_ok (w := w0.drewN n) adrKey Try.underlying74 zero42 a
  generalize hv : (lk a E).getD (.slice none 0 0) = v at hlk
  generalize hbb : (lkM a M).isSome = bb at hlk
  have HB := Lib.hid hbb
  clear hv hbb h he hm hF
  go_enter Try.func18, Try.ntmps18
  go_wp2_with fail
  clear hw0
  go_quiet (fail)
  go_wp2_with fail
  refine wp_region_still_tail 5 (by kernel_rfl) (by kernel_rfl) ?_
  change wpStill _ _ (World.drew _) _ _ _
  simp only [List.take_succ_cons, List.take_zero, List.drop_succ_cons, List.drop_zero]
  still_step
  still_step
  still_step
  still_step
  still_step
  refine wpStill_nil ?_
  change wpList _ _ _ _ _ (World.drew _)
  refine wpList_delete_it _ rfl _ _ 74 34 34 42 rfl adrKey Try.underlying74 bm E rfl a.1 a.2 rfl (by exact hm0) ?_
  intro w2 hm2 hg2 hs2
  go_wp2_with fail
  go_ret
  have hk : ∀ b, b < w.heap.size → b ≠ bm → w2.heap[b]? = w.heap[b]? := fun b hb hne => (hg2.block b (by show b < w0.heap.size; omega) (fun e => hne (by cases e; rfl))).trans (hb0.block b hb)
  have hno : ∀ o, w.cell? ⟨bm, o, none⟩ = none := H.out.map.elim fun _ q => q.1.nocell
  refine ⟨retB HB.out.symm, H.out.wrote (fun b hb hne => hk b (HF.out b hb) hne) (fun _ h => h) hm2 (((HE.out).keep' (fun b hb hne => hk b (HF.out b hb) hne) hno (fun _ h => h)).del a) (Nat.le_trans (delM_len _ _) H.out.many) (fun x hx => H.out.few x (List.mem_filter.1 hx).1), ?_⟩
  exact ⟨hg2.os.trans hb0.os, hg2.tape.trans hb0.tape, hg2.output.trans hb0.output, by have := hg2.size; have : w0.heap.size ≤ w2.heap.size := this; omega, fun k hk1 hk2 => hk k hk1 (fun e => hk2 (by rw [e]))⟩
end Go.Proofs.Ytagfgkcipomopaa
namespace Go.Proofs.Ytagfgkcipomopaa
open Go.RowKit Go.Sort

/-! ### on, over Links; Users -/
def onM (M : Mp) (a b : Ad) : Bool := onV ((lkM a M).getD []) b
theorem on_lk (pb bm : Nat) (F : Nat → Prop) (M : Mp) (a b : Ad) (w : World) (h : Lk w pb bm F M) :
    Calls Try.prog 40 #[.pointer (some ⟨pb, 0, none⟩), .agg #[.int .i64 a.1, .int .i64 a.2], .agg #[.int .i64 b.1, .int .i64 b.2]] w fun e w' => e = .returned (.bool (onM M a b)) ∧ Gr w w' := by
  obtain ⟨E, hm, he⟩ := h.map
  exact on_any pb bm E a b _ w h.cell hm (he.look a).1
/-- What a later world keeps of Links. -/
theorem Lk.xt {w w' : World} {pb bm : Nat} {F : Nat → Prop} {M : Mp} (h : Lk w pb bm F M) (hF : ∀ b, F b → b < w.heap.size) (hx : Xt w w') : Lk w' pb bm F M :=
  h.keep (fun b hb => Below.block hx b (hF b hb)) (fun _ h => h)
theorem take_filter {α : Type} {l : List α} {f : α → Bool} {k : Nat} {x : α} (hx : l[k]? = some x) : (l.take (k + 1)).filter f = (l.take k).filter f ++ (if f x then [x] else []) := by
  rw [List.take_add_one, hx, List.filter_append]
  cases h : f x <;> simp [h]
set_option maxRecDepth 20000 in
set_option maxHeartbeats 1000000 in
theorem users_any (pb bm : Nat) (F : Nat → Prop) (M : Mp) (t : Ad) (w : World) (h : Lk w pb bm F M) (hF : ∀ b, F b → b < w.heap.size) :
    Calls Try.prog 14 #[.pointer (some ⟨pb, 0, none⟩), .agg #[.int .i64 t.1, .int .i64 t.2]] w (RetL w ((M.map (·.1)).filter fun a => onM M a t)) := by
  obtain ⟨i0, hi, hz0, hz1, hz2⟩ := info_parts info34
  have hmany : (M.map (·.1)).length ≤ 4096 := by simpa using h.many
  have H := Lib.hid h
  have HF := Lib.hid hF
  obtain ⟨w0, hw0, hb0, hs0, c0, c1⟩ := box1 w t.1 t.2 34
  have H0 : Hid (Lk w0 pb bm F M) := h.xt hF hb0
  generalize hall : M.map (·.1) = all at hmany ⊢
  have HA := Lib.hid hall
  clear hall h hF
  go_enter Try.func14, Try.ntmps14
  go_wp2_with fail
  refine (set_any pb bm F M w0 H0.out).mono ?_
  rintro e w1 ⟨v1, rfl, hown1, hx1⟩
  rw [HA.out] at hown1
  obtain ⟨sa, cap, rfl, q1, q2, hcc⟩ := hown1.sl adC_len
  have HC := Lib.hid hcc
  have hs1 := hx1.sz
  have HX1 := Lib.hid hx1
  have H1 : Hid (Lk w1 pb bm F M) := H0.out.xt (fun b hb => by have := HF.out b hb; omega) hx1
  rw [← (hx1.cells).1 _ _ (by omega)] at c0 c1
  clear hw0 hcc hx1 hown1
  go_wp2_with fail
  go_loopw [5, 13] (fun v i wr => ∃ k : Nat, k ≤ all.length ∧ i = .int .i64 k ∧ OwnL wr w1.heap.size 34 2 adC v ((all.take k).filter fun a => onM M a t) ∧ Below w1.heap.size w1 wr) (fun _ i _ => all.length - (intOf i).toNat)
  case atStart => exact ⟨0, Nat.zero_le _, rfl, World.ownsRow_nil _ _ _ _, Below.refl _ _⟩
  case round =>
    obtain ⟨k, hk, rfl, hown, hbel⟩ := hrel
    by_cases hlt : k < all.length
    · obtain ⟨g, off, rfl, hcell⟩ := HC.out (by intro h; simp [h] at hlt)
      obtain ⟨x, hx⟩ : ∃ x, all[k]? = some x := ⟨all[k], by simp [hlt]⟩
      obtain ⟨d0, d1⟩ := ad_cells (hcell k x hx)
      have hg' : g < w1.heap.size := World.block_lt_of_cell? w1 _ d0
      have e : ∀ b o, b < w1.heap.size → wr.cell? ⟨b, o, none⟩ = w1.cell? ⟨b, o, none⟩ := fun b o hb => hbel.cell (p := ⟨b, o, none⟩) hb
      rw [← e _ _ (by omega)] at d0 d1 c0 c1
      have z1 : w.heap.size < wr.heap.size := by have := hbel.size; omega
      have z2 : g < wr.heap.size := by have := hbel.size; omega
      have Hr : Hid (Lk wr pb bm F M) := H1.out.xt (fun b hb => by have := HF.out b hb; omega) hbel
      have HX := Lib.hid hx
      have HO := Lib.hid hown
      have HB := Lib.hid hbel
      have hfl : ((all.take k).filter fun a => onM M a t).length ≤ 4096 := Nat.le_trans (List.length_filter_le ..) (by rw [List.length_take]; omega)
      clear hcell e hx hown hbel
      cases hon : onM M x t
      · go_wp2_with fail
        refine (on_lk pb bm F M x t _ ?_).mono ?_
        · exact Hr.out.xt (fun b hb => by have := HF.out b hb; omega) ((Xt.refl _).alloc _)
        rintro e w2 ⟨rfl, hg2⟩
        rw [hon]
        go_wp2_with fail
        go_roundw
        case rel =>
          have hx2 : Xt wr w2 := (((Xt.refl wr).alloc _).trans hg2.xt)
          refine ⟨k + 1, by omega, by go_num, ?_, Below.trans HB.out (Below.mono hx2 HB.out.size)⟩
          rw [take_filter HX.out, hon]
          simpa using HO.out.xt hx2
        case measure => simp [intOf]; omega
      · go_wp2_with fail
        refine (on_lk pb bm F M x t _ ?_).mono ?_
        · exact Hr.out.xt (fun b hb => by have := HF.out b hb; omega) ((Xt.refl _).alloc _)
        rintro e w2 ⟨rfl, hg2⟩
        rw [hon]
        have hx2 : Xt wr w2 := (((Xt.refl wr).alloc _).trans hg2.xt)
        have hown2 : w2.ownsRow w1.heap.size 34 2 u5 ((all.take k).filter fun a => onM M a t).length (((all.take k).filter fun a => onM M a t).flatMap adC) := HO.out.xt hx2
        have b0 : w2.cell? ⟨wr.heap.size, 0, none⟩ = some (.int .i64 x.1) := ((hg2.xt.cells).1 _ _ (by simp)).trans (by simp)
        have b1 : w2.cell? ⟨wr.heap.size, 1, none⟩ = some (.int .i64 x.2) := ((hg2.xt.cells).1 _ _ (by simp)).trans (by simp)
        have z3 : wr.heap.size < w2.heap.size := by have := hg2.xt.sz; simp at this; omega
        have hB1 := HB.out.size
        have HX2 := Lib.hid hx2
        generalize hfe : ((all.take k).filter fun a => onM M a t) = fs at hfl hown2
        have HFE := Lib.hid hfe
        clear hg2 hx2 c0 c1 d0 d1 hfe
        go_wp2_with (at_builtin; refine wpList_append_own _ rfl _ _ 23 rfl w1.heap.size 34 i0 (.agg #[.int .i64 0, .int .i64 0]) 2 16 Try.underlying23 hi hz0 hz1 hz2 rfl (by decide) _ _ _ rfl (hown2.alloc _) ⟨w2.heap.size, 0, none⟩ 1 1 [.int .i64 x.1, .int .i64 x.2] rfl rfl (news_at _ [.int .i64 x.1, .int .i64 x.2] 34 (by simp)) (adC_one x) ?c4 ?c5 ?c6 ?_)
        case c4 => unfold maxLen; omega
        case c5 => omega
        case c6 => first | omega | (simp; omega)
        intro v' w3 hown3 hg3 _
        have hg4 : w2.grownBy w3 u5.ownBlock := (World.grownBy_alloc w2 _ _).trans hg3
        go_wp2_with fail
        go_roundw
        case rel =>
          refine ⟨k + 1, by omega, by go_num, ?_, ?_⟩
          · rw [take_filter HX.out, hon, HFE.out]; exact OwnL.snoc hown3
          · exact Below.grown (Below.trans HB.out (Below.mono HX2.out HB.out.size)) hg4 (by omega) (fun q hq => (World.ownsRow.lt hown2 q hq).1)
        case measure => simp [intOf]; omega
    · go_wp2_with fail
      go_ret
      have hkl : k = all.length := by omega
      rw [hkl, List.take_length] at hown
      exact ⟨u5, rfl, hown.base (by omega), Below.trans (Below.trans hb0 (Below.mono HX1.out hb0.size)) (Below.mono hbel (by omega))⟩
end Go.Proofs.Ytagfgkcipomopaa
