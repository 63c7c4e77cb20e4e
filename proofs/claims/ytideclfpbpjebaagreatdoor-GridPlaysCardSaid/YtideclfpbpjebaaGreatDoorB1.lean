import Derived.Deep.RegionHeld
import Derived.Tactics
import Derived.Deep.MidRow
import Derived.Lib.Hide
import Derived.WalkKit
import Derived.Sort.Grow
import Derived.Deep.Draws
import Derived.Test.YtideclfpbpjebaaGreatDoorProg
import Derived.WalkSpells
import Derived.WalkLawsBesides
import Derived.BigQuiet
import Derived.Deep.QuietTactic
import Derived.StillTailTactics
import Derived.Deep.RegionWith
import Derived.MapKept
import GoSem.Instr.MapEntry
import GoSem.Builtin.Delete
import Derived.Maps.RangeRun
import Derived.Maps.RangeWalk
import Derived.Laws.Externs
import Derived.Laws.StructEq
import Derived.Sort.LotA
import Derived.Deep.DeepAppendWide
import Derived.Lib.SlicesCompact
import Derived.Lib.SliceRun
import Derived.Laws.IdiomCopy
import Derived.Laws.FloatArith
import Derived.Shelf.Unicode.ValidAny
import Derived.Sort.Statements
namespace Go.Proofs.YtideclfpbpjebaaGreatDoor
section
/-- What the frame's slots are read and written by, as one rule. -/
theorem nm {α : Type} : (∀ (l : List α) (i : Nat) (h : i < l.toArray.size), l.toArray[i]'h = l[i]'(by simpa using h)) ∧ (∀ (a : α) (l : List α) (h : 0 < (a :: l).length), (a :: l)[0]'h = a) ∧ (∀ (a : α) (l : List α) (i : Nat) (h : i + 1 < (a :: l).length), (a :: l)[i + 1]'h = l[i]'(by simpa using h)) ∧
    (∀ (l : List α) (i : Nat) (a : α), l.toArray.setIfInBounds i a = (l.set i a).toArray) ∧ (∀ (a b : α) (l : List α), (a :: l).set 0 b = b :: l) ∧ (∀ (a b : α) (l : List α) (i : Nat), (a :: l).set (i + 1) b = a :: l.set i b) :=
  ⟨fun _ _ _ => rfl, fun _ _ _ => rfl, fun _ _ _ _ => rfl, fun _ _ _ => List.setIfInBounds_toArray .., fun _ _ _ => rfl, fun _ _ _ _ => rfl⟩
section
variable {P : Program} {ops : Array Oper} {Q : Exit → Act → World → Prop} {md : Region.Mode} {S : World → Prop}
theorem tkH (i : Nat) {oi : Oper} (v : Value) {fuel : Nat} {listed : Array Bool} {a : Act} {w : World} (hy : ∀ w, S w → (execOp a.eval oi).run P w = .ok (.value v) w)
    (h : wpAnyH P md ops Q S fuel (listed.setIfInBounds i true) (a.put oi.dst v) w)
    (hi : ops[i]? = some oi := by rfl) (hs : Region.noSelect ops = true := by kernel_rfl) (hf : Region.free md ops listed i = true := by kernel_rfl) (hr : (Region.ready md ops listed).contains i = true := by kernel_rfl)
    (hQ : ∀ c a w, Q (.panic c) (a.put oi.dst v) w → Q (.panic c) a w := by exact fun _ _ _ h => h) (hw : Region.wanted oi (yielded ops a.tmps) = true := by rfl) (hS : S w := by assumption) : wpAnyH P md ops Q S (fuel + 1) listed a w :=
  wpAnyH_take hi hs hf hr hQ (Or.inl ⟨hw, hy⟩) hS h
theorem rdH (i : Nat) {o : Oper} {fuel : Nat} {listed : Array Bool} {a : Act} {w : World}
    (h : ∀ K' : Act → World → Prop, Shut (∀ a w, S w → (S w → wpAnyH P md ops Q S fuel (listed.setIfInBounds i true) a w) → K' a w) → if Region.wanted o (yielded ops a.tmps) = true then Oper.wp P o a w K' Q else K' (a.put o.dst undef) w)
    (ho : ops[i]? = some o := by rfl) (hr : Region.ready md ops listed = [i] := by decide +kernel) : wpAnyH P md ops Q S (fuel + 1) listed a w :=
  wpAnyH_ready hr (by simp) (AllReadyH.cons ho h AllReadyH.nil)
/-- A take whose value the walk finds: the facts F of each world that meets S; the frame behind it is written out anew. -/
theorem tk {F : World → Prop} (hF : ∀ w, S w → F w) (i : Nat) {oi : Oper} {v : Value} {fuel : Nat} {listed : Array Bool} {a a' : Act} {w : World}
    (h : wpAnyH P md ops Q S fuel (listed.setIfInBounds i true) a' w)
    (hi : ops[i]? = some oi := by rfl) (hs : Region.noSelect ops = true := by kernel_rfl) (hf : Region.free md ops listed i = true := by kernel_rfl) (hr : (Region.ready md ops listed).contains i = true := by kernel_rfl)
    (hQ : ∀ c a w, Q (.panic c) (a.put oi.dst v) w → Q (.panic c) a w := by exact fun _ _ _ h => h) (hw : Region.wanted oi (yielded ops a.tmps) = true := by rfl)
    (hy : ∀ w, F w → (execOp a.eval oi).run P w = .ok (.value v) w := by (intro V hSw; (try dsimp only at hSw); go_split_ands; go_simp; first | done | with_reducible rfl))
    (ha : a.put oi.dst v = a' := by (simp only [Act.put, nm]; try rfl)) (hS : S w := by assumption) : wpAnyH P md ops Q S (fuel + 1) listed a w := by
  subst ha
  exact wpAnyH_take hi hs hf hr hQ (Or.inl ⟨hw, fun w hw => hy w (hF w hw)⟩) hS h
theorem ko {fuel : Nat} {listed : Array Bool} {K : Act → World → Prop} {a a' : Act} {w : World} (hK : Shut (∀ a w, S w → (S w → wpAnyH P md ops Q S fuel listed a w) → K a w)) (hS : S w)
    (h : S w → wpAnyH P md ops Q S fuel listed a' w) (ha : a = a' := by first | (simp only [Act.put, nm]; done) | (simp only [Act.put, nm]; rfl) | rfl) : K a w := by
  subst ha
  exact hK.out _ _ hS h
theorem rd2 (i j : Nat) {o q : Oper} {fuel : Nat} {listed : Array Bool} {a : Act} {w : World}
    (h : ∀ K' : Act → World → Prop, Shut (∀ a w, S w → (S w → wpAnyH P md ops Q S fuel (listed.setIfInBounds i true) a w) → K' a w) → if Region.wanted o (yielded ops a.tmps) = true then Oper.wp P o a w K' Q else K' (a.put o.dst undef) w)
    (h' : ∀ K' : Act → World → Prop, Shut (∀ a w, S w → (S w → wpAnyH P md ops Q S fuel (listed.setIfInBounds j true) a w) → K' a w) → if Region.wanted q (yielded ops a.tmps) = true then Oper.wp P q a w K' Q else K' (a.put q.dst undef) w)
    (ho : ops[i]? = some o := by rfl) (ho' : ops[j]? = some q := by rfl) (hr : Region.ready md ops listed = [i, j] := by decide +kernel) : wpAnyH P md ops Q S (fuel + 1) listed a w :=
  wpAnyH_ready hr (by simp) (AllReadyH.cons ho h (AllReadyH.cons ho' h' AllReadyH.nil))
theorem rg {id : Nat} {a : Act} {w : World} (S : World → Prop) (hS : S w.drew)
    (h : S w.drew → wpAnyH P .any ops Q S ops.size (Array.replicate ops.size false) a w.drew) (hm : P.follows .mixedOrders = true := by kernel_rfl) : (Code.region id ops true).wp P Q a w :=
  wp_region_held_drew hm hS h
end
/-- Rows that are written short where a row is asked (unfolded where they are read): an empty node, an empty content, the node of what is lost. -/
inductive ZRow where | n | c | l
def zN : ZRow := .n
def zC : ZRow := .c
def zL : ZRow := .l
instance : CoeDep ZRow zN (Array Value) := ⟨#[.int .i64 0, .int .i64 0, .float .f64 0, .string ⟨#[]⟩, .bool false, .int .i64 0, .int .i64 0, .int .i64 0, .bool false, .bool false, .int .i64 0, .int .i64 0, .bool false, .bool false, .slice none 0 0]⟩
instance : CoeDep ZRow zC (Array Value) := ⟨#[.int .i64 0, .int .i64 0, .float .f64 0, .string ⟨#[]⟩, .bool false, .int .i64 0, .int .i64 0, .int .i64 0, .float .f64 0, .string ⟨#[]⟩, .bool false, .int .i64 0, .int .i64 0, .int .i64 0, .bool false, .bool false, .int .i64 0, .int .i64 0, .bool false, .bool false, .slice none 0 0]⟩
instance : CoeDep ZRow zL (Array Value) := ⟨#[.int .i64 4, .int .i64 0, .float .f64 0, .string ⟨#[]⟩, .bool false, .int .i64 4, .int .i64 0, .int .i64 0, .bool false, .bool false, .int .i64 0, .int .i64 0, .bool false, .bool false, .slice none 0 0]⟩
/-- Facts of a row and of a cell, written short where a proposition is asked. -/
structure RowI where
  w : World
  b : Nat
  r : Array Value
  t : TypeId
abbrev r_ := RowI.mk
instance (w : World) (b : Nat) (r : Array Value) (t : TypeId) : CoeDep RowI (r_ w b r t) Prop := ⟨w.heap[b]? = some (.cells r t (0, 0))⟩
structure CellI where
  w : World
  b : Nat
  o : Nat
  v : Value
abbrev c_ := CellI.mk
instance (w : World) (b o : Nat) (v : Value) : CoeDep CellI (c_ w b o v) Prop := ⟨w.cell? ⟨b, o, none⟩ = some v⟩
structure PtrV where
  b : Nat
abbrev v_ := PtrV.mk
instance (b : Nat) : CoeDep PtrV (v_ b) Value := ⟨.pointer (some ⟨b, 0, none⟩)⟩
/-- Values where a value is asked. -/
instance : Coe Int Value := ⟨fun x => .int .i64 x⟩
instance : Coe Bool Value := ⟨fun x => .bool x⟩
instance : Coe ByteArray Value := ⟨fun x => .string x⟩
end
section
open Go.RowKit Go.Sort

/-! ### worlds that only grow -/
/-- Draws and new blocks alone. -/
def Gr (w w' : World) : Prop := ∃ q os, w' = grow (w.drewN q) os
theorem Gr.refl (w : World) : Gr w w := ⟨0, #[], by rw [grow_empty]; rfl⟩
theorem Gr.trans {a b c : World} (h : Gr a b) (k : Gr b c) : Gr a c := by
  obtain ⟨q, os, rfl⟩ := h
  obtain ⟨q', os', rfl⟩ := k
  exact ⟨q + q', os ++ os', by show grow (grow ((a.drewN q).drewN q') os) os' = _; rw [grow_grow, World.drewN_drewN]⟩
theorem Gr.alloc {a b : World} (h : Gr a b) (o : Obj) : Gr a (b.alloc o) := h.trans ⟨0, #[o], by rw [alloc_eq_grow]; rfl⟩
theorem Gr.drew {a b : World} (h : Gr a b) : Gr a b.drew := h.trans ⟨1, #[], by rw [grow_empty]; rfl⟩
theorem Gr.drewN {a b : World} (h : Gr a b) (n : Nat) : Gr a (b.drewN n) := h.trans ⟨n, #[], by rw [grow_empty]⟩
theorem Gr.below {a b : World} (h : Gr a b) : Below a.heap.size a b := by
  obtain ⟨q, os, rfl⟩ := h
  exact ⟨rfl, rfl, rfl, by simp [World.drewN], fun k hk => heap_grow_old _ _ hk⟩
/-- Nothing that was there has turned. -/
def Xt (w w' : World) : Prop := Below w.heap.size w w'
theorem Xt.refl (w : World) : Xt w w := Below.refl _ _
theorem Xt.trans {a b c : World} (h : Xt a b) (k : Xt b c) : Xt a c := Below.trans h (Below.mono k h.size)
theorem Gr.xt {a b : World} (h : Gr a b) : Xt a b := h.below
theorem Xt.alloc {a b : World} (h : Xt a b) (o : Obj) : Xt a (b.alloc o) := Below.alloc h h.size o
theorem Xt.drew {a b : World} (h : Xt a b) : Xt a b.drew := Below.drew h
theorem Xt.cells {a b : World} (h : Xt a b) : (∀ k o, k < a.heap.size → b.cell? ⟨k, o, none⟩ = a.cell? ⟨k, o, none⟩) ∧ (∀ k o, k < a.heap.size → b.frozen? ⟨k, o, none⟩ = a.frozen? ⟨k, o, none⟩) :=
  ⟨fun k _ hk => Below.cell h (p := ⟨k, _, none⟩) hk, fun k _ hk => Below.frozen h (p := ⟨k, _, none⟩) hk⟩
theorem Xt.sz {a b : World} (h : Xt a b) : a.heap.size ≤ b.heap.size := Below.size h

theorem new2a (w : World) (a b : Value) (T : TypeId) {k : Nat} (hk : k = w.heap.size) : (w.alloc (.cells #[a, b] T)).drew.cell? ⟨k, 0, none⟩ = some a := by
  subst hk; simp
theorem new2b (w : World) (a b : Value) (T : TypeId) {k : Nat} (hk : k = w.heap.size) : (w.alloc (.cells #[a, b] T)).drew.cell? ⟨k, 1, none⟩ = some b := by
  subst hk; simp
/-! ### addr -/
def cmpI (a b : Int) : Int := if a < b then -1 else if b < a then 1 else 0

set_option maxHeartbeats 400000 in
theorem compare_any (a b : Int) (w : World) :
    Calls Tryz.prog 82 #[.int .i64 a, .int .i64 b] w fun e w' => e = .returned (.int .i64 (cmpI a b)) ∧ w = w' := by
  by_cases h1 : a < b
  · have hc : cmpI a b = -1 := by simp [cmpI, h1]
    rw [hc]
    go_enter Tryz.func82, Tryz.ntmps82
    go_wp2
    go_ret
    exact ⟨rfl, rfl⟩
  · by_cases h2 : b < a
    · have hc : cmpI a b = 1 := by simp [cmpI, h1, h2]
      rw [hc]
      go_enter Tryz.func82, Tryz.ntmps82
      go_wp2
      go_ret
      exact ⟨rfl, rfl⟩
    · have hc : cmpI a b = 0 := by simp [cmpI, h1, h2]
      rw [hc]
      go_enter Tryz.func82, Tryz.ntmps82
      go_wp2
      go_ret
      exact ⟨rfl, rfl⟩

def validB (c r : Int) : Bool := decide (1 ≤ c) && decide (c ≤ 256) && decide (1 ≤ r) && decide (r ≤ 4096)

set_option maxHeartbeats 400000 in
theorem valid_any (c r : Int) (w : World) :
    Calls Tryz.prog 37 #[.agg #[.int .i64 c, .int .i64 r]] w fun e w' => e = .returned (.bool (validB c r)) ∧ w' = w.alloc (.cells #[.int .i64 c, .int .i64 r] 36) := by
  unfold validB
  go_enter Tryz.func37, Tryz.ntmps37
  go_wp2
  all_goals (go_ret; refine ⟨?_, rfl⟩; congr 2; simp [*])
  all_goals omega

def validA (a b c d : Int) : Bool := validB a b && validB c d && decide (a ≤ c) && decide (b ≤ d)

set_option maxHeartbeats 400000 in
theorem validArea_any (a b c d : Int) (w : World) :
    Calls Tryz.prog 74 #[.agg #[.int .i64 a, .int .i64 b, .int .i64 c, .int .i64 d]] w fun e w' => e = .returned (.bool (validA a b c d)) ∧ Gr w w' := by
  unfold validA
  cases h1 : validB a b <;> cases h2 : validB c d
  all_goals
    go_enter Tryz.func74, Tryz.ntmps74
    go_wp2_with (go_at_call 37; refine (valid_any _ _ _).mono ?_; rintro e w' ⟨rfl, rfl⟩)
    all_goals (go_ret; refine ⟨by congr 2; try (simp [*]; try omega), by repeat (first | exact Gr.refl _ | refine Gr.alloc ?_ _)⟩)

def inB (a b c d x y : Int) : Bool := validA a b c d && decide (a ≤ x) && decide (x ≤ c) && decide (b ≤ y) && decide (y ≤ d)
theorem or2_0 (b : Int) (k : Nat) (w : World) (h0 : w.cell? ⟨k, 0, none⟩ = some (.int .i64 0)) (h1 : w.cell? ⟨k, 1, none⟩ = some (.int .i64 b)) :
    Calls Tryz.prog 81 #[.slice (some ⟨k, 0, none⟩) 2 2] w fun e w' => e = .returned (.int .i64 b) ∧ w = w' := by
  by_cases hb : b = 0
  · subst hb
    go_enter Tryz.func81, Tryz.ntmps81
    go_wp2
    refine wp_loop_rounds 3 ?_
    rw [rounds_succ]
    go_wp2
    rw [rounds_succ]
    go_wp2
    rw [rounds_succ]
    go_wp2
    go_ret
    exact ⟨rfl, rfl⟩
  · have hb' : (b == 0) = false := by simpa using hb
    have hb2 : (b != 0) = true := by simpa using hb
    go_enter Tryz.func81, Tryz.ntmps81
    go_wp2
    refine wp_loop_rounds 3 ?_
    rw [rounds_succ]
    go_wp2
    rw [rounds_succ]
    go_wp2
    go_ret
    exact ⟨rfl, rfl⟩
theorem or2_1 (a b : Int) (k : Nat) (w : World) (h0 : w.cell? ⟨k, 0, none⟩ = some (.int .i64 a)) (_ : w.cell? ⟨k, 1, none⟩ = some (.int .i64 b)) (ha : a ≠ 0) :
    Calls Tryz.prog 81 #[.slice (some ⟨k, 0, none⟩) 2 2] w fun e w' => e = .returned (.int .i64 a) ∧ w = w' := by
  have hb2 : (a != 0) = true := by simpa using ha
  go_enter Tryz.func81, Tryz.ntmps81
  go_wp2
  refine wp_loop_rounds 1 ?_
  rw [rounds_succ]
  go_wp2
  go_ret
  exact ⟨rfl, rfl⟩
def orI (a b : Int) : Int := if a = 0 then b else a
theorem or2_any (a b : Int) (k : Nat) (w : World) (h0 : w.cell? ⟨k, 0, none⟩ = some (.int .i64 a)) (h1 : w.cell? ⟨k, 1, none⟩ = some (.int .i64 b)) :
    Calls Tryz.prog 81 #[.slice (some ⟨k, 0, none⟩) 2 2] w fun e w' => e = .returned (.int .i64 (orI a b)) ∧ w = w' := by
  by_cases ha : a = 0
  · subst ha; exact or2_0 b k w h0 h1
  · rw [show orI a b = a from if_neg ha]; exact or2_1 a b k w h0 h1 ha

set_option maxHeartbeats 400000 in
set_option maxRecDepth 100000 in
theorem order_any (a b x y : Int) (w : World) :
    Calls Tryz.prog 55 #[.agg #[.int .i64 a, .int .i64 b], .agg #[.int .i64 x, .int .i64 y]] w fun e w' => e = .returned (.int .i64 (orI (cmpI b y) (cmpI a x))) ∧ Gr w w' := by
  go_enter Tryz.func55, Tryz.ntmps55
  go_wp2_with fail
  refine wp_region_still_tail 10 (by kernel_rfl) (by kernel_rfl) ?_
  change wpStill _ _ (World.drew _) _ _ _
  simp only [List.take_succ_cons, List.take_zero, List.drop_succ_cons, List.drop_zero]
  refine wpStill_step (fun K hK => ?_)
  go_simp
  refine hK _ ?_
  clear hK K
  still_step
  still_step
  still_step
  still_call ((compare_any _ _ _).mono fun _ _ ⟨h, hw⟩ => ⟨h, hw.symm⟩)
  still_step
  still_step
  still_step
  still_step
  still_call ((compare_any _ _ _).mono fun _ _ ⟨h, hw⟩ => ⟨h, hw.symm⟩)
  refine wpStill_nil ?_
  change wpList _ _ _ _ _ (World.drew _)
  go_wp2_with (go_at_call 81; refine (or2_any (cmpI b y) (cmpI a x) (w.heap.size + 1 + 1) _ (new2a _ _ _ _ (by simp)) (new2b _ _ _ _ (by simp))).mono ?_; rintro e w' ⟨rfl, rfl⟩)
  go_ret
  exact ⟨rfl, (((Gr.refl _).alloc _).alloc _).drew.alloc _⟩
end
section
open Go.RowKit Go.Sort Go.MapKept

/-! ### cells of the program's plain structs -/
abbrev Ad := Int × Int
abbrev Ar := Ad × Ad
def adC (a : Ad) : List Value := [.int .i64 a.1, .int .i64 a.2]
def adV (a : Ad) : Value := .agg #[.int .i64 a.1, .int .i64 a.2]
theorem adV_inj {a b : Ad} (h : adV a = adV b) : a = b := by
  obtain ⟨a1, a2⟩ := a; obtain ⟨b1, b2⟩ := b
  simp [adV] at h; obtain ⟨rfl, rfl⟩ := h; rfl

/-! ### a slice that reads as a list -/
/-- The value v is a slice of just these elements, each of sz cells. -/
def SlOf {α : Type} (w : World) (enc : α → List Value) (sz : Nat) (v : Value) (l : List α) : Prop :=
  ∃ a cap, v = .slice a l.length cap ∧ l.length ≤ cap ∧ cap ≤ 9223372036854775807 ∧ (l ≠ [] → ∃ b off, a = some ⟨b, off, none⟩ ∧ ∀ k x, l[k]? = some x → ∀ i u, (enc x)[i]? = some u → w.cell? ⟨b, off + k * sz + i, none⟩ = some u)
theorem SlOf.nil {α : Type} (w : World) (enc : α → List Value) (sz : Nat) (a : Option Addr) (cap : Nat) (hc : cap ≤ 9223372036854775807) : SlOf w enc sz (.slice a 0 cap) ([] : List α) := ⟨a, cap, rfl, Nat.zero_le _, hc, fun h => (h rfl).elim⟩
/-- In which blocks it lies. -/
def slIn (F : Nat → Prop) (v : Value) : Prop := ∀ a n c, v = .slice (some a) n c → F a.block
theorem SlOf.keep {α : Type} {w w' : World} {enc : α → List Value} {sz : Nat} {v : Value} {l : List α} {F : Nat → Prop} (h : SlOf w enc sz v l) (hF : slIn F v) (hk : ∀ b, F b → w'.heap[b]? = w.heap[b]?) : SlOf w' enc sz v l := by
  obtain ⟨a, cap, rfl, q1, q2, h2⟩ := h
  refine ⟨a, cap, rfl, q1, q2, fun hl => ?_⟩
  obtain ⟨b, off, rfl, hc⟩ := h2 hl
  have hb : w'.heap[b]? = w.heap[b]? := hk b (hF _ _ _ rfl)
  exact ⟨b, off, rfl, fun k x hx i u hu => (World.cell?_of_block (w := w) (a := ⟨b, off + k * sz + i, none⟩) hb).trans (hc k x hx i u hu)⟩

theorem box1 (w : World) (x y : Int) (T : TypeId) : ∃ w0, w.alloc (.cells #[.int .i64 x, .int .i64 y] T) = w0 ∧ Below w.heap.size w w0 ∧
    w0.heap.size = w.heap.size + 1 ∧ w0.cell? ⟨w.heap.size, 0, none⟩ = some (.int .i64 x) ∧ w0.cell? ⟨w.heap.size, 1, none⟩ = some (.int .i64 y) := by
  refine ⟨_, rfl, (Below.refl _ _).alloc (Nat.le_refl _) _, by simp, ?_, ?_⟩ <;> simp
/-! ### maps keyed by cells -/
structure AdrKey (P : Program) (k : TypeId) : Prop where
  und : ∃ fs, P.underlying k = some (.struct fs)
  check : ∀ (w : World) (em : Bool) (a : Ad), (Instr.checkKey em 10000 k (adV a)).run P w = .ok () w
  eq : ∀ (w : World) (a b : Ad), (Op.equal k (adV a) (adV b)).run P w = .ok (decide (a = b)) w
theorem stays_ad {P : Program} (w : World) (a : Ad) : (Instr.keyThatStays (adV a) (adV a)).run P w = .ok (adV a) w := by
  simp [Instr.keyThatStays, Instr.sameBits, adV]
def lk (a : Ad) : List (Ad × Value) → Option Value
  | [] => none
  | x :: r => if x.1 = a then some x.2 else lk a r
def ix (a : Ad) : List (Ad × Value) → Nat → Option (Nat × Value)
  | [], _ => none
  | x :: r, i => if x.1 = a then some (i, x.2) else ix a r (i + 1)
theorem ix_lk (a : Ad) : ∀ (E : List (Ad × Value)) (i : Nat), (ix a E i).map (·.2) = lk a E
  | [], _ => rfl
  | x :: r, i => by unfold ix lk; split <;> simp [ix_lk a r (i + 1)]
def kv (e : MapEntry) : Value × Value := (e.key, e.val)
def kvE (x : Ad × Value) : Value × Value := (adV x.1, x.2)
theorem find_ad {P : Program} {k : TypeId} (K : AdrKey P k) (w : World) (a : Ad) : ∀ (es : List MapEntry) (E : List (Ad × Value)) (i : Nat), es.map kv = E.map kvE → (Instr.findAsking k (adV a) es i).run P w = .ok (ix a E i) w
  | [], [], i, _ => rfl
  | [], _ :: _, _, h => by simp at h
  | _ :: _, [], _, h => by simp at h
  | e :: es, x :: E, i, h => by
    simp only [List.map_cons, List.cons.injEq, kv, kvE, Prod.mk.injEq] at h
    obtain ⟨⟨h1, h2⟩, h3⟩ := h
    have hr := find_ad K w a es E (i + 1) (by simpa [kv, kvE] using h3)
    unfold Instr.findAsking ix
    rw [h1]
    simp only [Sem.run_bind, K.eq, Result.andThen_ok]
    by_cases hx : x.1 = a
    · simp [hx, h2]
    · have : ¬ a = x.1 := fun e => hx e.symm
      simp [hx, this, hr]
theorem findKey_ad {P : Program} {k : TypeId} (K : AdrKey P k) (w : World) (a : Ad) (es : List MapEntry) (E : List (Ad × Value)) (h : es.map kv = E.map kvE) : (Instr.findKey k (adV a) es).run P w = .ok (ix a E 0) w := by
  obtain ⟨fs, hu⟩ := K.und
  unfold Instr.findKey
  simp only [Sem.run_bind, run_underlying hu, Result.andThen_ok]
  cases es with
  | nil =>
    cases E with
    | nil => simp [Instr.findNow, ix]
    | cons _ _ => simp at h
  | cons e es => simp [Instr.findNow, Instr.sameNow, find_ad K w a _ E 0 h]
/-- Block b is a map of just these entries, as they lie. -/
def MapIs (w : World) (b : Nat) (E : List (Ad × Value)) : Prop :=
  ∃ es clock, w.heap[b]? = some (.map es clock) ∧ Stamped es clock ∧ es.toList.map kv = E.map kvE
theorem MapIs.nodup {w : World} {b : Nat} {E : List (Ad × Value)} (h : MapIs w b E) : (E.map (·.1)).Nodup := by
  obtain ⟨es, clock, _, hs, he⟩ := h
  have h1 : es.toList.map (·.key) = (E.map (·.1)).map adV := by
    have := congrArg (List.map (·.1)) he
    simpa [kv, kvE, Function.comp_def] using this
  have h2 := hs.2.2
  rw [h1] at h2
  unfold List.Nodup at h2 ⊢
  rw [List.pairwise_map] at h2
  exact h2.imp fun h e => h (by rw [e])
theorem MapIs.of_heap {w w' : World} {b : Nat} {E : List (Ad × Value)} (h : MapIs w b E) (hb : w'.heap[b]? = w.heap[b]?) : MapIs w' b E := by
  obtain ⟨es, clock, h1, h2⟩ := h
  exact ⟨es, clock, hb.trans h1, h2⟩
theorem MapIs.lt {w : World} {b : Nat} {E : List (Ad × Value)} (h : MapIs w b E) : b < w.heap.size := by
  obtain ⟨es, clock, h1, h2⟩ := h
  exact (Array.getElem?_eq_some_iff.1 h1).1
@[go_sem] theorem MapIs_alloc (w : World) (o : Obj) (b : Nat) (E : List (Ad × Value)) (hb : b < w.heap.size) : MapIs (w.alloc o) b E = MapIs w b E := by
  have := Below.heap_alloc w o b hb
  exact propext ⟨fun h => h.of_heap this.symm, fun h => h.of_heap this⟩
@[go_sem] theorem MapIs_drew (w : World) (b : Nat) (E : List (Ad × Value)) : MapIs w.drew b E = MapIs w b E := rfl
@[go_sem] theorem MapIs_drewN (w : World) (n b : Nat) (E : List (Ad × Value)) : MapIs (w.drewN n) b E = MapIs w b E := rfl
theorem setCell_map (w : World) (a : Addr) (v : Value) (b : Nat) (es : Array MapEntry) (c : Nat) : (w.setCell a v).heap[b]? = some (.map es c) ↔ w.heap[b]? = some (.map es c) := by
  simp only [World.setCell, Array.getElem?_modify]
  by_cases h : a.block = b
  · subst h
    simp only [if_true]
    cases hh : w.heap[a.block]? with
    | none => simp
    | some o => cases o <;> simp
  · simp [h]
@[go_sem] theorem MapIs_setCell (w : World) (a : Addr) (v : Value) (b : Nat) (E : List (Ad × Value)) : MapIs (w.setCell a v) b E = MapIs w b E := by
  refine propext ⟨fun ⟨es, c, h1, h2⟩ => ⟨es, c, (setCell_map ..).1 h1, h2⟩, fun ⟨es, c, h1, h2⟩ => ⟨es, c, (setCell_map ..).2 h1, h2⟩⟩
theorem MapIs.made (w : World) : MapIs (w.alloc (.map #[] 0)) w.heap.size [] :=
  ⟨#[], 0, by simp [← World.alloc_eq], stamped_empty 0, rfl⟩

/-- 'm[k]' -/
theorem MapIs.lookup {P : Program} {t k e : TypeId} (K : AdrKey P k) (ht : P.underlying t = some (.map k e)) {z : Value} (hz : ∀ w, (zeroValue e).run P w = .ok z w) {w : World} {b : Nat} {E : List (Ad × Value)} (h : MapIs w b E) (a : Ad) :
    (Instr.lookup t (.map (some b)) (adV a) false).run P w = .ok ((lk a E).getD z) w := by
  obtain ⟨es, clock, hb, hs, he⟩ := h
  simp only [Instr.lookup, Sem.run_bind, run_underlying ht, Result.andThen_ok, MapKept.run_getObj_map hb, K.check, findKey_ad K w a _ E he, Sem.run_pure]
  rw [← ix_lk a E 0]
  cases ix a E 0 <;> simp [hz]
/-- 'v, ok := m[k]' -/
theorem MapIs.lookup_ok {P : Program} {t k e : TypeId} (K : AdrKey P k) (ht : P.underlying t = some (.map k e)) {z : Value} (hz : ∀ w, (zeroValue e).run P w = .ok z w) {w : World} {b : Nat} {E : List (Ad × Value)} (h : MapIs w b E) (a : Ad) :
    (Instr.lookup t (.map (some b)) (adV a) true).run P w = .ok (.tuple #[(lk a E).getD z, .bool (lk a E).isSome]) w := by
  obtain ⟨es, clock, hb, hs, he⟩ := h
  simp only [Instr.lookup, Sem.run_bind, run_underlying ht, Result.andThen_ok, MapKept.run_getObj_map hb, K.check, findKey_ad K w a _ E he, Sem.run_pure]
  rw [← ix_lk a E 0]
  cases ix a E 0 <;> simp [hz]

/-! ### the same entries, one changed -/
def upE (a : Ad) (v : Value) (E : List (Ad × Value)) : List (Ad × Value) :=
  if (lk a E).isSome then E.map (fun x => if x.1 = a then (a, v) else x) else E ++ [(a, v)]
def dlE (a : Ad) (E : List (Ad × Value)) : List (Ad × Value) := E.filter (fun x => !decide (x.1 = a))
theorem lk_none {a : Ad} : ∀ {E : List (Ad × Value)}, lk a E = none ↔ ∀ x ∈ E, x.1 ≠ a
  | [] => by simp [lk]
  | x :: r => by
    unfold lk
    by_cases hx : x.1 = a
    · simp [hx]
    · simp only [hx, if_false, List.mem_cons, forall_eq_or_imp]
      rw [lk_none (E := r)]
      exact ⟨fun h => ⟨hx, h⟩, fun h => h.2⟩
theorem ix_some {a : Ad} : ∀ {E : List (Ad × Value)} {i j : Nat} {v : Value}, ix a E i = some (j, v) → i ≤ j ∧ E[j - i]? = some (a, v)
  | [], _, _, _, h => by simp [ix] at h
  | x :: r, i, j, v, h => by
    unfold ix at h
    by_cases hx : x.1 = a
    · simp only [hx, if_true, Option.some.injEq, Prod.mk.injEq] at h
      obtain ⟨rfl, rfl⟩ := h
      simp [← hx]
    · simp only [hx, if_false] at h
      obtain ⟨h1, h2⟩ := ix_some h
      refine ⟨by omega, ?_⟩
      obtain ⟨d, rfl⟩ : ∃ d, j = i + 1 + d := ⟨j - (i + 1), by omega⟩
      rw [show i + 1 + d - i = d + 1 by omega]
      rw [show i + 1 + d - (i + 1) = d by omega] at h2
      simpa using h2
theorem map_at_nodup {E : List (Ad × Value)} {a : Ad} {v v' : Value} {j : Nat} (hn : (E.map (·.1)).Nodup) (hj : E[j]? = some (a, v')) :
    E.map (fun x => if x.1 = a then (a, v) else x) = E.set j (a, v) := by
  induction E generalizing j with
  | nil => simp at hj
  | cons x r ih =>
    simp only [List.map_cons, List.nodup_cons] at hn
    cases j with
    | zero =>
      simp only [List.getElem?_cons_zero, Option.some.injEq] at hj
      subst hj
      simp only [List.map_cons, if_true, List.set_cons_zero, List.cons.injEq, true_and]
      conv => rhs; rw [← List.map_id r]
      refine List.map_congr_left fun y hy => ?_
      rw [if_neg (fun e => hn.1 (List.mem_map.2 ⟨y, hy, e⟩))]; rfl
    | succ j =>
      simp only [List.getElem?_cons_succ] at hj
      have hx : ¬ x.1 = a := fun e => hn.1 (List.mem_map.2 ⟨_, List.mem_of_getElem? hj, e.symm⟩)
      simp only [List.map_cons, hx, if_false, List.set_cons_succ, ih hn.2 hj]
theorem filter_at_nodup {E : List (Ad × Value)} {a : Ad} {v' : Value} {j : Nat} (hn : (E.map (·.1)).Nodup) (hj : E[j]? = some (a, v')) :
    dlE a E = E.eraseIdx j := by
  induction E generalizing j with
  | nil => simp at hj
  | cons x r ih =>
    simp only [List.map_cons, List.nodup_cons] at hn
    cases j with
    | zero =>
      simp only [List.getElem?_cons_zero, Option.some.injEq] at hj
      subst hj
      simp only [dlE, List.filter_cons, decide_true, Bool.not_true, Bool.false_eq_true, if_false, List.eraseIdx_cons_zero]
      refine List.filter_eq_self.2 fun y hy => ?_
      have : ¬ y.1 = a := fun e => hn.1 (List.mem_map.2 ⟨y, hy, e⟩)
      simp [this]
    | succ j =>
      simp only [List.getElem?_cons_succ] at hj
      have hx : ¬ x.1 = a := fun e => hn.1 (List.mem_map.2 ⟨_, List.mem_of_getElem? hj, e.symm⟩)
      have := ih hn.2 hj
      simp only [dlE, List.filter_cons, hx, decide_false, Bool.not_false, if_true, List.eraseIdx_cons_succ]
      rw [← this]; rfl
theorem kv_set {es : Array MapEntry} {E : List (Ad × Value)} (he : es.toList.map kv = E.map kvE) (j : Nat) (a : Ad) (v : Value) :
    (es.modify j fun e => { e with key := adV a, val := v }).toList.map kv = (E.set j (a, v)).map kvE := by
  apply List.ext_getElem?
  intro i
  have hi := congrArg (fun l => l[i]?) he
  simp only [List.getElem?_map, Array.getElem?_toList, Array.getElem?_modify, List.getElem?_set] at hi ⊢
  by_cases hij : j = i
  · subst hij
    have hlen : es.size = E.length := by have := congrArg List.length he; simpa using this
    cases hj : es[j]? with
    | none =>
      have : ¬ j < E.length := by rw [← hlen]; exact fun h => by simp [h] at hj
      simp [this]
    | some e =>
      have : j < E.length := by rw [← hlen]; exact (Array.getElem?_eq_some_iff.1 hj).1
      simp [this, kv, kvE]
  · simp [hij, hi]
theorem map_erase {α β : Type} (f : α → β) : ∀ (l : List α) (j : Nat), (l.eraseIdx j).map f = (l.map f).eraseIdx j
  | [], _ => rfl
  | _ :: _, 0 => rfl
  | _ :: r, j + 1 => by simp [map_erase f r j]
theorem setObj_heap {w : World} {b : Nat} {es : Array MapEntry} {clock : Nat} (hb : w.heap[b]? = some (.map es clock)) (o : Obj) :
    ({ w with heap := w.heap.setIfInBounds b o } : World).heap[b]? = some o ∧ w.grownBy { w with heap := w.heap.setIfInBounds b o } (some b) :=
  ⟨(heap_set hb).1, ⟨rfl, rfl, rfl, by simp, fun k _ hk => (heap_set hb).2 k (fun e => hk (by rw [e]))⟩⟩
/-- 'm[k] = v' -/
theorem MapIs.update {P : Program} {t k e : TypeId} (K : AdrKey P k) (ht : P.underlying t = some (.map k e)) {w : World} {b : Nat} {E : List (Ad × Value)} (h : MapIs w b E) (a : Ad) (v : Value) :
    ∃ w', (Instr.mapUpdate t (.map (some b)) (adV a) v).run P w = .ok () w' ∧ MapIs w' b (upE a v E) ∧ w.grownBy w' (some b) ∧ w'.drawn = w.drawn ∧ w'.heap.size = w.heap.size := by
  have hnd := h.nodup
  obtain ⟨es, clock, hb, hs, he⟩ := h
  simp only [Instr.mapUpdate, Sem.run_bind, run_underlying ht, Result.andThen_ok, MapKept.run_getObj_map hb, K.check, findKey_ad K w a _ E he]
  have hl := ix_lk a E 0
  cases hx : ix a E 0 with
  | none =>
    rw [hx] at hl
    have hno := lk_none.1 hl.symm
    refine ⟨_, by rw [MapKept.run_setObj_map _ hb], ?_, (setObj_heap hb _).2, rfl, by simp⟩
    refine ⟨_, _, (setObj_heap hb _).1, stamped_push hs ?_, ?_⟩
    · intro x hx'
      have h1 : kv x ∈ E.map kvE := he ▸ List.mem_map.2 ⟨x, hx', rfl⟩
      obtain ⟨y, hy, hyx⟩ := List.mem_map.1 h1
      simp only [kv, kvE, Prod.mk.injEq] at hyx
      exact fun e => hno y hy (adV_inj (hyx.1.trans e))
    · simp [upE, ← hl, he, kv, kvE]
  | some p =>
    obtain ⟨j, v0⟩ := p
    rw [hx] at hl
    have hj := (ix_some hx).2
    rw [Nat.sub_zero] at hj
    have hes : ∃ e0, es[j]? = some e0 ∧ e0.key = adV a := by
      have h1 := congrArg (fun l => l[j]?) he
      simp only [List.getElem?_map, Array.getElem?_toList, hj, Option.map_some, Option.map_eq_some_iff] at h1
      obtain ⟨e0, h2, h3⟩ := h1
      exact ⟨e0, h2, by simp only [kv, kvE, Prod.mk.injEq] at h3; exact h3.1⟩
    obtain ⟨e0, h2, h3⟩ := hes
    simp only [Sem.run_bind, h2, Option.map_some, Option.getD_some, h3, stays_ad, Result.andThen_ok]
    refine ⟨_, by rw [MapKept.run_setObj_map _ hb], ?_, (setObj_heap hb _).2, rfl, by simp⟩
    refine ⟨_, _, (setObj_heap hb _).1, stamped_modify hs _ _ (fun _ _ => rfl) (fun e' _ he' => by rw [h2] at he'; cases he'; exact h3.symm), ?_⟩
    rw [kv_set he j a v, upE, ← hl]
    simp [map_at_nodup hnd hj]
/-- 'delete(m, k)' -/
theorem MapIs.delete {P : Program} {t k e ty : TypeId} (K : AdrKey P k) (ht : P.underlying t = some (.map k e)) {w : World} {b : Nat} {E : List (Ad × Value)} (h : MapIs w b E) (a : Ad) (tk : TypeId) :
    ∃ w', (Builtin.delete_ #[t, tk] ty #[.map (some b), adV a]).run P w = .ok (.tuple #[]) w' ∧ MapIs w' b (dlE a E) ∧ w.grownBy w' (some b) ∧ w'.drawn = w.drawn ∧ w'.heap.size = w.heap.size := by
  have hnd := h.nodup
  obtain ⟨es, clock, hb, hs, he⟩ := h
  simp only [Builtin.delete_]
  simp only [List.getElem?_toArray, List.getElem?_cons_zero, List.getElem?_cons_succ, Sem.run_bind, run_underlying ht, Result.andThen_ok, MapKept.run_getObj_map hb, K.check, findKey_ad K w a _ E he]
  have hl := ix_lk a E 0
  cases hx : ix a E 0 with
  | none =>
    rw [hx] at hl
    have hno := lk_none.1 hl.symm
    refine ⟨_, by simp only [Sem.run_bind, MapKept.run_setObj_map _ hb, Result.andThen_ok, Sem.run_pure]; rfl, ?_, (setObj_heap hb _).2, rfl, by simp⟩
    refine ⟨_, _, (setObj_heap hb _).1, hs, ?_⟩
    rw [he]
    congr 1
    exact (List.filter_eq_self.2 fun y hy => by simp [hno y hy]).symm
  | some p =>
    obtain ⟨j, v0⟩ := p
    have hj := (ix_some hx).2
    rw [Nat.sub_zero] at hj
    refine ⟨_, by simp only [Sem.run_bind, MapKept.run_setObj_map _ hb, Result.andThen_ok, Sem.run_pure]; rfl, ?_, (setObj_heap hb _).2, rfl, by simp⟩
    refine ⟨_, _, (setObj_heap hb _).1, stamped_erase hs j, ?_⟩
    rw [filter_at_nodup hnd hj]
    have hlen : es.size = E.length := by have := congrArg List.length he; simpa using this
    have hjl : j < es.size := by rw [hlen]; exact (List.getElem?_eq_some_iff.1 hj).1
    simp only [Array.eraseIdxIfInBounds, hjl, dif_pos, Array.toList_eraseIdx, map_erase, he]
theorem MapIs.len {P : Program} {t k e ty : TypeId} (ht : P.underlying t = some (.map k e)) {w : World} {b : Nat} {E : List (Ad × Value)} (h : MapIs w b E) :
    (Builtin.len_ #[t] ty #[.map (some b)]).run P w = .ok (.int .i64 E.length) w := by
  obtain ⟨es, clock, hb, hs, he⟩ := h
  have hlen : es.size = E.length := by have := congrArg List.length he; simpa using this
  simp only [Builtin.len_]
  simp only [List.getElem?_toArray, List.getElem?_cons_zero, Sem.run_bind, run_underlying ht, Result.andThen_ok, MapKept.run_getObj_map hb, Sem.run_pure]
  simp [goInt, hlen]
end
section
open Go.RowKit Go.Sort Go.MapKept
open Go.ChangeMaps (setBlock)

/-! ### ranging over a map -/
/-- Block r is an iterator over the map in block b; these entries are to come; this one came last. -/
def IterIs (w : World) (r b : Nat) (E left : List (Ad × Value)) (cur : Option (Ad × Value)) : Prop :=
  ∃ es clock seen, w.heap[b]? = some (.map es clock) ∧ Stamped es clock ∧ es.toList.map kv = E.map kvE ∧ w.heap[r]? = some (.mapIter (some b) clock seen clock) ∧
    (leftOf es seen).toList.map kv = left.map kvE ∧ ∀ x, cur = some x → ∃ (seen' : Array Nat) (e : MapEntry), seen = seen'.push e.born ∧ e ∈ es.toList ∧ kv e = kvE x
theorem IterIs.map {w : World} {r b : Nat} {E left : List (Ad × Value)} {cur : Option (Ad × Value)} (h : IterIs w r b E left cur) : MapIs w b E := by
  obtain ⟨es, clock, seen, h1, h2, h3, _⟩ := h
  exact ⟨es, clock, h1, h2, h3⟩
theorem IterIs.ne {w : World} {r b : Nat} {E left : List (Ad × Value)} {cur : Option (Ad × Value)} (h : IterIs w r b E left cur) : r ≠ b := by
  obtain ⟨es, clock, seen, h1, _, _, h4, _⟩ := h
  intro e; subst e; rw [h1] at h4; cases h4
theorem IterIs.lt {w : World} {r b : Nat} {E left : List (Ad × Value)} {cur : Option (Ad × Value)} (h : IterIs w r b E left cur) : r < w.heap.size := by
  obtain ⟨es, clock, seen, h1, _, _, h4, _⟩ := h
  exact (Array.getElem?_eq_some_iff.1 h4).1
theorem IterIs.of_heap {w w' : World} {r b : Nat} {E left : List (Ad × Value)} {cur : Option (Ad × Value)} (h : IterIs w r b E left cur) (hb : w'.heap[b]? = w.heap[b]?) (hr : w'.heap[r]? = w.heap[r]?) : IterIs w' r b E left cur := by
  obtain ⟨es, clock, seen, h1, h2, h3, h4, h5⟩ := h
  exact ⟨es, clock, seen, hb.trans h1, h2, h3, hr.trans h4, h5⟩
theorem MapIs.range {P : Program} {t k e : TypeId} (ht : P.underlying t = some (.map k e)) {w : World} {b : Nat} {E : List (Ad × Value)} (h : MapIs w b E) :
    ∃ w', (Instr.range t (.map (some b))).run P w = .ok (.pointer (some ⟨w.heap.size, 0, none⟩)) w' ∧ IterIs w' w.heap.size b E E none ∧ Gr w w' ∧ w'.heap.size = w.heap.size + 1 := by
  have hlt := h.lt
  obtain ⟨es, clock, hb, hs, he⟩ := h
  refine ⟨_, run_range_map w t k e b es clock ht hb, ⟨es, clock, #[], ((MapKept.heap_alloc w _).2 b hlt).trans hb, hs, he, (MapKept.heap_alloc w _).1, ?_, fun x hx => by cases hx⟩, (Gr.refl _).alloc _, by simp⟩
  rw [← he]
  simp only [leftOf, Array.toList_filter]
  rw [List.filter_eq_self.2 (by simp)]
theorem filter_out : ∀ {L1 L2 : List MapEntry} {e : MapEntry}, ((L1 ++ e :: L2).map (·.born)).Nodup → (L1 ++ e :: L2).filter (fun x => !(x.born == e.born)) = L1 ++ L2 := by
  intro L1 L2 e h
  rw [List.map_append, List.map_cons, List.nodup_append] at h
  obtain ⟨_, h2, h3⟩ := h
  rw [List.nodup_cons] at h2
  rw [List.filter_append, List.filter_cons]
  simp only [beq_self_eq_true, Bool.not_true, Bool.false_eq_true, if_false]
  congr 1
  · refine List.filter_eq_self.2 fun x hx => ?_
    have : x.born ≠ e.born := fun hh => h3 _ (List.mem_map.2 ⟨x, hx, rfl⟩) _ (List.mem_cons_self ..) hh
    simp [this]
  · refine List.filter_eq_self.2 fun x hx => ?_
    have : x.born ≠ e.born := fun hh => h2.1 (List.mem_map.2 ⟨x, hx, hh⟩)
    simp [this]
theorem IterIs.next {P : Program} {w : World} {r b : Nat} {E left : List (Ad × Value)} {cur : Option (Ad × Value)} (h : IterIs w r b E left cur) (ty : TypeId) :
    (left = [] ∧ (Instr.next (.pointer (some ⟨r, 0, none⟩)) false ty).run P w = .ok (.tuple #[.bool false]) w) ∨
    ∃ x l1 l2 w1, left = l1 ++ x :: l2 ∧ (Instr.next (.pointer (some ⟨r, 0, none⟩)) false ty).run P w = .ok (.tuple #[.bool true, adV x.1, x.2]) w1 ∧ IterIs w1 r b E (l1 ++ l2) (some x) ∧ w.grownBy w1 (some r) ∧ w1.heap.size = w.heap.size := by
  have hne := h.ne
  obtain ⟨es, clock, seen, hb, hs, he, hr, hl, _⟩ := h
  rcases run_next_at (P := P) w ty r b clock clock seen es clock hr hb hs.1 (Nat.le_refl _) with ⟨h0, hrun⟩ | ⟨e, hemem, w1, hw1, hrun⟩
  · refine Or.inl ⟨?_, hrun⟩
    have : leftOf es seen = #[] := Array.eq_empty_of_size_eq_zero h0
    rw [this] at hl
    cases left with
    | nil => rfl
    | cons _ _ => simp at hl
  · obtain ⟨hes, hseen⟩ := mem_left hemem
    obtain ⟨L1, L2, hL⟩ := List.append_of_mem hemem
    rw [hL, List.map_append, List.map_cons] at hl
    obtain ⟨l1, l2', hll, hl1, hl2⟩ := List.map_eq_append_iff.1 hl.symm
    obtain ⟨x, l2, rfl, hx, hl2⟩ := List.map_eq_cons_iff.1 hl2
    have hkv : e.key = adV x.1 ∧ e.val = x.2 := by
      simp only [kv, kvE, Prod.mk.injEq] at hx
      exact ⟨hx.1.symm, hx.2.symm⟩
    have hw1h : w1.heap = w.heap := by rcases hw1 with rfl | rfl <;> rfl
    have hr1 : w1.heap[r]? = some (.mapIter (some b) clock seen clock) := by rw [hw1h]; exact hr
    have hrl : r < w1.heap.size := (Array.getElem?_eq_some_iff.1 hr1).1
    refine Or.inr ⟨x, l1, l2, setBlock w1 r (.mapIter (some b) clock (seen.push e.born) clock), hll, by rw [hrun, hkv.1, hkv.2], ⟨es, clock, seen.push e.born, ?_, hs, he, ?_, ?_, ?_⟩, ?_, ?_⟩
    · simp only [setBlock]
      rw [Array.getElem?_setIfInBounds_ne hne, hw1h]; exact hb
    · simp only [setBlock]
      rw [Array.getElem?_setIfInBounds_self_of_lt hrl]
    · have hf : (leftOf es (seen.push e.born)).toList = L1 ++ L2 := by
        have hnd : ((leftOf es seen).toList.map (·.born)).Nodup := by
          have : (leftOf es seen).toList.Sublist es.toList := by unfold leftOf; rw [Array.toList_filter]; exact List.filter_sublist
          exact (this.map _).nodup hs.2.1
        rw [hL] at hnd
        rw [← filter_out hnd, ← hL]
        unfold leftOf
        simp only [Array.toList_filter, List.filter_filter]
        refine List.filter_congr fun y _ => ?_
        rw [contains_push, Bool.not_or, Bool.and_comm]
      rw [hf, List.map_append, List.map_append, hl1, hl2]
    · intro y hy
      cases hy
      exact ⟨seen, e, rfl, hes, hx.symm⟩
    · refine ⟨?_, ?_, ?_, ?_, ?_⟩
      · rcases hw1 with rfl | rfl <;> rfl
      · rcases hw1 with rfl | rfl <;> rfl
      · rcases hw1 with rfl | rfl <;> rfl
      · simp [setBlock, hw1h]
      · intro k _ hk
        simp only [setBlock]
        rw [Array.getElem?_setIfInBounds_ne (fun e => hk (by rw [e])), hw1h]
    · simp [setBlock, hw1h]
theorem IterIs.entry {P : Program} {w : World} {r b : Nat} {E left : List (Ad × Value)} {x : Ad × Value} (h : IterIs w r b E left (some x)) :
    (Instr.entry (.pointer (some ⟨r, 0, none⟩))).run P w = .ok (.tuple #[adV x.1, x.2]) w := by
  obtain ⟨es, clock, seen, hb, hs, he, hr, hl, hc⟩ := h
  obtain ⟨seen', e, rfl, hmem, hx⟩ := hc x rfl
  rw [run_entry_at (P := P) w r b clock seen' es clock e hr hb hmem hs.2.1]
  simp only [kv, kvE, Prod.mk.injEq] at hx
  rw [hx.1, hx.2]

section
variable {P : Program} (w : World) {ops : Array Oper} {rest : List Oper} {o : Oper} {a : Act} {Q : Exit → Act → World → Prop}
/-- 'range m' at the operation. -/
theorem wpList_range_it (hg : o.guard = none) (m : Operand) (t k e : TypeId) (hop : o.op = Op.range t m) (ht : P.underlying t = some (.map k e)) (b : Nat) (E : List (Ad × Value)) (hm : a.eval m = .map (some b)) (h : MapIs w b E)
    (hK : ∀ w', IterIs w' w.heap.size b E E none → Gr w w' → w'.heap.size = w.heap.size + 1 → wpList P ops Q rest (a.put o.dst (.pointer (some ⟨w.heap.size, 0, none⟩))) w') :
    wpList P ops Q (o :: rest) a w := by
  refine wpList_plain hg fun K' hK' => ?_
  obtain ⟨w', hrun, r1, r2, r3⟩ := h.range (P := P) ht
  unfold Oper.wp
  simp [execOp, hop, hm, hrun, Result.andThen]
  exact hK' _ _ (hK w' r1 r2 r3)
/-- The step. -/
theorem wpList_next_it (hg : o.guard = none) (it : Operand) (hop : o.op = Op.next it false) (r b : Nat) (E left : List (Ad × Value)) (cur : Option (Ad × Value)) (hit : a.eval it = .pointer (some ⟨r, 0, none⟩)) (h : IterIs w r b E left cur)
    (hDone : left = [] → wpList P ops Q rest (a.put o.dst (.tuple #[.bool false])) w)
    (hMore : ∀ (c d : Int) (v : Value) l1 l2 w1, left = l1 ++ ((c, d), v) :: l2 → IterIs w1 r b E (l1 ++ l2) (some ((c, d), v)) → w.grownBy w1 (some r) → w1.heap.size = w.heap.size →
      (Instr.entry (.pointer (some ⟨r, 0, none⟩))).run P w1 = .ok (.tuple #[.agg #[.int .i64 c, .int .i64 d], v]) w1 → wpList P ops Q rest (a.put o.dst (.tuple #[.bool true, .agg #[.int .i64 c, .int .i64 d], v])) w1) :
    wpList P ops Q (o :: rest) a w := by
  refine wpList_plain hg fun K' hK' => ?_
  unfold Oper.wp
  rcases h.next (P := P) o.type with ⟨h0, hrun⟩ | ⟨x, l1, l2, w1, hl, hrun, hI, hgr, hsz⟩
  · simp [execOp, hop, hit, hrun, Result.andThen]
    exact hK' _ _ (hDone h0)
  · simp [execOp, hop, hit, hrun, Result.andThen]
    exact hK' _ _ (hMore x.1.1 x.1.2 x.2 l1 l2 w1 hl hI hgr hsz hI.entry)
/-- 'delete(m, k)'. -/
theorem wpList_delete_it (hg : o.guard = none) (m x : Operand) (t tk k e : TypeId) (hop : o.op = Op.call { callee := Callee.builtin Builtin.delete, args := #[m, x], argTypes := #[t, tk] }) (K : AdrKey P k) (ht : P.underlying t = some (.map k e)) (b : Nat) (E : List (Ad × Value)) (hm : a.eval m = .map (some b)) (c d : Int) (hx : a.eval x = .agg #[.int .i64 c, .int .i64 d]) (h : MapIs w b E)
    (hK : ∀ w', MapIs w' b (dlE (c, d) E) → w.grownBy w' (some b) → w'.heap.size = w.heap.size → wpList P ops Q rest (a.put o.dst (.tuple #[])) w') :
    wpList P ops Q (o :: rest) a w := by
  refine wpList_plain hg fun K' hK' => ?_
  obtain ⟨w', hrun, r1, r2, _, r3⟩ := h.delete (ty := o.type) K ht (c, d) tk
  have hrun' : (Builtin.delete_ #[t, tk] o.type #[.map (some b), .agg #[.int .i64 c, .int .i64 d]]).run P w = .ok (.tuple #[]) w' := hrun
  unfold Oper.wp
  simp [execOp, hop, resolve, invoke, builtin, hm, hx, hrun', Result.andThen]
  exact hK' _ _ (hK w' r1 r2 r3)
/-- 'm[k] = v'. -/
theorem wpList_update_it (hg : o.guard = none) (m x v : Operand) (t k e : TypeId) (hop : o.op = Op.mapUpdate t m x v) (K : AdrKey P k) (ht : P.underlying t = some (.map k e)) (b : Nat) (E : List (Ad × Value)) (hm : a.eval m = .map (some b)) (c d : Int) (hx : a.eval x = .agg #[.int .i64 c, .int .i64 d]) (val : Value) (hv : a.eval v = val) (h : MapIs w b E)
    (hK : ∀ w', MapIs w' b (upE (c, d) val E) → w.grownBy w' (some b) → w'.heap.size = w.heap.size → wpList P ops Q rest (a.put o.dst undef) w') :
    wpList P ops Q (o :: rest) a w := by
  refine wpList_plain hg fun K' hK' => ?_
  obtain ⟨w', hrun, r1, r2, _, r3⟩ := h.update K ht (c, d) val
  have hrun' : (Instr.mapUpdate t (.map (some b)) (.agg #[.int .i64 c, .int .i64 d]) val).run P w = .ok () w' := hrun
  unfold Oper.wp
  simp [execOp, hop, hm, hx, hv, hrun', Result.andThen]
  exact hK' _ _ (hK w' r1 r2 r3)
end
end
section
open Go.RowKit Go.Sort

/-! ### nodes, values, contents: as they lie in memory -/
structure RefT where
  a : Ad
  cf : Bool
  rf : Bool
inductive NodeT where
  | mk (kind op : Int) (x : Nat) (s : ByteArray) (b : Bool) (f : Int) (ref q : RefT) (args : List NodeT)
def NodeT.kind : NodeT → Int | .mk k _ _ _ _ _ _ _ _ => k
def NodeT.op : NodeT → Int | .mk _ o _ _ _ _ _ _ _ => o
def NodeT.x : NodeT → Nat | .mk _ _ x _ _ _ _ _ _ => x
def NodeT.s : NodeT → ByteArray | .mk _ _ _ s _ _ _ _ _ => s
def NodeT.b : NodeT → Bool | .mk _ _ _ _ b _ _ _ _ => b
def NodeT.f : NodeT → Int | .mk _ _ _ _ _ f _ _ _ => f
def NodeT.ref : NodeT → RefT | .mk _ _ _ _ _ _ r _ _ => r
def NodeT.to : NodeT → RefT | .mk _ _ _ _ _ _ _ r _ => r
def NodeT.args : NodeT → List NodeT | .mk _ _ _ _ _ _ _ _ l => l
/-- A node's cells; av: the slice of its args. -/
def nodeC (t : NodeT) (av : Value) : List Value :=
  [.int .i64 t.kind, .int .i64 t.op, .float .f64 t.x, .string t.s, .bool t.b, .int .i64 t.f, .int .i64 t.ref.a.1, .int .i64 t.ref.a.2, .bool t.ref.cf, .bool t.ref.rf, .int .i64 t.to.a.1, .int .i64 t.to.a.2, .bool t.to.cf, .bool t.to.rf, av]
/-- A node's row, written short where a row is asked. -/
structure RowN where
  rN ::
  t : NodeT
  v : Value
abbrev rN := RowN.rN
instance (t : NodeT) (v : Value) : CoeDep RowN (rN t v) (Array Value) := ⟨#[.int .i64 t.kind, .int .i64 t.op, .float .f64 t.x, .string t.s, .bool t.b, .int .i64 t.f, .int .i64 t.ref.a.1, .int .i64 t.ref.a.2, .bool t.ref.cf, .bool t.ref.rf, .int .i64 t.to.a.1, .int .i64 t.to.a.2, .bool t.to.cf, .bool t.to.rf, v]⟩
structure RowM where
  rM ::
  k : Int
  o : Int
  x : Nat
  s : ByteArray
  b : Bool
  f : Int
  r1 : Int
  r2 : Int
  rc : Bool
  rf : Bool
  q1 : Int
  q2 : Int
  qc : Bool
  qf : Bool
  v : Value
abbrev rM := RowM.rM
instance (k o : Int) (x : Nat) (s : ByteArray) (b : Bool) (f r1 r2 : Int) (rc rf : Bool) (q1 q2 : Int) (qc qf : Bool) (v : Value) : CoeDep RowM (rM k o x s b f r1 r2 rc rf q1 q2 qc qf v) (Array Value) := ⟨#[.int .i64 k, .int .i64 o, .float .f64 x, .string s, .bool b, .int .i64 f, .int .i64 r1, .int .i64 r2, .bool rc, .bool rf, .int .i64 q1, .int .i64 q2, .bool qc, .bool qf, v]⟩
/-- A slice of nodes, read so deep. -/
def ArgsIn (w : World) : Nat → Value → List NodeT → Prop
  | 0, av, l => l = [] ∧ ∃ a cap, av = .slice a 0 cap ∧ cap ≤ 9223372036854775807
  | n + 1, av, l => ∃ a cap, av = .slice a l.length cap ∧ l.length ≤ cap ∧ cap ≤ 9223372036854775807 ∧ (l ≠ [] → ∃ b off, a = some ⟨b, off, none⟩ ∧ ∀ k t, l[k]? = some t → ∃ av', (∀ i u, (nodeC t av')[i]? = some u → w.cell? ⟨b, off + k * 15 + i, none⟩ = some u) ∧ ArgsIn w n av' t.args)
theorem ArgsIn.shape {w : World} : ∀ {n : Nat} {av : Value} {l : List NodeT}, ArgsIn w n av l → ∃ a cap, av = .slice a l.length cap ∧ l.length ≤ cap ∧ cap ≤ 9223372036854775807
  | 0, _, _, h => by obtain ⟨rfl, a, cap, rfl, hc⟩ := h; exact ⟨a, cap, rfl, Nat.zero_le _, hc⟩
  | _ + 1, _, _, h => by obtain ⟨a, cap, rfl, h1, h2, _⟩ := h; exact ⟨a, cap, rfl, h1, h2⟩
theorem ArgsIn.xt {w w' : World} (hx : Xt w w') : ∀ {n : Nat} {av : Value} {l : List NodeT}, ArgsIn w n av l → ArgsIn w' n av l
  | 0, _, _, h => h
  | n + 1, _, _, h => by
    obtain ⟨a, cap, rfl, h1, h2, h3⟩ := h
    refine ⟨a, cap, rfl, h1, h2, fun hne => ?_⟩
    obtain ⟨b, off, rfl, hc⟩ := h3 hne
    refine ⟨b, off, rfl, fun k t ht => ?_⟩
    obtain ⟨av', hcell, hin⟩ := hc k t ht
    have hb : b < w.heap.size := World.block_lt_of_cell? w _ (hcell 0 _ rfl)
    exact ⟨av', fun i u hu => ((hx.cells).1 _ _ hb).trans (hcell i u hu), hin.xt hx⟩
/-- One of them, its cells one by one. -/
structure NodeAt (w : World) (b o : Nat) (t : NodeT) (a : Option Addr) (n cap : Nat) : Prop where
  c0 : w.cell? ⟨b, o, none⟩ = some (.int .i64 t.kind)
  c1 : w.cell? ⟨b, o + 1, none⟩ = some (.int .i64 t.op)
  c2 : w.cell? ⟨b, o + 2, none⟩ = some (.float .f64 t.x)
  c3 : w.cell? ⟨b, o + 3, none⟩ = some (.string t.s)
  c4 : w.cell? ⟨b, o + 4, none⟩ = some (.bool t.b)
  c5 : w.cell? ⟨b, o + 5, none⟩ = some (.int .i64 t.f)
  c6 : w.cell? ⟨b, o + 6, none⟩ = some (.int .i64 t.ref.a.1)
  c7 : w.cell? ⟨b, o + 7, none⟩ = some (.int .i64 t.ref.a.2)
  c8 : w.cell? ⟨b, o + 8, none⟩ = some (.bool t.ref.cf)
  c9 : w.cell? ⟨b, o + 9, none⟩ = some (.bool t.ref.rf)
  c10 : w.cell? ⟨b, o + 10, none⟩ = some (.int .i64 t.to.a.1)
  c11 : w.cell? ⟨b, o + 11, none⟩ = some (.int .i64 t.to.a.2)
  c12 : w.cell? ⟨b, o + 12, none⟩ = some (.bool t.to.cf)
  c13 : w.cell? ⟨b, o + 13, none⟩ = some (.bool t.to.rf)
  c14 : w.cell? ⟨b, o + 14, none⟩ = some (.slice a n cap)
theorem NodeAt.of {w : World} {b o : Nat} {t : NodeT} {a : Option Addr} {n cap : Nat} (h : ∀ (i : Nat) (u : Value), (nodeC t (.slice a n cap))[i]? = some u → w.cell? ⟨b, o + i, none⟩ = some u) : NodeAt w b o t a n cap :=
  ⟨h 0 _ rfl, h 1 _ rfl, h 2 _ rfl, h 3 _ rfl, h 4 _ rfl, h 5 _ rfl, h 6 _ rfl, h 7 _ rfl, h 8 _ rfl, h 9 _ rfl, h 10 _ rfl, h 11 _ rfl, h 12 _ rfl, h 13 _ rfl, h 14 _ rfl⟩
theorem NodeAt.xt {w w' : World} {b o : Nat} {t : NodeT} {a : Option Addr} {n cap : Nat} (h : NodeAt w b o t a n cap) (hx : Xt w w') : NodeAt w' b o t a n cap := by
  have hb : b < w.heap.size := World.block_lt_of_cell? w _ h.c0
  have e := fun o => (hx.cells).1 b o hb
  exact ⟨(e _).trans h.c0, (e _).trans h.c1, (e _).trans h.c2, (e _).trans h.c3, (e _).trans h.c4, (e _).trans h.c5, (e _).trans h.c6, (e _).trans h.c7, (e _).trans h.c8, (e _).trans h.c9, (e _).trans h.c10, (e _).trans h.c11, (e _).trans h.c12, (e _).trans h.c13, (e _).trans h.c14⟩
/-- The arg at a place. -/
theorem ArgsIn.at {w : World} {n : Nat} {a : Option Addr} {m cap k : Nat} {l : List NodeT} {t : NodeT} (h : ArgsIn w n (.slice a m cap) l) (hk : l[k]? = some t) : ∃ n' b off a' c', n = n' + 1 ∧ a = some ⟨b, off, none⟩ ∧ NodeAt w b (off + k * 15) t a' t.args.length c' ∧ ArgsIn w n' (.slice a' t.args.length c') t.args := by
  cases n with
  | zero => obtain ⟨rfl, _⟩ := h; simp at hk
  | succ n =>
    obtain ⟨a0, c0, e, _, _, h3⟩ := h
    cases e
    obtain ⟨b, off, rfl, hc⟩ := h3 (by intro e; subst e; simp at hk)
    obtain ⟨av', hcell, hin⟩ := hc k t hk
    obtain ⟨a', c', rfl, _, _⟩ := hin.shape
    exact ⟨n, b, off, a', c', rfl, rfl, NodeAt.of hcell, hin⟩
/-- A box for a node. -/
theorem boxN (w : World) (t : NodeT) (a : Option Addr) (n cap : Nat) (T : TypeId) : ∃ w0, w.alloc (.cells #[.int .i64 t.kind, .int .i64 t.op, .float .f64 t.x, .string t.s, .bool t.b, .int .i64 t.f, .int .i64 t.ref.a.1, .int .i64 t.ref.a.2, .bool t.ref.cf, .bool t.ref.rf, .int .i64 t.to.a.1, .int .i64 t.to.a.2, .bool t.to.cf, .bool t.to.rf, .slice a n cap] T) = w0 ∧ Gr w w0 ∧ w0.heap.size = w.heap.size + 1 ∧ NodeAt w0 w.heap.size 0 t a n cap := by
  refine ⟨_, rfl, (Gr.refl _).alloc _, by simp, NodeAt.of fun i u hu => ?_⟩
  rw [Nat.zero_add, World.cell?_alloc_new]
  simpa [nodeC] using hu
/-- A node as a value. -/
abbrev nodeV (t : NodeT) (a : Option Addr) (n cap : Nat) : Value := .agg #[.int .i64 t.kind, .int .i64 t.op, .float .f64 t.x, .string t.s, .bool t.b, .int .i64 t.f, .int .i64 t.ref.a.1, .int .i64 t.ref.a.2, .bool t.ref.cf, .bool t.ref.rf, .int .i64 t.to.a.1, .int .i64 t.to.a.2, .bool t.to.cf, .bool t.to.rf, .slice a n cap]

/-! ### weight, heavy -/
mutual
def weightT : NodeT → Int → Int
  | .mk _ _ _ _ _ _ _ _ args, most => weightL args 1 most
def weightL : List NodeT → Int → Int → Int
  | [], all, _ => all
  | t :: r, all, most => if all ≤ most then weightL r (all + weightT t (most - all)) most else all
end
theorem weightT_eq (t : NodeT) (m : Int) : weightT t m = weightL t.args 1 m := by cases t; simp [weightT, NodeT.args]
mutual
theorem weightT_le : ∀ (t : NodeT) (m : Int), 0 ≤ m → 1 ≤ weightT t m ∧ weightT t m ≤ m + 1
  | .mk _ _ _ _ _ _ _ _ args, m, h => by
    simp only [weightT]
    exact weightL_le args 1 m (by omega) (by omega)
theorem weightL_le : ∀ (l : List NodeT) (all m : Int), 1 ≤ all → all ≤ m + 1 → all ≤ weightL l all m ∧ weightL l all m ≤ m + 1
  | [], all, m, h1, h2 => by simp only [weightL]; omega
  | t :: r, all, m, h1, h2 => by
    simp only [weightL]
    by_cases h : all ≤ m
    · rw [if_pos h]
      have h3 := weightT_le t (m - all) (by omega)
      have h4 := weightL_le r (all + weightT t (m - all)) m (by omega) (by omega)
      omega
    · rw [if_neg h]; omega
end
theorem wrap_small {x : Int} (h : -9000000000000 ≤ x) (h2 : x ≤ 9000000000000) : wrap64 x = x := by unfold wrap64; omega
theorem drop_at {α : Type} {l : List α} {k : Nat} {x : α} (h : l[k]? = some x) : l.drop k = x :: l.drop (k + 1) := by
  obtain ⟨hk, rfl⟩ := List.getElem?_eq_some_iff.1 h
  exact List.drop_eq_getElem_cons hk

/-! ### the model's own entries -/
theorem run_bits (w : World) (x : Nat) : (callFunc 66 #[.float .f64 x]).run Tryz.prog w = .ok (.value (.int .u64 x)) w := by
  rw [run_callFunc_extern (fn := Tryz.f66) (by kernel_rfl) (by kernel_rfl) (by kernel_rfl) (by kernel_rfl) (e := Extern.MathFloatBits.float64bits) (by kernel_rfl)]
  rfl
theorem run_from (w : World) (n : Int) : (callFunc 97 #[.int .u64 n]).run Tryz.prog w = .ok (.value (.float .f64 n.toNat)) w := by
  rw [run_callFunc_extern (fn := Tryz.f97) (by kernel_rfl) (by kernel_rfl) (by kernel_rfl) (by kernel_rfl) (e := Extern.MathFloatBits.float64frombits) (by kernel_rfl)]
  rfl

attribute [go_sem] run_bits run_from
theorem feq00 : Op.floatEq .f64 0 0 = true := by decide
@[go_sem] theorem run_equalIn_float {P : Program} (w : World) (d : Nat) (t : TypeId) (k : FloatKind) (a b : Nat) (h : P.underlying t = some (.float k)) : (Op.equalIn (d + 1) t (.float k a) (.float k b)).run P w = .ok (Op.floatEq k a b) w := by
  simp [Op.equalIn, run_underlying h]

structure ValT where
  kind : Int
  x : Nat
  s : ByteArray
  b : Bool
  f : Int
theorem boxV (w : World) (v : ValT) (T : TypeId) : ∃ w0, w.alloc (.cells #[.int .i64 v.kind, .float .f64 v.x, .string v.s, .bool v.b, .int .i64 v.f] T) = w0 ∧ Gr w w0 ∧ w0.heap.size = w.heap.size + 1 ∧ w0.cell? ⟨w.heap.size, 0, none⟩ = some (.int .i64 v.kind) ∧ w0.cell? ⟨w.heap.size, 1, none⟩ = some (.float .f64 v.x) ∧ w0.cell? ⟨w.heap.size, 2, none⟩ = some (.string v.s) ∧ w0.cell? ⟨w.heap.size, 3, none⟩ = some (.bool v.b) ∧ w0.cell? ⟨w.heap.size, 4, none⟩ = some (.int .i64 v.f) := by
  refine ⟨_, rfl, (Gr.refl _).alloc _, by simp, ?_, ?_, ?_, ?_, ?_⟩ <;> simp
abbrev valV (v : ValT) : Value := .agg #[.int .i64 v.kind, .float .f64 v.x, .string v.s, .bool v.b, .int .i64 v.f]
def noValB (v : ValT) : Bool := decide (v.kind = 0) && decide ((v.x : Int) = 0) && decide (v.s.toList = []) && !v.b && decide (v.f = 0)
set_option maxRecDepth 100000 in
set_option maxHeartbeats 2000000 in
theorem noValue_any (v : ValT) (w : World) :
    Calls Tryz.prog 60 #[valV v] w fun e w' => e = .returned (.bool (noValB v)) ∧ Gr w w' := by
  obtain ⟨w0, hw0, hg0, hs0, c0, c1, c2, c3, c4⟩ := boxV w v 39
  have HG0 := Lib.hid hg0
  clear hg0
  go_enter Tryz.func60, Tryz.ntmps60
  go_wp2_with fail
  all_goals (go_ret; refine ⟨?_, HG0.out⟩; first | (simp [noValB, *]; done) | (by_cases hx : v.x = 0 <;> simp_all [noValB, feq00]; done))

def noNodeB (t : NodeT) : Bool := decide (t.kind = 0) && decide (t.op = 0) && decide ((t.x : Int) = 0) && decide (t.s.toList = []) && !t.b && decide (t.f = 0) &&
  (decide (t.ref.a.1 = 0) && decide (t.ref.a.2 = 0) && !t.ref.cf && !t.ref.rf) && (decide (t.to.a.1 = 0) && decide (t.to.a.2 = 0) && !t.to.cf && !t.to.rf) && ((t.args.length : Int) == 0)
set_option maxRecDepth 100000 in
set_option maxHeartbeats 4000000 in
theorem noNode_any (t : NodeT) (a : Option Addr) (cap : Nat) (w : World) :
    Calls Tryz.prog 61 #[nodeV t a t.args.length cap] w fun e w' => e = .returned (.bool (noNodeB t)) ∧ Gr w w' := by
  obtain ⟨w0, hw0, hg0, hs0, hN⟩ := boxN w t a t.args.length cap 44
  obtain ⟨c0, c1, c2, c3, c4, c5, c6, c7, c8, c9, c10, c11, c12, c13, c14⟩ := hN
  simp only [Nat.zero_add] at c0 c1 c2 c3 c4 c5 c6 c7 c8 c9 c10 c11 c12 c13 c14
  have HG0 := Lib.hid hg0
  clear hg0
  generalize hn : noNodeB t = ans
  have HA := Lib.hid hn
  clear hn
  go_enter Tryz.func61, Tryz.ntmps61
  go_wp2_with fail
  all_goals (go_ret; refine ⟨?_, HG0.out⟩; rw [← HA.out]; simp [noNodeB, *]; done)

/-! ### parts -/
def oneX (x : Nat) : Nat := if (FloatKind.format .f64).order x x != some .eq then 9221120237041090560 else x
theorem Nan_any (w : World) : Calls Tryz.prog 110 #[] w fun e w' => e = .returned (.float .f64 9221120237041090560) ∧ w = w' := by
  go_enter Tryz.func110, Tryz.ntmps110
  go_wp2_with fail
  go_ret
  exact ⟨rfl, rfl⟩
theorem One_any (x : Nat) (w : World) : Calls Tryz.prog 89 #[.float .f64 x] w fun e w' => e = .returned (.float .f64 (oneX x)) ∧ w = w' := by
  have hc := Nan_any w
  have HC := Lib.hid hc
  clear hc
  go_enter Tryz.func89, Tryz.ntmps89
  go_wp2_with (refine (HC.out).mono ?_; rintro e w' ⟨rfl, rfl⟩)
  all_goals (go_ret; refine ⟨?_, rfl⟩; simp [oneX, *]; done)
def signX (x : Nat) : Bool := decide (wrap64 x < 0)
theorem Signbit_any (x : Nat) (w : World) : Calls Tryz.prog 140 #[.float .f64 x] w fun e w' => e = .returned (.bool (signX x)) ∧ w = w' := by
  go_enter Tryz.func140, Tryz.ntmps140
  go_wp2_with fail
  go_ret
  refine ⟨?_, rfl⟩
  simp [signX]
def negX (x : Nat) : Bool := (FloatKind.format .f64).order x x == some .eq && signX x
theorem Negative_any (x : Nat) (w : World) : Calls Tryz.prog 127 #[.float .f64 x] w fun e w' => e = .returned (.bool (negX x)) ∧ w = w' := by
  have hc := Signbit_any x w
  have HC := Lib.hid hc
  clear hc
  go_enter Tryz.func127, Tryz.ntmps127
  go_wp2_with (refine (HC.out).mono ?_; rintro e w' ⟨rfl, rfl⟩)
  all_goals (go_ret; refine ⟨?_, rfl⟩; simp [negX, *]; done)

/-! ### a slice of nodes whose blocks all have a property -/
def ArgsS (S : Nat → Prop) (w : World) : Nat → Value → List NodeT → Prop
  | 0, av, l => l = [] ∧ ∃ a cap, av = .slice a 0 cap ∧ cap ≤ 9223372036854775807
  | n + 1, av, l => ∃ a cap, av = .slice a l.length cap ∧ l.length ≤ cap ∧ cap ≤ 9223372036854775807 ∧ (l ≠ [] → ∃ b off, a = some ⟨b, off, none⟩ ∧ S b ∧ ∀ k t, l[k]? = some t → ∃ av', (∀ i u, (nodeC t av')[i]? = some u → w.cell? ⟨b, off + k * 15 + i, none⟩ = some u) ∧ ArgsS S w n av' t.args)
theorem ArgsS.args {S : Nat → Prop} {w : World} : ∀ {n : Nat} {av : Value} {l : List NodeT}, ArgsS S w n av l → ArgsIn w n av l
  | 0, _, _, h => h
  | n + 1, _, _, h => by
    obtain ⟨a, cap, rfl, h1, h2, h3⟩ := h
    refine ⟨a, cap, rfl, h1, h2, fun hne => ?_⟩
    obtain ⟨b, off, rfl, _, hc⟩ := h3 hne
    exact ⟨b, off, rfl, fun k t ht => let ⟨av', q1, q2⟩ := hc k t ht; ⟨av', q1, q2.args⟩⟩
theorem ArgsIn.toS {w : World} : ∀ {n : Nat} {av : Value} {l : List NodeT}, ArgsIn w n av l → ArgsS (fun b => b < w.heap.size) w n av l
  | 0, _, _, h => h
  | n + 1, _, _, h => by
    obtain ⟨a, cap, rfl, h1, h2, h3⟩ := h
    refine ⟨a, cap, rfl, h1, h2, fun hne => ?_⟩
    obtain ⟨b, off, rfl, hc⟩ := h3 hne
    obtain ⟨t0, r, rfl⟩ := List.exists_cons_of_ne_nil hne
    obtain ⟨av0, q0, _⟩ := hc 0 t0 rfl
    exact ⟨b, off, rfl, World.block_lt_of_cell? w _ (q0 0 _ rfl), fun k t ht => let ⟨av', q1, q2⟩ := hc k t ht; ⟨av', q1, q2.toS⟩⟩
theorem ArgsS.keep {S S' : Nat → Prop} {w w' : World} (hS : ∀ b, S b → b < w.heap.size → S' b) (hk : ∀ b o, S b → b < w.heap.size → w'.cell? ⟨b, o, none⟩ = w.cell? ⟨b, o, none⟩) : ∀ {n : Nat} {av : Value} {l : List NodeT}, ArgsS S w n av l → ArgsS S' w' n av l
  | 0, _, _, h => h
  | n + 1, _, _, h => by
    obtain ⟨a, cap, rfl, h1, h2, h3⟩ := h
    refine ⟨a, cap, rfl, h1, h2, fun hne => ?_⟩
    obtain ⟨b, off, rfl, hb, hc⟩ := h3 hne
    obtain ⟨t0, r, rfl⟩ := List.exists_cons_of_ne_nil hne
    obtain ⟨av0, q0, _⟩ := hc 0 t0 rfl
    have hlt : b < w.heap.size := World.block_lt_of_cell? w _ (q0 0 _ rfl)
    exact ⟨b, off, rfl, hS b hb hlt, fun k t ht => let ⟨av', q1, q2⟩ := hc k t ht; ⟨av', fun i u hu => (hk b _ hb hlt).trans (q1 i u hu), ArgsS.keep hS hk q2⟩⟩
/-! ### what a copy holds -/
mutual
def copyT : NodeT → NodeT
  | .mk k op x s b f r q args => .mk k op (oneX x) s b f r q (copyL args)
def copyL : List NodeT → List NodeT
  | [] => []
  | t :: r => copyT t :: copyL r
end
theorem copyL_map : ∀ l : List NodeT, copyL l = l.map copyT
  | [] => by simp [copyL]
  | t :: r => by simp only [copyL, List.map_cons, copyL_map r]

/-! ### lists of rows, laid flat -/
theorem rflat_at {α β : Type} (f : α → List β) (m : Nat) (hf : ∀ x, (f x).length = m) : ∀ (l : List α) (k j : Nat) (x : α), l[k]? = some x → j < m → (l.flatMap f)[k * m + j]? = (f x)[j]?
  | y :: r, 0, j, x, h, hj => by
    simp only [List.getElem?_cons_zero, Option.some.injEq] at h
    subst h
    rw [List.flatMap_cons, Nat.zero_mul, Nat.zero_add, List.getElem?_append_left (by rw [hf]; exact hj)]
  | y :: r, k + 1, j, x, h, hj => by
    rw [List.flatMap_cons, Nat.succ_mul, List.getElem?_append_right (by rw [hf]; omega), hf]
    rw [show k * m + m + j - m = k * m + j by omega]
    exact rflat_at f m hf r k j x (by simpa using h) hj
abbrev rowC (r : NodeT × Value) : List Value := nodeC r.1 r.2
theorem rowC_len (r : NodeT × Value) : (rowC r).length = 15 := rfl
end
section
open Go.RowKit Go.Sort Go.MapKept

/-! ### rows of the call's own, element by element -/
section
variable {α : Type} {enc : α → List Value} {k : Nat}
theorem flat_len (hk : ∀ x, (enc x).length = k) : ∀ (l : List α), (l.flatMap enc).length = l.length * k
  | [] => by simp
  | x :: l => by simp [List.flatMap_cons, hk, flat_len hk l, Nat.add_mul, Nat.add_comm]
theorem flat_get (hk : ∀ x, (enc x).length = k) : ∀ (l : List α) (j i : Nat) (x : α), l[j]? = some x → i < k → (l.flatMap enc)[j * k + i]? = (enc x)[i]?
  | [], _, _, _, h, _ => by simp at h
  | y :: l, 0, i, x, h, hi => by
    simp only [List.getElem?_cons_zero, Option.some.injEq] at h
    subst h
    rw [List.flatMap_cons, Nat.zero_mul, Nat.zero_add, List.getElem?_append_left (by rw [hk]; exact hi)]
  | y :: l, j + 1, i, x, h, hi => by
    simp only [List.getElem?_cons_succ] at h
    rw [List.flatMap_cons, List.getElem?_append_right (by rw [hk, Nat.add_mul]; omega), hk, show (j + 1) * k + i - k = j * k + i by rw [Nat.add_mul]; omega]
    exact flat_get hk l j i x h hi
/-- A slice of the call's own, by its elements. -/
def OwnL (w : World) (base : Nat) (T : TypeId) (k : Nat) (enc : α → List Value) (v : Value) (l : List α) : Prop := w.ownsRow base T k v l.length (l.flatMap enc)
theorem OwnL.sl {w : World} {base : Nat} {T : TypeId} {v : Value} {l : List α} (h : OwnL w base T k enc v l) (hk : ∀ x, (enc x).length = k) : SlOf w enc k v l := by
  obtain ⟨h1, h2⟩ := h
  rcases h2 with ⟨rfl, h0⟩ | ⟨g, cap, cur, rfl, hb, hg, hn, hc, hs, ht⟩
  · refine ⟨none, 0, by rw [h0], by omega, by omega, fun hl => ?_⟩
    exact absurd (List.length_eq_zero_iff.1 h0) hl
  · refine ⟨_, cap, rfl, hn, by unfold maxLen at hc; omega, fun _ => ⟨g, 0, rfl, fun j x hx i u hu => ?_⟩⟩
    have hi : i < k := by rw [← hk x]; exact (List.getElem?_eq_some_iff.1 hu).1
    have hf := flat_get hk l j i x hx hi
    rw [hu, ← ht] at hf
    rw [List.getElem?_take] at hf
    split at hf
    · rw [Nat.zero_add, cell_of_row w g _ cur T (0, 0) hg]
      simpa using hf
    · cases hf
theorem OwnL.base {w : World} {base base' : Nat} {T : TypeId} {v : Value} {l : List α} (h : OwnL w base T k enc v l) (hb : base' ≤ base) : OwnL w base' T k enc v l := by
  refine ⟨h.1, ?_⟩
  rcases h.2 with h0 | ⟨g, cap, cur, h0, h1, r⟩
  · exact Or.inl h0
  · exact Or.inr ⟨g, cap, cur, h0, by omega, r⟩
theorem Xt.grown {a b : World} (h : Xt a b) (row : Option Nat) : a.grownBy b row := ⟨h.os, h.tape, h.output, h.size, fun k hk _ => Below.block h k hk⟩
theorem OwnL.xt {w w' : World} {base : Nat} {T : TypeId} {v : Value} {l : List α} (h : OwnL w base T k enc v l) (hx : Xt w w') : OwnL w' base T k enc v l :=
  World.ownsRow.kept h (hx.grown none) (by cases v.ownBlock <;> simp)
theorem news_at (W : World) (cs : List Value) (T : TypeId) {b : Nat} (hb : b = W.heap.size) : ∀ (j : Nat) (u : Value), cs[j]? = some u → (W.alloc (.cells cs.toArray T)).cell? ((⟨b, 0, none⟩ : Addr).add j) = some u := by
  intro j u hu
  subst hb
  rw [show (⟨W.heap.size, 0, none⟩ : Addr).add j = ⟨W.heap.size, 0 + j, none⟩ from Addr.add_lit .., Nat.zero_add, World.cell?_alloc_new]
  simpa using hu
end

/-! ### a row of structs that is written in place -/
theorem setCells_row (g : Nat) (T : TypeId) : ∀ (vs : List Value) (o : Nat) (w : World) (cur : Array Value), w.heap[g]? = some (.cells cur T (0, 0)) →
    ∃ cur', (w.setCells g o vs).heap[g]? = some (.cells cur' T (0, 0)) ∧ cur'.size = cur.size ∧ ∀ t, cur'[t]? = if o ≤ t ∧ t < o + vs.length ∧ t < cur.size then vs[t - o]? else cur[t]?
  | [], o, w, cur, h => ⟨cur, h, rfl, fun t => by rw [if_neg (by simp; omega)]⟩
  | v :: r, o, w, cur, h => by
    have h1 : (w.setCell ⟨g, o, none⟩ v).heap[g]? = some (.cells (cur.setIfInBounds o v) T (0, 0)) := by
      simp [World.setCell, Array.getElem?_modify, h]
    obtain ⟨cur', q1, q2, q3⟩ := setCells_row g T r (o + 1) _ _ h1
    refine ⟨cur', q1, by rw [q2]; simp, fun t => ?_⟩
    rw [q3 t]
    simp only [List.length_cons, Array.size_setIfInBounds]
    by_cases ht : t = o
    · subst ht
      rw [if_neg (by omega)]
      by_cases hc : t < cur.size
      · rw [if_pos (by omega), Nat.sub_self]; simp [hc]
      · rw [if_neg (by omega)]; simp [hc]
    · by_cases hb : o + 1 ≤ t ∧ t < o + 1 + r.length ∧ t < cur.size
      · rw [if_pos hb, if_pos (by omega)]
        obtain ⟨s, rfl⟩ : ∃ s, t = o + 1 + s := ⟨t - (o + 1), by omega⟩
        rw [show o + 1 + s - (o + 1) = s by omega, show o + 1 + s - o = s + 1 by omega]
        simp
      · rw [if_neg hb, if_neg (by omega), Array.getElem?_setIfInBounds_ne (by omega)]
theorem setCells_grown (g : Nat) : ∀ (vs : List Value) (o : Nat) (w : World), w.grownBy (w.setCells g o vs) (some g)
  | [], _, w => ⟨rfl, rfl, rfl, Nat.le_refl _, fun _ _ _ => rfl⟩
  | v :: r, o, w => by
    have h1 : w.grownBy (w.setCell ⟨g, o, none⟩ v) (some g) := ⟨rfl, rfl, rfl, by simp, fun k _ hk => Below.heap_setCell _ _ _ _ (fun e => hk (by rw [e]))⟩
    have h2 := setCells_grown g r (o + 1) (w.setCell ⟨g, o, none⟩ v)
    exact ⟨h2.os.trans h1.os, h2.tape.trans h1.tape, h2.output.trans h1.output, Nat.le_trans h1.size h2.size, fun k hk hne => (h2.block k (by simpa using hk) hne).trans (h1.block k hk hne)⟩
section
variable {α : Type} {enc : α → List Value} {k : Nat}
/-- Block g is a row with room for cap elements; the first ones are these. -/
def RowL (w : World) (g : Nat) (T : TypeId) (cap k : Nat) (enc : α → List Value) (d : List α) : Prop :=
  ∃ cur : Array Value, w.heap[g]? = some (.cells cur T (0, 0)) ∧ cur.size = cap * k ∧ d.length ≤ cap ∧ ∀ j x, d[j]? = some x → ∀ i u, (enc x)[i]? = some u → cur[j * k + i]? = some u
theorem RowL.own {w : World} {g : Nat} {T : TypeId} {cap : Nat} {d : List α} (h : RowL w g T cap k enc d) (hk : ∀ x, (enc x).length = k) (hc : cap ≤ maxLen) {base : Nat} (hb : base ≤ g) (m : Nat) (hm : m ≤ d.length) :
    OwnL w base T k enc (.slice (some ⟨g, 0, none⟩) m cap) (d.take m) := by
  obtain ⟨cur, hg, hs, hd, hc2⟩ := h
  have hml : (d.take m).length = m := by rw [List.length_take]; omega
  refine ⟨by rw [flat_len hk], Or.inr ⟨g, cap, cur, by rw [hml], hb, hg, by omega, hc, hs, ?_⟩⟩
  rw [hml]
  apply List.ext_getElem?
  intro t
  rw [List.getElem?_take]
  by_cases ht : t < m * k
  · have k0 : 0 < k := by rcases Nat.eq_zero_or_pos k with h | h; · subst h; simp at ht
                          · exact h
    have hj : t / k < m := by rw [Nat.div_lt_iff_lt_mul k0]; exact ht
    have hi : t % k < k := Nat.mod_lt _ k0
    obtain ⟨x, hx⟩ : ∃ x, d[t / k]? = some x := ⟨d[t / k]'(by omega), by simp⟩
    have hf := flat_get hk (d.take m) (t / k) (t % k) x (by rw [List.getElem?_take, if_pos hj]; exact hx) hi
    rw [Nat.div_add_mod' t k] at hf
    have hl2 : t % k < (enc x).length := by rw [hk]; exact hi
    have := hc2 (t / k) x hx (t % k) _ (List.getElem?_eq_getElem hl2)
    rw [Nat.div_add_mod' t k] at this
    rw [if_pos ht, hf, List.getElem?_eq_getElem hl2]
    simpa using this
  · rw [if_neg ht, List.getElem?_eq_none (by rw [flat_len hk, hml]; omega)]
theorem RowL.cell {w : World} {g : Nat} {T : TypeId} {cap : Nat} {d : List α} (h : RowL w g T cap k enc d) {j : Nat} {x : α} (hx : d[j]? = some x) : ∀ i u, (enc x)[i]? = some u → w.cell? ⟨g, j * k + i, none⟩ = some u := by
  obtain ⟨cur, hg, hs, hd, hc⟩ := h
  intro i u hu
  rw [cell_of_row w g _ cur T (0, 0) hg]
  exact hc j x hx i u hu
theorem RowL.of_heap {w w' : World} {g : Nat} {T : TypeId} {cap : Nat} {d : List α} (h : RowL w g T cap k enc d) (hb : w'.heap[g]? = w.heap[g]?) : RowL w' g T cap k enc d := by
  obtain ⟨cur, hg, r⟩ := h
  exact ⟨cur, hb.trans hg, r⟩
theorem RowL.set {w : World} {g : Nat} {T : TypeId} {cap : Nat} {d : List α} (h : RowL w g T cap k enc d) (hk : ∀ x, (enc x).length = k) {j : Nat} (hj : j < d.length) (y : α) : RowL (w.setCells g (j * k) (enc y)) g T cap k enc (d.set j y) := by
  obtain ⟨cur, hg, hs, hd, hc⟩ := h
  obtain ⟨cur', q1, q2, q3⟩ := setCells_row g T (enc y) (j * k) w cur hg
  refine ⟨cur', q1, q2.trans hs, by simpa using hd, fun i x hx t u hu => ?_⟩
  have ht : t < k := by rw [← hk x]; exact (List.getElem?_eq_some_iff.1 hu).1
  have hjk : j * k + k ≤ cap * k := by have := Nat.mul_le_mul_right k (show j + 1 ≤ cap by omega); rwa [Nat.add_mul, Nat.one_mul] at this
  rw [q3, hk y]
  rw [List.getElem?_set] at hx
  by_cases hij : j = i
  · subst hij
    rw [if_pos rfl, if_pos hj] at hx
    cases hx
    rw [if_pos (by omega), show j * k + t - j * k = t by omega]
    exact hu
  · rw [if_neg hij] at hx
    rw [if_neg]
    · exact hc i x hx t u hu
    · rintro ⟨h1, h2, _⟩
      rcases Nat.lt_or_ge i j with h3 | h3
      · have := Nat.mul_le_mul_right k (show i + 1 ≤ j from h3); rw [Nat.add_mul, Nat.one_mul] at this; omega
      · have := Nat.mul_le_mul_right k (show j + 1 ≤ i by omega); rw [Nat.add_mul, Nat.one_mul] at this; omega
/-- The first m stay when cells from m on are written. -/
theorem RowL.tail {w : World} {g : Nat} {T : TypeId} {cap : Nat} {d : List α} (h : RowL w g T cap k enc d) (hk : ∀ x, (enc x).length = k) (m : Nat) (vs : List Value) : RowL (w.setCells g (m * k) vs) g T cap k enc (d.take m) := by
  obtain ⟨cur, hg, hs, hd, hc⟩ := h
  obtain ⟨cur', q1, q2, q3⟩ := setCells_row g T vs (m * k) w cur hg
  refine ⟨cur', q1, q2.trans hs, by rw [List.length_take]; omega, fun i x hx t u hu => ?_⟩
  have ht : t < k := by rw [← hk x]; exact (List.getElem?_eq_some_iff.1 hu).1
  rw [List.getElem?_take] at hx
  split at hx
  · rename_i him
    have := Nat.mul_le_mul_right k (show i + 1 ≤ m from him); rw [Nat.add_mul, Nat.one_mul] at this
    rw [q3, if_neg (by omega)]
    exact hc i x hx t u hu
  · cases hx
end
section
variable {P : Program} (w : World) {ops : Array Oper} {rest : List Oper} {o : Oper} {a : Act} {Q : Exit → Act → World → Prop}
end
end
section
open Go.RowKit Go.Sort

/-! ### append, and where what it leaves lies -/
section
variable {P : Program}
theorem run_append_where (w : World) (t ty e : TypeId) (i : TypeInfo) (z : Value) (size bytes : Nat) (ht : P.underlying t = some (.slice e)) (hi : P.info? e = some i) (hz : i.zero = some z)
    (hsize : i.size = size) (hby : i.bytes = bytes) (hzs : z.cells.size = size) (hsz : 0 < size)
    (v : Value) (n : Nat) (xs : List Value) (hown : w.ownsRow 0 e size v n xs)
    (a : Addr) (m c : Nat) (news : List Value) (hl : news.length = m * size) (hnews : ∀ j u, news[j]? = some u → w.cell? (a.add j) = some u) (h1 : ∀ u ∈ news, u.oneCell' = true)
    (h63 : n + m ≤ maxLen) (hbytes : (n + m) * bytes ≤ 140737488355328) :
    ∃ v' w', (Builtin.append_ #[t, t] ty #[v, .slice (some a) m c]).run P w = .ok v' w' ∧ w'.ownsRow 0 e size v' (n + m) (xs ++ news) ∧ w.grownBy w' v.ownBlock ∧
      (v'.ownBlock = v.ownBlock ∨ ∀ g, v'.ownBlock = some g → w.heap.size ≤ g) := by
  obtain ⟨v', w', hr, h2, h3, h4⟩ := run_append_own (P := P) w 0 t ty e i z size bytes ht hi hz hsize hby hzs hsz v n xs hown a m c news hl hnews h1 h63 hbytes (Nat.zero_le _)
  refine ⟨v', w', hr, h2, h3, ?_⟩
  rcases hown.2 with ⟨rfl, rfl⟩ | ⟨g, cap, cur, rfl, hbg, hg, hnc, hcm, hcs, htake⟩
  · have hx : xs = [] := List.eq_nil_of_length_eq_zero (by simpa using hown.1)
    subst hx
    obtain ⟨v2, w2, hr2, k2, k3, k4⟩ := run_append_own (P := P) w w.heap.size t ty e i z size bytes ht hi hz hsize hby hzs hsz (.slice none 0 0) 0 [] (World.ownsRow_nil _ _ _ _) a m c news hl hnews h1 h63 hbytes (Nat.le_refl _)
    rw [hr] at hr2
    cases hr2
    exact Or.inr fun g hg => (World.ownsRow.lt k2 g hg).1
  · subst hsize hby
    have hsmall : n + m ≤ 9223372036854775807 := by simp only [maxLen] at h63; omega
    by_cases hroom : n + m ≤ cap
    · have hfit : n * i.size + news.length ≤ cur.size := by rw [hl, hcs, ← Nat.add_mul]; exact Nat.mul_le_mul_right _ hroom
      have hr2 := run_append_room (P := P) w t ty e i ht hi g n cap cur hg a m c news hl hnews h1 hroom hfit
      rw [hr] at hr2
      cases hr2
      exact Or.inl rfl
    · have holds : ∀ j u, xs[j]? = some u → w.cell? ((⟨g, 0, none⟩ : Addr).add j) = some u := hown.cells (g := g) rfl
      have hr2 := run_append_grow (P := P) w t ty e i z ht hi hz ⟨g, 0, none⟩ n cap xs hown.1 holds a m c news hl hnews (by omega) (by omega) (growslice_fits (by omega) hbytes)
      rw [hr] at hr2
      cases hr2
      exact Or.inr fun q hq => by cases hq; exact Nat.le_refl _
end

def powB (i : Nat) : Nat := (1023 - i) * 4503599627370496
theorem pow_all : (List.range 1022).all (fun i => floatBits .quo .f64 (powB i) 4611686018427387904 == some (powB (i + 1))) = true := by decide +kernel
theorem pow_step {i : Nat} (h : i < 1022) : floatBits .quo .f64 (powB i) 4611686018427387904 = some (powB (i + 1)) := by
  have h2 := List.all_eq_true.1 pow_all i (List.mem_range.2 h)
  exact eq_of_beq h2
set_option maxRecDepth 100000 in
set_option maxHeartbeats 2000000 in
theorem power_any (w : World) : Calls Tryz.prog 139 #[.int .i64 (-1022)] w fun e w' => e = .returned (.float .f64 (powB 1022)) ∧ w = w' := by
  go_enter Tryz.func139, Tryz.ntmps139
  go_wp2_with fail
  go_loopw [3, 8] (fun s3 s8 wr => ∃ i : Nat, i ≤ 1022 ∧ s8 = .int .i64 i ∧ s3 = .float .f64 (powB i) ∧ w = wr) (fun _ s8 _ => 1022 - (intOf s8).toNat)
  case atStart => exact ⟨0, by omega, rfl, rfl, rfl⟩
  case round =>
    obtain ⟨i, hi, rfl, rfl, rfl⟩ := hrel
    by_cases h : i < 1022
    · have hii : (i : Int) < 1022 := by omega
      have hst := run_float_arith (P := Tryz.prog) w .quo 37 .f64 (powB i) 4611686018427387904 _ (pow_step h)
      generalize hpi : powB i = pi at hst
      generalize hpj : powB (i + 1) = pj at hst
      have HP := Lib.hid hpj
      clear hpi hpj
      go_wp2_with fail
      go_roundw
      case rel => refine ⟨i + 1, by omega, by go_num, ?_, ?_⟩ <;> first | trivial | rw [HP.out]
      case measure => simp [intOf]; omega
    · have he : i = 1022 := by omega
      subst he
      go_wp2_with fail
      go_ret
      exact ⟨rfl, rfl⟩
def absX (x : Nat) : Nat := (bits .andNot .u64 x 9223372036854775808).toNat
theorem Abs_any (x : Nat) (w : World) : Calls Tryz.prog 138 #[.float .f64 x] w fun e w' => e = .returned (.float .f64 (absX x)) ∧ w = w' := by
  go_enter Tryz.func138, Tryz.ntmps138
  go_wp2_with fail
  go_ret
  exact ⟨rfl, rfl⟩
abbrev ordX (a b : Nat) : Option Ordering := (FloatKind.format .f64).order a b
def classX (x : Nat) : Int :=
  if ordX x x != some .eq then 1
  else if ordX (absX x) 9218868437227405311 == some .gt then 2
  else if ordX (absX x) 0 == some .eq then 3
  else if ordX (absX x) (powB 1022) == some .lt then 4 else 5
set_option maxHeartbeats 2000000 in
theorem Class_any (x : Nat) (w : World) : Calls Tryz.prog 126 #[.float .f64 x] w fun e w' => e = .returned (.int .i64 (classX x)) ∧ w = w' := by
  have hc := Abs_any x w
  have hp := power_any w
  have HC := Lib.hid hc
  have HP := Lib.hid hp
  generalize hn : classX x = ans
  have HA := Lib.hid hn
  unfold classX ordX at HA
  generalize absX x = ax at HC HA
  generalize powB 1022 = px at HP HA
  clear hc hp hn
  go_enter Tryz.func126, Tryz.ntmps126
  go_wp2_with (first | (refine (HC.out).mono ?_; rintro e w' ⟨rfl, rfl⟩) | (refine (HP.out).mono ?_; rintro e w' ⟨rfl, rfl⟩))
  all_goals (go_ret; refine ⟨?_, rfl⟩; rw [← HA.out]; simp [*]; done)
end
section
open Go.Shelf Go.RowKit Go.Lib

def Tryz.valid8_ren : Go.Shelf.Ren := ⟨fun | 196 => 86 | 259 => 107 | n => n, fun | 9 => 9 | 4 => 4 | 3 => 3 | 5 => 5 | 12 => 12 | 119 => 135 | 0 => 0 | 46 => 130 | 139 => 138 | 138 => 137 | 53 => 90 | n => n, fun | 3 => 1 | 4 => 2 | n => n⟩
set_option maxRecDepth 100000 in
theorem Tryz.valid8 : Lays.n196 Tryz.prog Tryz.valid8_ren := {
  mixed := by kernel_rfl
  f196 := Tryz.func86.trans (congrArg some (by kernel_rfl))
  f259 := Tryz.func107.trans (congrArg some (by kernel_rfl))
  t0 := Tryz.underlying0
  a0 := Tryz.isAgg0
  z0 := Tryz.sizeOf0
  v0 := Tryz.zeroValue0
  t3 := Tryz.underlying3
  a3 := Tryz.isAgg3
  z3 := Tryz.sizeOf3
  v3 := Tryz.zeroValue3
  t4 := Tryz.underlying4
  a4 := Tryz.isAgg4
  z4 := Tryz.sizeOf4
  v4 := Tryz.zeroValue4
  t5 := Tryz.underlying5
  a5 := Tryz.isAgg5
  z5 := Tryz.sizeOf5
  v5 := Tryz.zeroValue5
  t9 := Tryz.underlying9
  a9 := Tryz.isAgg9
  z9 := Tryz.sizeOf9
  v9 := Tryz.zeroValue9
  t12 := Tryz.underlying12
  a12 := Tryz.isAgg12
  z12 := Tryz.sizeOf12
  v12 := Tryz.zeroValue12
  t46 := Tryz.underlying130
  a46 := Tryz.isAgg130
  z46 := Tryz.sizeOf130
  v46 := Tryz.zeroValue130
  t53 := Tryz.underlying90
  a53 := Tryz.isAgg90
  z53 := Tryz.sizeOf90
  v53 := Tryz.zeroValue90
  t119 := Tryz.underlying135
  a119 := Tryz.isAgg135
  z119 := Tryz.sizeOf135
  t138 := Tryz.underlying137
  a138 := Tryz.isAgg137
  z138 := Tryz.sizeOf137
  v138 := Tryz.zeroValue137
  t139 := Tryz.underlying138
  a139 := Tryz.isAgg138
  z139 := Tryz.sizeOf138
  v139 := Tryz.zeroValue138
  g3 := by kernel_rfl
  g4 := by kernel_rfl
}
def Tabs (w : World) : Prop := Lib.Utf8Tabs (Tryz.valid8_ren.g 3) (Tryz.valid8_ren.g 4) w
theorem validString_any (s : ByteArray) (w : World) (hs : s.size ≤ 9223372036854775807) (hT : Tabs w) :
    Calls Tryz.prog 86 #[.string s] w fun e w' => e = .returned (.bool (Lib.validD s.data.toList)) ∧ Below w.heap.size w w' :=
  Any.utf8_ValidString Tryz.valid8 s w hs hT
end
section
open Go.RowKit Go.Sort

/-! ### the two orders -/
def adCmp (a b : Ad) : Int := orI (cmpI a.2 b.2) (cmpI a.1 b.1)
def adLt (a b : Ad) : Bool := decide (a.2 < b.2) || (decide (a.2 = b.2) && decide (a.1 < b.1))
theorem adCmp_lt (a b : Ad) : decide (adCmp a b < 0) = adLt a b := by
  unfold adCmp adLt orI cmpI
  by_cases h1 : a.2 < b.2
  · have : ¬ a.2 = b.2 := by omega
    simp [h1]
  · by_cases h2 : b.2 < a.2
    · have : ¬ a.2 = b.2 := by omega
      simp [h1, h2, this]
    · have : a.2 = b.2 := by omega
      by_cases h3 : a.1 < b.1
      · simp [this, h3]
      · by_cases h4 : b.1 < a.1 <;> simp [this, h3, h4]
theorem adLt_iff (a b : Ad) : adLt a b = true ↔ a.2 < b.2 ∨ a.2 = b.2 ∧ a.1 < b.1 := by simp [adLt]
theorem adLt_false (a b : Ad) : adLt a b = false ↔ ¬ (a.2 < b.2 ∨ a.2 = b.2 ∧ a.1 < b.1) := by rw [← adLt_iff]; simp
theorem swo_ad : SWO adLt where
  irrefl x := by rw [adLt_false]; omega
  trans x y z h1 h2 := by rw [adLt_iff] at *; omega
  ntrans x y z h1 h2 := by rw [adLt_false] at *; omega
theorem tot_ad (x y : Ad) (h1 : adLt x y = false) (h2 : adLt y x = false) : x = y := by
  rw [adLt_false] at *; rw [Prod.ext_iff]; omega
/-! ### slices.SortFunc at the two -/
def sortL {α : Type} (lt : α → α → Bool) (l : List α) : List α := l.mergeSort fun x y => !lt y x
theorem adC_len (x : Ad) : (adC x).length = 2 := rfl
theorem adC_one (x : Ad) : ∀ v ∈ adC x, v.oneCell' = true := by intro v hv; simp [adC] at hv; rcases hv with rfl | rfl <;> rfl
end
end Go.Proofs.YtideclfpbpjebaaGreatDoor
