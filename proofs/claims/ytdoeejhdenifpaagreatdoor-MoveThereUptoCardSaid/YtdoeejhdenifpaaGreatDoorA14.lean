import Derived.Test.YtdoeejhdenifpaaGreatDoorZ1
import Derived.Test.YtdoeejhdenifpaaGreatDoorA10
import Derived.Test.YtdoeejhdenifpaaGreatDoorR6
import Derived.Test.YtdoeejhdenifpaaGreatDoorA12
import Derived.RangeFuncNested
import Derived.Test.YtdoeejhdenifpaaGreatDoorA13
import Derived.Deep.CutBlock
import Derived.Deep.DeepCutAuto
import Derived.Test.YtdoeejhdenifpaaGreatDoorA7
import Derived.Test.YtdoeejhdenifpaaGreatDoorR5
/- A loop over an iterator that writes rows of its own between its rounds. -/
namespace Go.Proofs.YtdoeejhdenifpaaGreatDoor
open Go.RowKit

/-- What hangs on the blocks below B alone. -/
def FarFrom {β : Type} (B : Nat) (J : β → World → Prop) : Prop := ∀ s W W', J s W → Below B W W' → J s W'
section
variable {α : Type} {n : Nat} {P : Program}
/-- As SeqTold; the iterator may write what it made itself. -/
def SeqFar (n : Nat) (P : Program) (g : Nat) (lb : Array Value) (encs : α → Array Value) (Kp : World → World → Prop) (T : World → α → World → Prop) (S Sp : List α → Prop) (N : Nat) (w0 : World) : Prop :=
  ∀ (l : Nat) (J Jx : List α → World → Prop) (W : World), Below w0.heap.size w0 W → FarFrom W.heap.size J → FarFrom W.heap.size Jx →
    (∀ pre x W1, J pre W1 → (∃ V, J pre V ∧ T V x W1) → pre.length < N → YieldAt Fence.wide (n - 1) P l (encs x) W1 fun e W' => (e = .returned (.bool true) ∧ J (pre ++ [x]) W' ∧ Kp W1 W') ∨ (e = .returned (.bool false) ∧ Jx (pre ++ [x]) W')) →
    J [] W →
    CallsIn Fence.wide n P g (#[.func (.yield l) #[] #[]] ++ lb) W fun e W' => (∃ v, e = .returned v) ∧ ((∃ xs, S xs ∧ J xs W') ∨ (∃ pre, Sp pre ∧ Jx pre W'))
theorem FarFrom.alloc {β : Type} {B : Nat} {J : β → World → Prop} (h : FarFrom B J) {s : β} {W : World} (o : Obj) (hs : J s W) (hB : B ≤ W.heap.size) : J s (W.alloc o) := h s W _ hs ((Below.refl _ _).alloc hB o)
theorem FarFrom.putObj {β : Type} {B : Nat} {J : β → World → Prop} (h : FarFrom B J) {s : β} {W : World} {l : Nat} (o' : Obj) (hs : J s W) (hl : B ≤ l) : J s (W.putObj l o') :=
  h s W _ hs ⟨(grownBy_putObj' W l o').os, (grownBy_putObj' W l o').tape, (grownBy_putObj' W l o').output, (grownBy_putObj' W l o').size, fun k hk => World.putObj_heap_other (by omega)⟩
theorem Books.far {D : Nat} {L : Loop} {W W' : World} (h : Books D L W) (hb : Below (D + 2) W W') : Books D L W' := ⟨(hb.block _ (by omega)).trans h.loop, (hb.block _ (by omega)).trans h.late⟩
theorem rangeFunc_far {g : Operand} {ps : Array Tmp} {assign body : Code} {Q : Exit → Act → World → Prop} {a : Act} {w : World} (h1 : 1 ≤ n) {gf : Nat} {lb : Array Value} (hg : a.eval g = .func (.func gf) #[] lb) (eg : ∀ args w, (callFunc gf args).run P w = .ok (.enter gf args) w)
    {encs : α → Array Value} {Kp : World → World → Prop} {T : World → α → World → Prop} {S Sp : List α → Prop} {N : Nat} {w0 : World} (hseq : SeqFar (n - 1) P gf lb encs Kp T S Sp N w0)
    (hKt : ∀ {A B C : World}, Kp A B → Kp B C → Kp A C) (hKb : ∀ (W : World) (l : Nat) (o o' : Obj), w.heap.size ≤ l → W.heap[l]? = some o → o.isCells = false → o.isWalk = false → Kp W (W.putObj l o')) (hb0 : Below w0.heap.size w0 w) (hps : ∀ x, (encs x).size = ps.size)
    (I : List α → World → Prop) (Ix : Code → List α → World → Prop) (hI : FarFrom w.heap.size I) (hIx : ∀ c, FarFrom w.heap.size (Ix c)) (h0 : I [] w) (Ax : α → Act → World → Prop) (hAx : ∀ x a', OwnFrom w.heap.size (fun (_ : Unit) W => Ax x a' W))
    (hassign : ∀ (l : Nat) (pre : List α) (x : α) (W : World) (K : Act → World → Prop), I pre W → (∃ V, I pre V ∧ T V x W) → (∀ a' W', KeepsFrom w.heap.size W W' → Kp W W' → I pre W' → Ax x a' W' → K a' W') →
      assign.wpIn (Fence.wide.inRound l) (n - 1 - 1) P (Exit.then K (fun _ _ _ => False)) { tmps := (ps.zip (encs x)).foldl (fun t (p, v) => t.setIfInBounds p v) a.tmps, defers := [] } W)
    (hbody : ∀ (l : Nat) (pre : List α) (x : α) (a' : Act) (W : World), w.heap.size ≤ l → (∃ r, W.heap[l]? = some (.loop r)) → I pre W → Ax x a' W → pre.length < N → body.wpIn (Fence.wide.inRound l) (n - 1 - 1) P (ownPostG w.heap.size Kp I Ix (pre ++ [x]) W) a' W)
    (hdone : ∀ (D : Nat) (xs : List α) (W : World), w.heap.size ≤ D → S xs → I xs W → W.heap[D]? = some (.deferred (some [])) → Q .normal { a with defers := { target := .collected D, args := #[] } :: a.defers } W)
    (hstop : ∀ (D : Nat) (c : Code) (pre : List α) (W : World), w.heap.size ≤ D → Sp pre → Ix c pre W → W.heap[D]? = some (.deferred (some [])) → c.wpIn Fence.wide n P Q { a with defers := { target := .collected D, args := #[] } :: a.defers } W) :
    (Code.rangeFunc g ps assign body).wpIn Fence.wide n P Q a w := by
  refine wpIn_rangeFunc fun fn hfn => ?_
  let L : LoopState → Option Code → Loop := fun st pe => { state := st, pending := pe, fn, tmps := a.tmps, params := ps, assign, body, defers := w.heap.size }
  obtain ⟨V, hV⟩ : ∃ V, (w.alloc (.deferred (some []))).alloc (.loop (L .ready none)) = V := ⟨_, rfl⟩
  have hVB : Books w.heap.size (L .ready none) V := by
    rw [← hV]
    refine ⟨?_, (Below.heap_alloc _ _ _ (by simp)).trans (World.alloc_heap_new w _)⟩
    have := World.alloc_heap_new (w.alloc (.deferred (some []))) (.loop (L .ready none))
    rwa [World.size_alloc] at this
  have hVs : V.heap.size = w.heap.size + 2 := by rw [← hV]; simp
  have hVI : I [] V := by rw [← hV]; exact hI.alloc _ (hI.alloc _ h0 (Nat.le_refl _)) (by simp)
  have hVb : Below w0.heap.size w0 V := by rw [← hV]; exact hb0.trans ((((Below.refl _ w).alloc (Nat.le_refl _) _).alloc (by simp) _).mono hb0.size)
  refine ⟨w.heap.size + 1, [{ target := .collected w.heap.size, args := #[] }], V, { target := .fn (.func gf) lb, args := #[.func (.yield (w.heap.size + 1)) #[] #[]] }, V, gf, #[.func (.yield (w.heap.size + 1)) #[] #[]] ++ lb, V, ?_, ?_, fun _ _ => trivial, by simp [invoke, go_sem, eg], fun _ => h1, ?_⟩
  · rw [← hV]; exact run_enterLoop_outer _ _ _ _ _
  · simp only [resolve, hg]; simp [go_sem]
  refine (hseq (w.heap.size + 1) (fun pre W => I pre W ∧ Books w.heap.size (L .ready none) W) (fun pre W => ∃ c, Ix c pre W ∧ Books w.heap.size (L .done (some c)) W) V hVb
    (fun s A B hs hb => ⟨hI s A B hs.1 (hb.mono (by omega)), hs.2.far (hb.mono (by omega))⟩)
    (fun s A B hs hb => let ⟨c, hc, hk⟩ := hs; ⟨c, hIx c s A B hc (hb.mono (by omega)), hk.far (hb.mono (by omega))⟩) ?_ ⟨hVI, hVB⟩).mono ?_
  · rintro pre x W ⟨hi, hb⟩ ⟨V0, hV0, ht⟩ hlen
    have hy := run_yield (P := P) (args := encs x) hb.loop (hps x)
    refine ⟨fn, _, assign, body, hy, roundIn_of_wpIn hfn (hassign _ pre x W _ hi ⟨V0, hV0.1, ht⟩ ?_)⟩
    intro a' Wa hka hpa hia haa
    have hba := hb.keep hka
    refine ⟨_, run_beginRound hba.loop rfl, ?_⟩
    have hbb : Books w.heap.size { L .ready none with state := .busy } (Wa.putObj (w.heap.size + 1) (.loop { L .ready none with state := .busy })) := hba.turn
    have hpb : Kp Wa (Wa.putObj (w.heap.size + 1) (.loop { L .ready none with state := .busy })) := hKb _ _ _ _ (by omega) hba.loop rfl rfl
    refine wpIn_mono (hbody _ pre x a' _ (by omega) ⟨_, hbb.loop⟩ (hI.putObj _ hia (by omega)) ((hAx x a').putObj (s := ()) _ haa (by omega) hba.loop rfl) hlen) ?_
    have out : ∀ (jump : Option Code) (Wz : World), KeepsFrom w.heap.size (Wa.putObj (w.heap.size + 1) (.loop { L .ready none with state := .busy })) Wz →
        (Instr.endRound (w.heap.size + 1) jump).run P Wz = .ok (.bool jump.isNone) (Wz.putObj (w.heap.size + 1) (.loop (L (if jump.isNone then .ready else .done) jump))) ∧ Wz.heap[w.heap.size + 1]? = some (.loop { L .ready none with state := .busy }) ∧ Books w.heap.size (L (if jump.isNone then .ready else .done) jump) (Wz.putObj (w.heap.size + 1) (.loop (L (if jump.isNone then .ready else .done) jump))) := fun jump Wz hkz =>
      have hbz := hbb.keep hkz
      ⟨run_endRound (P := P) jump hbz.loop, hbz.loop, hbz.turn⟩
    have gone : ∀ (c : Code) (Wz : World), KeepsFrom w.heap.size (Wa.putObj (w.heap.size + 1) (.loop { L .ready none with state := .busy })) Wz → Ix c (pre ++ [x]) Wz →
        (Instr.endRound (w.heap.size + 1) (some c)).run P Wz = .ok (.bool false) (Wz.putObj (w.heap.size + 1) (.loop (L .done (some c)))) ∧ ∃ c', Ix c' (pre ++ [x]) (Wz.putObj (w.heap.size + 1) (.loop (L .done (some c)))) ∧ Books w.heap.size (L .done (some c')) (Wz.putObj (w.heap.size + 1) (.loop (L .done (some c)))) := fun c Wz hkz hiz => by
      obtain ⟨q1, q2, q3⟩ := out (some c) Wz hkz
      exact ⟨q1, c, (hIx c).putObj _ hiz (by omega), q3⟩
    rintro e az Wz hz
    cases e with
    | normal =>
      obtain ⟨hkz, hpz, hiz⟩ := hz
      obtain ⟨q1, q2, q3⟩ := out none Wz hkz
      exact ⟨_, _, q1, .inl ⟨rfl, ⟨hI.putObj _ hiz (by omega), q3⟩, hKt hpa (hKt (hKt hpb hpz) (hKb _ _ _ _ (by omega) q2 rfl rfl))⟩⟩
    | ret => obtain ⟨q1, q2⟩ := gone .ret Wz hz.1 hz.2; exact ⟨_, _, q1, .inr ⟨rfl, q2⟩⟩
    | exit id => obtain ⟨q1, q2⟩ := gone (.exit id) Wz hz.1 hz.2; exact ⟨_, _, q1, .inr ⟨rfl, q2⟩⟩
    | goto t => obtain ⟨q1, q2⟩ := gone (.goto t) Wz hz.1 hz.2; exact ⟨_, _, q1, .inr ⟨rfl, q2⟩⟩
    | panic ch => exact hz.elim
    | outgrown => exact hz.elim
  · rintro e Wz ⟨⟨v, rfl⟩, (⟨xs, hS, hi, hb⟩ | ⟨pre, hSp, c, hi, hb⟩)⟩
    · exact ⟨none, _, run_endLoop (P := P) hb.loop (by simp [L]), hdone _ xs _ (Nat.le_refl _) hS (hI.putObj _ hi (by omega)) ((World.putObj_heap_other (by omega)).trans hb.late)⟩
    · exact ⟨some c, _, run_endLoop (P := P) hb.loop (by simp [L]), hstop _ c pre _ (Nat.le_refl _) hSp ((hIx c).putObj _ hi (by omega)) ((World.putObj_heap_other (by omega)).trans hb.late)⟩
end
end Go.Proofs.YtdoeejhdenifpaaGreatDoor
/- addr.Cells' iterator: it tells cells of the area. -/
namespace Go.Proofs.YtdoeejhdenifpaaGreatDoor
open Go.RowKit Go.Sort Go.Maps Go.Shelf
attribute [local go_sem] Oper.semAt_some

/-- What a round keeps: all rows. -/
structure KC (W W' : World) : Prop where
  size : W.heap.size ≤ W'.heap.size
  same : ∀ (k : Nat) (o : Obj), W.heap[k]? = some o → o.isCells = true → W'.heap[k]? = some o
theorem KC.refl (W : World) : KC W W := ⟨Nat.le_refl _, fun _ _ h _ => h⟩
theorem KC.trans {A B C : World} (h : KC A B) (k : KC B C) : KC A C := ⟨Nat.le_trans h.size k.size, fun b o e ho => k.same b o (h.same b o e ho) ho⟩
theorem KC.of_xt {W W' : World} (h : Xt W W') : KC W W' := ⟨h.size, fun k _ e _ => (h.block k (Array.getElem?_eq_some_iff.1 e).1).trans e⟩
theorem KC.putObj {W : World} {l : Nat} {o : Obj} (o' : Obj) (ho : W.heap[l]? = some o) (hc : o.isCells = false) : KC W (W.putObj l o') :=
  ⟨(grownBy_putObj' W l o').size, fun k ok hk hok => ((grownBy_putObj' W l o').block k (Array.getElem?_eq_some_iff.1 hk).1 (fun e => by have := Option.some.inj e; subst this; rw [ho] at hk; cases hk; rw [hc] at hok; cases hok)).trans hk⟩
def atOf (w : World) : Value → Ad
  | .pointer (some p) => (intOf ((w.cell? ⟨p.block, 0, none⟩).getD undef), intOf ((w.cell? ⟨p.block, 1, none⟩).getD undef))
  | _ => (0, 0)
theorem atOf_row {w : World} {k : Nat} {x y : Int} {T : TypeId} (h : w.heap[k]? = some (.cells #[.int .i64 x, .int .i64 y] T (0, 0))) : atOf w (.pointer (some ⟨k, 0, none⟩)) = (x, y) := by
  simp [atOf, World.cell?, h, intOf]
/-- How many cells are left. -/
def leftN (f : ArT) (a : Ad) : Nat := ((f.d - a.2) * (f.c - f.a + 1) + (f.c - a.1)).toNat + 1
theorem inA_le {f : ArT} {a : Ad} (h : inA f a = true) : validA f.a f.b f.c f.d = true ∧ f.a ≤ a.1 ∧ a.1 ≤ f.c ∧ f.b ≤ a.2 ∧ a.2 ≤ f.d := by
  unfold inA inB at h
  simp only [Bool.and_eq_true, decide_eq_true_eq] at h
  exact ⟨h.1.1.1.1, h.1.1.1.2, h.1.1.2, h.1.2, h.2⟩
theorem inA_of {f : ArT} {a : Ad} (hv : validA f.a f.b f.c f.d = true) (h : f.a ≤ a.1 ∧ a.1 ≤ f.c ∧ f.b ≤ a.2 ∧ a.2 ≤ f.d) : inA f a = true := by
  unfold inA inB
  simp only [Bool.and_eq_true, decide_eq_true_eq]
  exact ⟨⟨⟨⟨hv, h.1⟩, h.2.1⟩, h.2.2.1⟩, h.2.2.2⟩
theorem left_one {f : ArT} {x y : Int} (h : inA f (x, y) = true) (hx : x < f.c) : leftN f (x + 1, y) + 1 = leftN f (x, y) := by
  obtain ⟨_, h1, h2, h3, h4⟩ := inA_le h
  unfold leftN
  have hp : 0 ≤ (f.d - y) * (f.c - f.a + 1) := Int.mul_nonneg (by simp only at h4; omega) (by simp only at h1 h2; omega)
  obtain ⟨p, hpe⟩ : ∃ p, (f.d - y) * (f.c - f.a + 1) = p := ⟨_, rfl⟩
  simp only
  rw [hpe] at hp ⊢
  omega
theorem left_row {f : ArT} {x y : Int} (h : inA f (x, y) = true) (hx : x = f.c) (hy : y < f.d) : leftN f (f.a, y + 1) + 1 = leftN f (x, y) := by
  obtain ⟨_, h1, h2, h3, h4⟩ := inA_le h
  unfold leftN
  simp only at h1 h2 h3 h4 ⊢
  have hp : 0 ≤ (f.d - (y + 1)) * (f.c - f.a + 1) := Int.mul_nonneg (by omega) (by omega)
  have e : (f.d - y) * (f.c - f.a + 1) = (f.d - (y + 1)) * (f.c - f.a + 1) + (f.c - f.a + 1) := by
    have : f.d - y = (f.d - (y + 1)) + 1 := by omega
    rw [this, Int.add_mul, Int.one_mul]
  rw [e]
  obtain ⟨p, hpe⟩ : ∃ p, (f.d - (y + 1)) * (f.c - f.a + 1) = p := ⟨_, rfl⟩
  rw [hpe] at hp ⊢
  omega
theorem left_pos (f : ArT) (a : Ad) : 0 < leftN f a := Nat.succ_pos _
theorem validA_le {a b c d : Int} (h : validA a b c d = true) : 1 ≤ a ∧ a ≤ c ∧ c ≤ 256 ∧ 1 ≤ b ∧ b ≤ d ∧ d ≤ 4096 := by
  unfold validA at h
  simp only [Bool.and_eq_true, decide_eq_true_eq] at h
  have h1 := validB_le h.1.1.1
  have h2 := validB_le h.1.1.2
  omega
/-- The cells from one on, in order. -/
def restL (f : ArT) : Nat → Int → Int → List Ad
  | 0, _, _ => []
  | n + 1, x, y => (x, y) :: (if x = f.c ∧ y = f.d then [] else if x < f.c then restL f n (x + 1) y else restL f n f.a (y + 1))
def cellsL (f : ArT) : List Ad := restL f (leftN f (f.a, f.b)) f.a f.b
theorem rest_end (f : ArT) : restL f (leftN f (f.c, f.d)) f.c f.d = [(f.c, f.d)] := by
  unfold leftN
  simp only [Int.sub_self, Int.zero_mul, Int.add_zero, Int.toNat_zero]
  rw [restL, if_pos ⟨rfl, rfl⟩]
theorem rest_row {f : ArT} {y : Int} (h : inA f (f.c, y) = true) (hy : y < f.d) : restL f (leftN f (f.c, y)) f.c y = (f.c, y) :: restL f (leftN f (f.a, y + 1)) f.a (y + 1) := by
  rw [← left_row h rfl hy, restL, if_neg (by omega), if_neg (by omega)]
theorem rest_one {f : ArT} {x y : Int} (h : inA f (x, y) = true) (hx : x < f.c) : restL f (leftN f (x, y)) x y = (x, y) :: restL f (leftN f (x + 1, y)) (x + 1) y := by
  rw [← left_one h hx, restL, if_neg (by omega), if_pos hx]
theorem pre_of {pre l k : List Ad} {z : Ad} (h : pre ++ z :: l = k) : pre ++ [z] <+: k := ⟨l, by rw [← h]; simp⟩
abbrev encA (x : Ad) : Array Value := #[adW x]
set_option maxRecDepth 100000 in
set_option maxHeartbeats 4000000 in
theorem cells1_told (n b : Nat) (f : ArT) (w0 : World) (hr : w0.heap[b]? = some (.cells #[.int .i64 f.a, .int .i64 f.b, .int .i64 f.c, .int .i64 f.d] 26 (0, 0))) (hv : validA f.a f.b f.c f.d = true) :
    SeqFar n Tryz.prog 79 #[.pointer (some ⟨b, 0, none⟩)] encA KC (fun _ x _ => inA f x = true) (fun xs => xs = cellsL f) (fun pre => pre <+: cellsL f) (leftN f (f.a, f.b)) w0 := fun l J Jx W hB hJ _ hY h0 => by
  have hx : Xt w0 W := hB
  have HR := Lib.hid (rowX hx hr)
  have HV := Lib.hid hv
  have hvb := validA_le hv
  have HY := Lib.hid (fun pre x W1 hj ht hl => yield_any (m' := 9 - 1) (hY pre x W1 hj ⟨W1, hj, ht⟩ hl))
  have HJ := Lib.hid (fun pre X Y (h : J pre X) (hx : Below W.heap.size X Y) => hJ pre X Y h hx)
  have HJ0 := Lib.hid h0
  have HVA := Lib.hid (fun V => validArea_any f.a f.b f.c f.d V)
  rw [hv] at HVA
  clear hY h0 hJ hr hx hB
  refine callsIn_wide.2 ((callsIn_wide (n := 9)).1 ?_)
  have hf : Fence.wide.fn 40 := trivial
  obtain ⟨⟨a0, a1, a2, a3⟩, _⟩ := cells4 HR.out
  refine callsIn_of_wp Tryz.func79 rfl trivial ?_ rfl
  simp only [Tryz.ntmps79, List.size_toArray, List.length_cons, List.length_nil, Nat.reduceAdd, Nat.reduceSub, Array.replicate_succ, Array.replicate_zero, List.push_toArray, List.append_toArray, List.nil_append, List.cons_append]
  gi_wp2_with (first
    | (gi_at_call 40; refine ((callsIn_wide (n := 9 - 1)).2 (HVA.out _)).mono ?_; rintro e w1 ⟨rfl, hg1⟩; have HX1 : Hid (Xt W w1) := hg1.xt; obtain ⟨⟨b0, b1, b2, b3⟩, _⟩ := cells4 (rowX HX1.out HR.out); clear hg1))
  obtain ⟨w2, hw2⟩ : ∃ w2, w1.alloc (.cells #[.int .i64 f.a, .int .i64 f.b] 24) = w2 := ⟨_, rfl⟩
  have HX2 : Hid (Xt W w2) := by unfold Hid; rw [← hw2]; exact HX1.out.alloc _
  have HK2 : Hid (w2.heap[w1.heap.size]? = some (.cells #[.int .i64 f.a, .int .i64 f.b] 24 (0, 0))) := by unfold Hid; rw [← hw2]; exact (MapKept.heap_alloc w1 _).1
  rw [hw2]
  clear hw2
  gi_loopw [3] (fun s3 wr => ∃ (k : Nat) (x y : Int) (pre : List Ad), s3 = .pointer (some ⟨k, 0, none⟩) ∧ Hid (KC W wr) ∧ Hid (J pre wr) ∧ Hid (wr.heap[k]? = some (.cells #[.int .i64 x, .int .i64 y] 24 (0, 0))) ∧ Hid (inA f (x, y) = true) ∧ Hid (pre.length + leftN f (x, y) = leftN f (f.a, f.b)) ∧ Hid (pre ++ restL f (leftN f (x, y)) x y = cellsL f) ∧ W.heap.size ≤ k) (fun s3 wr => leftN f (atOf wr s3))
  case atStart =>
    exact ⟨w1.heap.size, f.a, f.b, [], rfl, KC.of_xt HX2.out, HJ.out _ _ _ HJ0.out HX2.out, HK2, inA_of HV.out (by simp only; omega), (by unfold Hid; simp), rfl, HX1.out.size⟩
  case round =>
    obtain ⟨k, x, y, pre, rfl, HK, HJp, HRk, HIN, HLF, HRS, hkb⟩ := hrel
    have hin := inA_le HIN.out
    simp only at hin
    obtain ⟨k0, k1, kf0, kf1⟩ := cells2 HRk.out
    obtain ⟨⟨c0, c1, c2, c3⟩, _⟩ := cells4 (HK.out.same _ _ HR.out rfl)
    have hwx : IntKind.i64.wrap (x + 1) = x + 1 := wrap_idz (by omega) (by omega)
    have hwy : IntKind.i64.wrap (y + 1) = y + 1 := wrap_idz (by omega) (by omega)
    have hbk : k ≠ b := by have := (Array.getElem?_eq_some_iff.1 HR.out).1; omega
    have hbk' : b ≠ k := fun e => hbk e.symm
    obtain ⟨fn, tmps, assign, body, hy, hR⟩ := HY.out pre (x, y) wr HJp.out HIN.out (by have := HLF.out; have := left_pos f (x, y); omega)
    dsimp only [encA, adW] at hy
    by_cases hto : x = f.c ∧ y = f.d
    · obtain ⟨rfl, rfl⟩ := hto
      gi_wp2
      refine hR.mono ?_
      rintro e w3 (⟨rfl, hJ3, hk3⟩ | ⟨rfl, hJ3⟩)
      · have HJ3 := Lib.hid hJ3
        have HK3 := Lib.hid hk3
        obtain ⟨e0, e1, ef0, ef1⟩ := cells2 (hk3.same _ _ HRk.out rfl)
        obtain ⟨⟨g0, g1, g2, g3⟩, _⟩ := cells4 ((HK.out.trans hk3).same _ _ HR.out rfl)
        clear hk3 hJ3 hR hy
        gi_wp2
        refine bodyPost_ret (results_none rfl _ _ _) rfl ?_
        exact ⟨⟨_, rfl⟩, Or.inl ⟨_, by have := HRS.out; rw [rest_end] at this; exact this, HJ3.out⟩⟩
      · have HJ3 := Lib.hid hJ3
        clear hJ3 hR hy
        gi_wp2
        refine bodyPost_ret (results_none rfl _ _ _) rfl ?_
        exact ⟨⟨_, rfl⟩, Or.inr ⟨_, by have := HRS.out; rw [rest_end] at this; exact pre_of this, HJ3.out⟩⟩
    · by_cases hx : x = f.c
      · subst hx
        have hy1 : y < f.d := by omega
        have hgt : f.c < f.c + 1 := by omega
        have hne : ¬ y = f.d := by omega
        gi_wp2
        refine hR.mono ?_
        rintro e w3 (⟨rfl, hJ3, hk3⟩ | ⟨rfl, hJ3⟩)
        · have HJ3 := Lib.hid hJ3
          have HK3 := Lib.hid hk3
          obtain ⟨e0, e1, ef0, ef1⟩ := cells2 (hk3.same _ _ HRk.out rfl)
          obtain ⟨⟨g0, g1, g2, g3⟩, _⟩ := cells4 ((HK.out.trans hk3).same _ _ HR.out rfl)
          clear hk3 hJ3 hR hy
          gi_wp2
          have HKW := Lib.hid (HK.out.trans HK3.out)
          have hb : Below W.heap.size w3 (((w3.setCell ⟨k, 0, none⟩ (Value.int .i64 (f.c + 1))).setCell ⟨k, 0, none⟩ (Value.int .i64 f.a)).setCell ⟨k, 1, none⟩ (Value.int .i64 (y + 1))) := (((Below.refl _ w3).setCell hkb _).setCell hkb _).setCell hkb _
          have hbA := hb.alloc (by have := hb.size; have := HKW.out.size; omega) (Obj.cells #[Value.int .i64 f.a, Value.int .i64 (y + 1)] 24)
          go_roundw
          case rel =>
            refine ⟨_, f.a, y + 1, pre ++ [(f.c, y)], rfl, ⟨Nat.le_trans HKW.out.size hbA.size, fun k o hk ho => ((hbA.block k (Array.getElem?_eq_some_iff.1 hk).1).trans (HKW.out.same k o hk ho))⟩, HJ.out _ _ _ HJ3.out hbA, ?_, inA_of HV.out (by simp only; omega), ?_, ?_, ?_⟩
            · unfold Hid; exact (by simpa using (MapKept.heap_alloc (((w3.setCell ⟨k, 0, none⟩ (Value.int .i64 (f.c + 1))).setCell ⟨k, 0, none⟩ (Value.int .i64 f.a)).setCell ⟨k, 1, none⟩ (Value.int .i64 (y + 1))) (Obj.cells #[Value.int .i64 f.a, Value.int .i64 (y + 1)] 24)).1)
            · have h1 := HLF.out
              have h2 := left_row HIN.out rfl hy1
              unfold Hid
              rw [List.length_append, List.length_singleton]
              omega
            · have h1 := HRS.out
              rw [rest_row HIN.out hy1] at h1
              unfold Hid; rw [← h1]; simp
            · exact HKW.out.size
          case measure =>
            rw [atOf_row HRk.out, atOf_row (x := f.a) (y := y + 1) (T := 24) (by simpa using (MapKept.heap_alloc (((w3.setCell ⟨k, 0, none⟩ (Value.int .i64 (f.c + 1))).setCell ⟨k, 0, none⟩ (Value.int .i64 f.a)).setCell ⟨k, 1, none⟩ (Value.int .i64 (y + 1))) (Obj.cells #[Value.int .i64 f.a, Value.int .i64 (y + 1)] 24)).1)]
            have h2 := left_row HIN.out rfl hy1
            omega
        · have HJ3 := Lib.hid hJ3
          clear hJ3 hR hy
          gi_wp2
          refine bodyPost_ret (results_none rfl _ _ _) rfl ?_
          exact ⟨⟨_, rfl⟩, Or.inr ⟨_, by have := HRS.out; rw [rest_row HIN.out hy1] at this; exact pre_of this, HJ3.out⟩⟩
      · have hx1 : x < f.c := by omega
        have hgt : ¬ f.c < x + 1 := by omega
        gi_wp2
        refine hR.mono ?_
        rintro e w3 (⟨rfl, hJ3, hk3⟩ | ⟨rfl, hJ3⟩)
        · have HJ3 := Lib.hid hJ3
          have HK3 := Lib.hid hk3
          obtain ⟨e0, e1, ef0, ef1⟩ := cells2 (hk3.same _ _ HRk.out rfl)
          obtain ⟨⟨g0, g1, g2, g3⟩, _⟩ := cells4 ((HK.out.trans hk3).same _ _ HR.out rfl)
          clear hk3 hJ3 hR hy
          gi_wp2
          have HKW := Lib.hid (HK.out.trans HK3.out)
          have hb : Below W.heap.size w3 (w3.setCell ⟨k, 0, none⟩ (Value.int .i64 (x + 1))) := (Below.refl _ w3).setCell hkb _
          have hbA := hb.alloc (by have := hb.size; have := HKW.out.size; omega) (Obj.cells #[Value.int .i64 (x + 1), Value.int .i64 y] 24)
          go_roundw
          case rel =>
            refine ⟨_, x + 1, y, pre ++ [(x, y)], rfl, ⟨Nat.le_trans HKW.out.size hbA.size, fun k o hk ho => ((hbA.block k (Array.getElem?_eq_some_iff.1 hk).1).trans (HKW.out.same k o hk ho))⟩, HJ.out _ _ _ HJ3.out hbA, ?_, inA_of HV.out (by simp only; omega), ?_, ?_, ?_⟩
            · unfold Hid; exact (by simpa using (MapKept.heap_alloc (w3.setCell ⟨k, 0, none⟩ (Value.int .i64 (x + 1))) (Obj.cells #[Value.int .i64 (x + 1), Value.int .i64 y] 24)).1)
            · have h1 := HLF.out
              have h2 := left_one HIN.out hx1
              unfold Hid
              rw [List.length_append, List.length_singleton]
              omega
            · have h1 := HRS.out
              rw [rest_one HIN.out hx1] at h1
              unfold Hid; rw [← h1]; simp
            · exact HKW.out.size
          case measure =>
            rw [atOf_row HRk.out, atOf_row (x := x + 1) (y := y) (T := 24) (by simpa using (MapKept.heap_alloc (w3.setCell ⟨k, 0, none⟩ (Value.int .i64 (x + 1))) (Obj.cells #[Value.int .i64 (x + 1), Value.int .i64 y] 24)).1)]
            have h2 := left_one HIN.out hx1
            omega
        · have HJ3 := Lib.hid hJ3
          clear hJ3 hR hy
          gi_wp2
          refine bodyPost_ret (results_none rfl _ _ _) rfl ?_
          exact ⟨⟨_, rfl⟩, Or.inr ⟨_, by have := HRS.out; rw [rest_one HIN.out hx1] at this; exact pre_of this, HJ3.out⟩⟩
end Go.Proofs.YtdoeejhdenifpaaGreatDoor
/- addr.Meet; quadrillelaw22's cells (made by mkr8.py). -/
namespace Go.Proofs.YtdoeejhdenifpaaGreatDoor
open Go.RowKit Go.Sort Go.MapKept
attribute [local go_sem] Oper.semAt_some

def meetA (f x : ArT) : ArT := ⟨max f.a x.a, max f.b x.b, min f.c x.c, min f.d x.d⟩
def vaA (f : ArT) : Bool := validA f.a f.b f.c f.d
def meetB (f x : ArT) : Bool := vaA f && vaA x && vaA (meetA f x)
set_option maxRecDepth 100000 in
set_option maxHeartbeats 4000000 in
theorem meet_any (f x : ArT) (w : World) (hv : vaA f = true) :
    Calls Tryz.prog 54 #[arT f, arT x] w fun e w' => (∃ r : ArT, e = .returned (.tuple #[arT r, .bool (meetB f x)])) ∧ Xt w w' := by
  obtain ⟨B, hB⟩ : ∃ B, w.heap.size = B := ⟨_, rfl⟩
  obtain ⟨w0, hw0⟩ : ∃ w0, w.alloc (.cells #[.int .i64 f.a, .int .i64 f.b, .int .i64 f.c, .int .i64 f.d] 26) = w0 := ⟨_, rfl⟩
  have hs0 : w0.heap.size = B + 1 := by rw [← hw0, ← hB]; simp
  obtain ⟨w1, hw1⟩ : ∃ w1, w0.alloc (.cells #[.int .i64 x.a, .int .i64 x.b, .int .i64 x.c, .int .i64 x.d] 26) = w1 := ⟨_, rfl⟩
  have hs1 : w1.heap.size = B + 1 + 1 := by rw [← hw1]; simp [hs0]
  obtain ⟨w2, hw2⟩ : ∃ w2, w1.alloc (.cells #[.int .i64 0, .int .i64 0, .int .i64 0, .int .i64 0] 26) = w2 := ⟨_, rfl⟩
  have hs2 : w2.heap.size = B + 1 + 1 + 1 := by rw [← hw2]; simp [hs1]
  have HX2 : Hid (Xt w w2) := by unfold Hid; rw [← hw2, ← hw1, ← hw0]; exact (((Xt.refl w).alloc _).alloc _).alloc _
  have HR0 : Hid (w2.heap[B]? = some (.cells #[.int .i64 f.a, .int .i64 f.b, .int .i64 f.c, .int .i64 f.d] 26 (0, 0))) := rowX (w := w0) (by rw [← hw2, ← hw1]; exact ((Xt.refl _).alloc _).alloc _) (by rw [← hw0, ← hB]; exact (MapKept.heap_alloc w _).1)
  have HR1 : Hid (w2.heap[B + 1]? = some (.cells #[.int .i64 x.a, .int .i64 x.b, .int .i64 x.c, .int .i64 x.d] 26 (0, 0))) := rowX (w := w1) (by rw [← hw2]; exact (Xt.refl _).alloc _) (by rw [← hw1, ← hs0]; exact (MapKept.heap_alloc w0 _).1)
  have HR2 : Hid (w2.heap[B + 1 + 1]? = some (.cells #[.int .i64 0, .int .i64 0, .int .i64 0, .int .i64 0] 26 (0, 0))) := by unfold Hid; rw [← hw2, ← hs1]; exact (MapKept.heap_alloc w1 _).1
  obtain ⟨⟨x0, x1, x2, x3⟩, _⟩ := cells4 HR0.out
  obtain ⟨⟨y0, y1, y2, y3⟩, _⟩ := cells4 HR1.out
  obtain ⟨r, hr⟩ : ∃ r, meetA f x = r := ⟨_, rfl⟩
  have HRR := Lib.hid hr
  obtain ⟨vx, hvx⟩ : ∃ v, vaA x = v := ⟨_, rfl⟩
  obtain ⟨vr, hvr⟩ : ∃ v, vaA r = v := ⟨_, rfl⟩
  have HVF := Lib.hid (fun V => validArea_any f.a f.b f.c f.d V)
  rw [show validA f.a f.b f.c f.d = true from hv] at HVF
  have HVX := Lib.hid (fun V => validArea_any x.a x.b x.c x.d V)
  rw [show validA x.a x.b x.c x.d = vx from hvx] at HVX
  have HVR := Lib.hid (fun V => validArea_any r.a r.b r.c r.d V)
  rw [show validA r.a r.b r.c r.d = vr from hvr] at HVR
  have HRES : Hid (meetB f x = (vx && vr)) := by unfold Hid meetB; rw [hv, hvx, hr, hvr]; rfl
  have HVF' := HVF
  have e1 : r.a = max f.a x.a := by rw [← hr]; rfl
  have e2 : r.b = max f.b x.b := by rw [← hr]; rfl
  have e3 : r.c = min f.c x.c := by rw [← hr]; rfl
  have e4 : r.d = min f.d x.d := by rw [← hr]; rfl
  have E1 := Lib.hid e1
  have E2 := Lib.hid e2
  have E3 := Lib.hid e3
  have E4 := Lib.hid e4
  clear hr hv hvx hvr HRR e1 e2 e3 e4
  rw [HRES.out]
  go_enter Tryz.func54, Tryz.ntmps54
  go_upto_region 2 with fail
  simp only [show max f.a x.a = r.a from E1.out.symm, show max f.b x.b = r.b from E2.out.symm, show min f.c x.c = r.c from E3.out.symm, show min f.d x.d = r.d from E4.out.symm]
  obtain ⟨wl, hwl⟩ : ∃ wl, w2.alloc (.cells #[.int .i64 r.a, .int .i64 r.b, .int .i64 r.c, .int .i64 r.d] 26) = wl := ⟨_, rfl⟩
  have HXL : Hid (Xt w2 wl) := by unfold Hid; rw [← hwl]; exact (Xt.refl _).alloc _
  have HRL : Hid (wl.heap[B + 1 + 1 + 1]? = some (.cells #[.int .i64 r.a, .int .i64 r.b, .int .i64 r.c, .int .i64 r.d] 26 (0, 0))) := by unfold Hid; rw [← hwl, ← hs2]; exact (MapKept.heap_alloc w2 _).1
  simp only [hwl]
  clear hwl
  obtain ⟨⟨a0, a1, a2, a3⟩, _⟩ := cells4 (rowX HXL.out HR0.out)
  have hm1 : True := trivial
  have hm2 : True := trivial
  have HEND : Hid (∀ (W : World) (q : ArT), Xt wl W → ∃ W', ((((W.setCell ⟨B + 1 + 1, 0, none⟩ (.int .i64 q.a)).setCell ⟨B + 1 + 1, 1, none⟩ (.int .i64 q.b)).setCell ⟨B + 1 + 1, 2, none⟩ (.int .i64 q.c)).setCell ⟨B + 1 + 1, 3, none⟩ (.int .i64 q.d)) = W' ∧ W'.heap[B + 1 + 1]? = some (.cells #[.int .i64 q.a, .int .i64 q.b, .int .i64 q.c, .int .i64 q.d] 26 (0, 0)) ∧ Xt w W') := Lib.hid fun W q hW => by
    refine ⟨_, rfl, setCell_row (setCell_row (setCell_row (setCell_row (rowX (HXL.out.trans hW) HR2.out) 0 _) 1 _) 2 _) 3 _, ?_⟩
    have hone : ∀ (A : World) (o : Nat) (u : Value), Xt w A → Xt w (A.setCell ⟨B + 1 + 1, o, none⟩ u) := fun A o u h => h.grownB (setCell_grown _ _ _ _) (fun q hq => by cases hq; rw [hB]; omega)
    exact hone _ _ _ (hone _ _ _ (hone _ _ _ (hone _ _ _ ((HX2.out.trans HXL.out).trans hW))))
  cases vx
  · go_wp2_with (first
      | (go_at_call 40; have hm0 := hm1; clear hm1 hm0; refine (HVF.out _).mono ?_; rintro e w3 ⟨rfl, hg3⟩; have HX3 : Hid (Xt wl w3) := hg3.xt; obtain ⟨⟨b0, b1, b2, b3⟩, _⟩ := cells4 (rowX (HXL.out.trans HX3.out) HR1.out); clear hg3)
      | (go_at_call 40; refine (HVX.out _).mono ?_; rintro e w4 ⟨rfl, hg4⟩; have HX4 : Hid (Xt wl w4) := HX3.out.trans hg4.xt; obtain ⟨⟨e0, e1, e2, e3⟩, ⟨f0, f1, f2, f3⟩⟩ := cells4 (rowX (HXL.out.trans HX4.out) HR2.out); clear hg4))
    obtain ⟨W', hW', hrow, hxe⟩ := HEND.out w4 ⟨0, 0, 0, 0⟩ HX4.out
    simp only at hW'
    rw [hW']
    (try simp only [Exit.inBlock, Exit.then])
    refine bodyPost_ret (v := .tuple #[arT ⟨0, 0, 0, 0⟩, .bool false]) ?_ rfl ⟨⟨⟨0, 0, 0, 0⟩, rfl⟩, hxe⟩
    rw [results_cell_tmp rfl]
    show ((asAddr (.pointer (some ⟨B + 1 + 1, 0, none⟩))).run _ _).andThen _ = _
    simp only [asAddr, Sem.run_pure, Result.andThen_ok, run_loadVar_row _ _ _ 26 _ _ _ hrow Tryz.underlying26 rfl (by kernel_rfl)]
    rfl
  · cases vr
    · go_wp2_with (first
        | (go_at_call 40; have hm0 := hm1; clear hm1 hm0; refine (HVF.out _).mono ?_; rintro e w3 ⟨rfl, hg3⟩; have HX3 : Hid (Xt wl w3) := hg3.xt; obtain ⟨⟨b0, b1, b2, b3⟩, _⟩ := cells4 (rowX (HXL.out.trans HX3.out) HR1.out); clear hg3)
        | (go_at_call 40; have hm0 := hm2; clear hm2 hm0; refine (HVX.out _).mono ?_; rintro e w4 ⟨rfl, hg4⟩; have HX4 : Hid (Xt wl w4) := HX3.out.trans hg4.xt; obtain ⟨⟨c0, c1, c2, c3⟩, _⟩ := cells4 (rowX HX4.out HRL.out); clear hg4)
        | (go_at_call 40; refine (HVR.out _).mono ?_; rintro e w5 ⟨rfl, hg5⟩; have HX5 : Hid (Xt wl w5) := HX4.out.trans hg5.xt; obtain ⟨⟨e0, e1, e2, e3⟩, ⟨f0, f1, f2, f3⟩⟩ := cells4 (rowX (HXL.out.trans HX5.out) HR2.out); clear hg5))
      obtain ⟨W', hW', hrow, hxe⟩ := HEND.out w5 ⟨0, 0, 0, 0⟩ HX5.out
      simp only at hW'
      rw [hW']
      (try simp only [Exit.inBlock, Exit.then])
      refine bodyPost_ret (v := .tuple #[arT ⟨0, 0, 0, 0⟩, .bool false]) ?_ rfl ⟨⟨⟨0, 0, 0, 0⟩, rfl⟩, hxe⟩
      rw [results_cell_tmp rfl]
      show ((asAddr (.pointer (some ⟨B + 1 + 1, 0, none⟩))).run _ _).andThen _ = _
      simp only [asAddr, Sem.run_pure, Result.andThen_ok, run_loadVar_row _ _ _ 26 _ _ _ hrow Tryz.underlying26 rfl (by kernel_rfl)]
      rfl
    · go_wp2_with (first
        | (go_at_call 40; have hm0 := hm1; clear hm1 hm0; refine (HVF.out _).mono ?_; rintro e w3 ⟨rfl, hg3⟩; have HX3 : Hid (Xt wl w3) := hg3.xt; obtain ⟨⟨b0, b1, b2, b3⟩, _⟩ := cells4 (rowX (HXL.out.trans HX3.out) HR1.out); clear hg3)
        | (go_at_call 40; have hm0 := hm2; clear hm2 hm0; refine (HVX.out _).mono ?_; rintro e w4 ⟨rfl, hg4⟩; have HX4 : Hid (Xt wl w4) := HX3.out.trans hg4.xt; obtain ⟨⟨c0, c1, c2, c3⟩, _⟩ := cells4 (rowX HX4.out HRL.out); clear hg4)
        | (go_at_call 40; refine (HVR.out _).mono ?_; rintro e w5 ⟨rfl, hg5⟩; have HX5 : Hid (Xt wl w5) := HX4.out.trans hg5.xt; obtain ⟨⟨c0, c1, c2, c3⟩, _⟩ := cells4 (rowX HX5.out HRL.out); obtain ⟨⟨e0, e1, e2, e3⟩, ⟨f0, f1, f2, f3⟩⟩ := cells4 (rowX (HXL.out.trans HX5.out) HR2.out); clear hg5))
      obtain ⟨W', hW', hrow, hxe⟩ := HEND.out w5 r HX5.out
      rw [hW']
      (try simp only [Exit.inBlock, Exit.then])
      refine bodyPost_ret (v := .tuple #[arT r, .bool true]) ?_ rfl ⟨⟨r, rfl⟩, hxe⟩
      rw [results_cell_tmp rfl]
      show ((asAddr (.pointer (some ⟨B + 1 + 1, 0, none⟩))).run _ _).andThen _ = _
      simp only [asAddr, Sem.run_pure, Result.andThen_ok, run_loadVar_row _ _ _ 26 _ _ _ hrow Tryz.underlying26 rfl (by kernel_rfl)]
      rfl
set_option maxRecDepth 100000 in
set_option maxHeartbeats 2000000 in
theorem cells22_any (f : ArT) (w : World) :
    Calls Tryz.prog 13 #[arT f] w fun e w' => ∃ b, e = .returned (.func (.func 79) #[] #[.pointer (some ⟨b, 0, none⟩)]) ∧ w'.heap[b]? = some (.cells #[.int .i64 f.a, .int .i64 f.b, .int .i64 f.c, .int .i64 f.d] 26 (0, 0)) ∧ Xt w w' := by
  have hqn := fun w f lb => run_eql_func_nil (P := Tryz.prog) w 39 _ _ _ (.func f) #[] lb Tryz.underlying39
  obtain ⟨w0, hw0⟩ : ∃ w0, w.alloc (.cells #[.int .i64 f.a, .int .i64 f.b, .int .i64 f.c, .int .i64 f.d] 26) = w0 := ⟨_, rfl⟩
  have HX0 : Hid (Xt w w0) := by unfold Hid; rw [← hw0]; exact (Xt.refl w).alloc _
  have HR0 : Hid (w0.heap[w.heap.size]? = some (.cells #[.int .i64 f.a, .int .i64 f.b, .int .i64 f.c, .int .i64 f.d] 26 (0, 0))) := by unfold Hid; rw [← hw0]; exact (MapKept.heap_alloc w _).1
  obtain ⟨⟨x0, x1, x2, x3⟩, _⟩ := cells4 HR0.out
  have HC : Hid (Calls Tryz.prog 39 #[arT f] w0 fun e w' => e = .returned (.func (.func 79) #[] #[.pointer (some ⟨w0.heap.size, 0, none⟩)]) ∧ w' = w0.alloc (.cells #[.int .i64 f.a, .int .i64 f.b, .int .i64 f.c, .int .i64 f.d] 26)) := by
    unfold Hid
    go_enter Tryz.func39, Tryz.ntmps39
    go_wp2
    go_ret
    exact ⟨rfl, rfl⟩
  have hW0 := Lib.hid hw0
  go_enter Tryz.func13, Tryz.ntmps13
  go_wp2_with (first
    | (go_at_call 39; refine (HC.out).mono ?_; rintro e w1 ⟨rfl, rfl⟩))
  go_ret
  exact ⟨w0.heap.size, rfl, (MapKept.heap_alloc w0 _).1, HX0.out.alloc _⟩
end Go.Proofs.YtdoeejhdenifpaaGreatDoor
/- quadrillelaw22's empty: has a grid nothing in an area, and does no formula name one of its cells (made by mkr9.py). -/
namespace Go.Proofs.YtdoeejhdenifpaaGreatDoor
open Go.RowKit Go.Sort Go.Maps Go.Shelf Go.MapKept
attribute [local go_sem] Oper.semAt_some

def hitN (f : ArT) (x : NodeT) : Bool := (decide (x.kind = 5) && inA f x.ref.a) || (decide (x.kind = 6) && meetB f (arOf x.ref x.to))
def hitL (f : ArT) (l : List NodeT) : Bool := l.any (hitN f)
theorem hitL_snoc (f : ArT) (l : List NodeT) (x : NodeT) : hitL f (l ++ [x]) = (hitL f l || hitN f x) := by unfold hitL; simp
def hitT (f : ArT) (t : NodeT) : Bool := (flatT t).any (hitN f)
/-- Has a grid something in an area, or does a formula name one of its cells? -/
def busyP (f : ArT) (l : PG) : Bool := l.any fun x => inA f x.1 || hitT f x.2.t
theorem busyP_snoc (f : ArT) (l : PG) (x : Ad × ContT) : busyP f (l ++ [x]) = (busyP f l || (inA f x.1 || hitT f x.2.t)) := by unfold busyP; simp
theorem hitT_copy (f : ArT) (t : NodeT) : hitT f (copyT t) = hitT f t := by
  unfold hitT
  rw [flat_copy, List.any_map]
  refine congrArg (fun g => (flatT t).any g) (funext fun x => ?_)
  show hitN f (copyT x) = hitN f x
  unfold hitN
  rw [copyT_kind, copyT_to, copyT_ref]
set_option maxRecDepth 100000 in
set_option maxHeartbeats 8000000 in
theorem empty_any (gb mb : Nat) (M : GM) (f : ArT) (w : World) (hG : GridIs w gb mb M) (hv : vaA f = true) :
    Calls Tryz.prog 20 #[.pointer (some ⟨gb, 0, none⟩), arT f] w fun e w' => e = .returned (.bool (!busyP f (er M))) ∧ Xt w w' := by
  obtain ⟨B, hB⟩ : ∃ B, w.heap.size = B := ⟨_, rfl⟩
  have HG := Lib.hid hG
  have HVF := Lib.hid hv
  have hgl := hG.lt
  obtain ⟨w1, hw1⟩ : ∃ w1, w.alloc (.cells #[.int .i64 f.a, .int .i64 f.b, .int .i64 f.c, .int .i64 f.d] 26) = w1 := ⟨_, rfl⟩
  have hs1 : w1.heap.size = B + 1 := by rw [← hw1, ← hB]; simp
  obtain ⟨w2, hw2⟩ : ∃ w2, w1.alloc (.cells #[.bool false] 4) = w2 := ⟨_, rfl⟩
  have hs2 : w2.heap.size = B + 1 + 1 := by rw [← hw2]; simp [hs1]
  have HX2 : Hid (Xt w w2) := by unfold Hid; rw [← hw2, ← hw1]; exact ((Xt.refl _).alloc _).alloc _
  have HR1 : Hid (w2.heap[B]? = some (.cells #[.int .i64 f.a, .int .i64 f.b, .int .i64 f.c, .int .i64 f.d] 26 (0, 0))) := rowX (w := w1) (by rw [← hw2]; exact (Xt.refl _).alloc _) (by rw [← hw1, ← hB]; exact (MapKept.heap_alloc w _).1)
  have HR3 : Hid (w2.heap[B + 1]? = some (.cells #[.bool false] 4 (0, 0))) := by unfold Hid; rw [← hw2, ← hs1]; exact (MapKept.heap_alloc w1 _).1
  clear hG hv
  refine (callsIn_wide (n := 25)).1 ?_
  refine callsIn_of_wp_marks Tryz.func20 rfl trivial ?_ rfl
  simp only [Tryz.ntmps20, List.size_toArray, List.length_cons, List.length_nil, Nat.reduceAdd, Nat.reduceSub, Array.replicate_succ, Array.replicate_zero, List.push_toArray, List.append_toArray, List.nil_append, List.cons_append]
  refine wpIn_wide.2 ?_
  refine wp_mono (Q := noPanic (bodyPostM Fence.wide 25 Tryz.prog Tryz.f20 (fun e w' => e = .returned (.bool (!busyP f (er M))) ∧ Xt w w'))) ?_ noPanic_le
  go_wp2_with (first
    | (go_at_call 30; refine (all22_any gb _).mono ?_; rintro e w' ⟨rfl, rfl⟩))
  obtain ⟨W0, hW0⟩ : ∃ W0, (w2.alloc (.cells #[.pointer (some ⟨gb, 0, none⟩)] 29)).alloc (.cells #[.func (.func 75) #[] #[]] 99) = W0 := ⟨_, rfl⟩
  have hsW : W0.heap.size = B + 4 := by rw [← hW0]; simp [hs2]
  have HX2W : Hid (Xt w2 W0) := by unfold Hid; rw [← hW0]; exact ((Xt.refl _).alloc _).alloc _
  have HcgW : W0.cell? ⟨B + 2, 0, none⟩ = some (.pointer (some ⟨gb, 0, none⟩)) := by
    have := rowX (w := w2.alloc (.cells #[.pointer (some ⟨gb, 0, none⟩)] 29)) (w' := W0) (by rw [← hW0]; exact (Xt.refl _).alloc _) (MapKept.heap_alloc w2 _).1
    rw [hs2] at this
    exact (one_row this).1
  have rBw : W0.heap[B + 3]? = some (.cells #[.func (.func 75) #[] #[]] 99 (0, 0)) := by
    rw [← hW0]
    have := (MapKept.heap_alloc (w2.alloc (.cells #[.pointer (some ⟨gb, 0, none⟩)] 29)) (.cells #[.func (.func 75) #[] #[]] 99)).1
    simpa [hs2] using this
  have HXW : Hid (Xt w W0) := HX2.out.trans HX2W.out
  have HR1W := Lib.hid (rowX HX2W.out HR1.out)
  have HR3W := Lib.hid (rowX HX2W.out HR3.out)
  try simp only [hs2]
  simp only [hW0]
  clear hW0 hw1 hw2 hs1 hs2
  generalize hA0 : Act.mk _ _ = a0
  refine (wpIn_wide (n := 25)).1 ?_
  refine rangeFunc_told (n := 25) (by omega) (gf := 116) (lb := #[.pointer (some ⟨B + 2, 0, none⟩), .pointer (some ⟨B + 3, 0, none⟩)]) (by subst hA0; rfl) (enters_of Tryz.func116 (by kernel_rfl) rfl)
    (some1_told (fun _ => false) 75 #[] (enters_of Tryz.func75 (by kernel_rfl) rfl) (fun _ => true) w.heap.size w rfl (fun _ => True) (fun _ _ _ _ _ => trivial) (fun a W _ => all1_any a W) (25 - 1) (by omega) (B + 2) (B + 3) gb mb M HG.out W0 HXW.out trivial (by omega) HcgW rBw)
    (fun h k => ⟨h.1.trans k.1, h.2.trans k.2⟩) (fun W l o o' hl ho hc hw => ⟨belowK_b (w := W0) (by omega) W l o o' hl ho hc hw, KeepsT.of_grown (grownBy_putObj' W l o') (fun j o2 e h2 => by cases e; rw [ho] at h2; cases h2; cases o <;> simp_all [keptO, Obj.isCells, Obj.isWalk])⟩) (Below.refl _ _) (fun _ => rfl)
    (fun pre W => LV W0 (B + 1) false W ∧ busyP f (pre.map tpT) = false)
    (fun c pre W => c = .ret ∧ LV W0 (B + 1) false W ∧ busyP f (pre.map tpT) = true)
    (fun s X Y row hs hg hr => ⟨hs.1.own (Nat.le_refl _) hg hr, hs.2⟩) (fun c s X Y row hs hg hr => ⟨hs.1, hs.2.1.own (Nat.le_refl _) hg hr, hs.2.2⟩)
    ⟨LV.refl HR3W.out, rfl⟩
    (fun x a' W => ∃ (z : CE) (Bx By nT : Nat), z.1 = copyC x.2.1 ∧ z.2 = x.2.2 ∧ By ≠ B + 1 ∧ Bx ≠ B + 1 ∧ W.heap[Bx]? = some (.cells #[.int .i64 x.1.1, .int .i64 x.1.2] 24 (0, 0)) ∧ W.heap[By]? = some (.cells #[.int .i64 z.1.kind, .int .i64 z.1.v.kind, .float .f64 z.1.v.x, .string z.1.v.s, .bool z.1.v.b, .int .i64 z.1.v.f, .int .i64 z.1.t.kind, .int .i64 z.1.t.op, .float .f64 z.1.t.x, .string z.1.t.s, .bool z.1.t.b, .int .i64 z.1.t.f, .int .i64 z.1.t.ref.a.1, .int .i64 z.1.t.ref.a.2, .bool z.1.t.ref.cf, .bool z.1.t.ref.rf, .int .i64 z.1.t.to.a.1, .int .i64 z.1.t.to.a.2, .bool z.1.t.to.cf, .bool z.1.t.to.rf, .slice z.2 z.1.t.args.length z.1.t.args.length] 51 (0, 0)) ∧ smallT z.1.t ∧ ArgsIn W nT (.slice z.2 z.1.t.args.length z.1.t.args.length) z.1.t.args ∧ (x.1, x.2.1) ∈ er M ∧
      a' = { tmps := (((a0.tmps.setIfInBounds 12 (adW x.1)).setIfInBounds 13 (ceV z)).setIfInBounds 5 (.pointer (some ⟨Bx, 0, none⟩))).setIfInBounds 6 (.pointer (some ⟨By, 0, none⟩)), defers := [] })
    (fun x a' _ X Y row hs hg hr => by
      obtain ⟨z, Bx, By, nT, e1, e2, n2, n3, h1, h2, h3, h4, h5⟩ := hs
      exact ⟨z, Bx, By, nT, e1, e2, n2, n3, rowCells_own h1 hg (fun r e => (hr r e).2), rowCells_own h2 hg (fun r e => (hr r e).2), h3, h4.kept (cellsIn_walk hg (fun r e => (hr r e).2)), h5⟩)
    ?assign ?body ?done ?stop
  case stop =>
    rintro D c pre W hD ⟨i, hS⟩ ⟨rfl, hL, hany⟩ hK
    subst hA0
    have hres : busyP f (er M) = true := by
      rw [told_all hS] at hany
      refine any_prefix (l := er (M.take i)) ?_ hany
      unfold er
      rw [List.map_take]
      exact List.take_prefix ..
    obtain ⟨hgr, hrow⟩ := hL
    refine (wpIn_wide (n := 25)).2 ?_
    go_wp2_with fail
    refine ⟨by simp, .inl ⟨_, _, rfl, run_takeDeferred hK, ?_⟩⟩
    have k2' : (W.putObj D (.deferred none)).heap[B + 1]? = some (.cells #[.bool false] 4 (0, 0)) := (World.putObj_heap_other (by omega)).trans hrow
    exact ⟨_, results_one6 rfl _ _ (B + 1) (.bool false) rfl (load_bool6 _ _ _ (one_row k2').1), by rw [hres]; rfl, (HXW.out.grownB hgr (fun q hq => by cases hq; omega)).grownB (grownBy_putObj' W D _) (fun q hq => by cases hq; omega)⟩
  case done =>
    rintro D xs W hD hS ⟨hL, hany⟩ hK
    subst hA0
    rw [told_all hS] at hany
    have hres : busyP f (er M) = false := hany
    obtain ⟨hgr, hrow⟩ := hL
    obtain ⟨c3, f3⟩ := one_row hrow
    have HK := Lib.hid hK
    have HGR := Lib.hid hgr
    have HRW := Lib.hid hrow
    have HRES := Lib.hid hres
    clear hgr hK hS hrow hres hany
    go_wp2_with fail
    obtain ⟨W', hW'⟩ : ∃ W', W.setCell ⟨B + 1, 0, none⟩ (.bool true) = W' := ⟨_, rfl⟩
    have k1 : W'.cell? ⟨B + 1, 0, none⟩ = some (.bool true) := by rw [← hW']; exact World.cell?_setCell_same _ _ _ c3
    have hKW : W'.heap[D]? = some (.deferred (some [])) := by rw [← hW']; exact (Below.heap_setCell _ _ _ _ (fun e => by simp at e; omega)).trans HK.out
    have hxE : Xt w (W'.putObj D (.deferred none)) := by
      rw [← hW']
      exact ((HXW.out.grownB HGR.out (fun q hq => by cases hq; omega)).grownB (setCell_grown _ _ _ _) (fun q hq => by cases hq; omega)).grownB (grownBy_putObj' _ D _) (fun q hq => by cases hq; omega)
    have k8' : (W'.putObj D (.deferred none)).cell? ⟨B + 1, 0, none⟩ = some (.bool true) := (World.cell?_of_block (w := W') (a := ⟨B + 1, 0, none⟩) (World.putObj_heap_other (by show B + 1 ≠ D; omega))).trans k1
    rw [hW']
    refine ⟨by simp, .inl ⟨_, _, rfl, run_takeDeferred hKW, ?_⟩⟩
    exact ⟨_, results_one6 rfl _ _ (B + 1) (.bool true) rfl (load_bool6 _ _ _ k8'), by rw [HRES.out]; rfl, hxE⟩
  case assign =>
    rintro l0 pre x W K ⟨hI, hIA⟩ ⟨V, hIV, ⟨hxV, hsm, nT, hA⟩, hmem⟩ hK
    subst hA0
    obtain ⟨⟨c, d⟩, tc, tp⟩ := x
    obtain ⟨z, hz1, hz2⟩ : ∃ z : CE, z.1 = copyC tc ∧ z.2 = tp := ⟨(copyC tc, tp), rfl, rfl⟩
    have hzv : copyCV tc tp = ceV z := by rw [← ceV_copy]; obtain ⟨z1, z2⟩ := z; simp only at hz1 hz2; rw [hz1, hz2]
    have hzA : smallT z.1.t ∧ ArgsIn W nT (.slice z.2 z.1.t.args.length z.1.t.args.length) z.1.t.args := by
      rw [hz1, hz2]
      refine ⟨smallT_copy _ hsm, ?_⟩
      show ArgsIn _ _ (.slice tp (copyT tc.t).args.length (copyT tc.t).args.length) (copyT tc.t).args
      rw [copyT_len, copyT_args]
      exact hA.args
    have HZ := Lib.hid (show z.1 = copyC tc ∧ z.2 = tp from ⟨hz1, hz2⟩)
    have HZA := Lib.hid hzA
    have HIA := Lib.hid hIA
    have hR1 : B + 1 < W.heap.size := (Array.getElem?_eq_some_iff.1 hI.row).1
    simp only [teV, hzv]
    clear hz1 hz2 hzv hzA hA hsm hIV hxV hIA
    obtain ⟨wA, hwA, hbA, hsA, kA0, kA1⟩ := box1 W c d 24
    obtain ⟨wZ, wR, hwZ, hwR, hrZ, hrR, hxR, hsR, hxZ, hsZ⟩ := boxR wA z
    rw [hsA] at hrZ hwR hrR
    have hrA : wA.heap[W.heap.size]? = some (.cells #[.int .i64 c, .int .i64 d] 24 (0, 0)) := by rw [← hwA]; exact World.alloc_heap_new W _
    have hxWR := Lib.hid (Xt.trans hbA hxR)
    have HRA := Lib.hid ((hxR.block _ (by omega)).trans hrA)
    have HRZ := Lib.hid hrZ
    have HRR := Lib.hid hrR
    have HWR := Lib.hid hwR
    clear hrZ hwR hrR hrA kA0 kA1 hbA hxZ hxR
    gi_wp2_with (first | (refine wpListIn_store_row (P := Tryz.prog) rfl 51 _ _ rfl (W.heap.size + 1) #[.int .i64 z.1.kind, .int .i64 z.1.v.kind, .float .f64 z.1.v.x, .string z.1.v.s, .bool z.1.v.b, .int .i64 z.1.v.f, .int .i64 z.1.t.kind, .int .i64 z.1.t.op, .float .f64 z.1.t.x, .string z.1.t.s, .bool z.1.t.b, .int .i64 z.1.t.f, .int .i64 z.1.t.ref.a.1, .int .i64 z.1.t.ref.a.2, .bool z.1.t.ref.cf, .bool z.1.t.ref.rf, .int .i64 z.1.t.to.a.1, .int .i64 z.1.t.to.a.2, .bool z.1.t.to.cf, .bool z.1.t.to.rf, .slice z.2 z.1.t.args.length z.1.t.args.length] rfl rfl 51 _ HRZ.out (by kernel_rfl) rfl (by simp [Value.oneCell']) ?_; rw [HWR.out]))
    have hx := hxWR.out
    refine hK _ _ (keepsFrom_xt hx _) ⟨hx.mono (by have := hI.grown.size; have := HXW.out.size; omega), KeepsT.of_xt hx⟩ ⟨⟨grownBy_far hI.grown hx.grownN (fun r e => by cases e), rowX hx hI.row⟩, HIA.out⟩ ?_
    refine ⟨z, W.heap.size, W.heap.size + 1, nT, HZ.out.1, HZ.out.2, by omega, by omega, HRA.out, HRR.out, HZA.out.1, HZA.out.2.xt hx, hmem, ?_⟩
    simp only [List.setIfInBounds_toArray, List.set_cons_zero, List.set_cons_succ]
  case body =>
    rintro l0 pre x a' W hl0 ⟨r, hr⟩ ⟨hI, hIA⟩ ⟨z, Bx, By, nT, hz1, hz2, nBy, nBx, hBx, hBy, hzs, hzA, hmem, rfl⟩ hlt
    subst hA0
    obtain ⟨⟨c, d⟩, tc, tp⟩ := x
    simp only at hz1 hz2 hBx
    have HLT : Hid (hitT f (copyT z.1.t) = hitT f tc.t) := by
      unfold Hid; rw [hz1, hitT_copy]; exact hitT_copy f tc.t
    have HIA : Hid (busyP f (pre.map tpT) = false) := hIA
    have HBY := Lib.hid hBy
    have HI := Lib.hid hI
    have HLR := Lib.hid hr
    have hff : Fence.wide.fn 53 := trivial
    have hf29 : Fence.wide.fn 16 := trivial
    have hWs : B + 4 ≤ W.heap.size := by have := hI.grown.size; omega
    have rB := (hI.grown.block B (by omega) (fun e => by have := Option.some.inj e; omega)).trans HR1W.out
    have HRB := Lib.hid rB
    obtain ⟨⟨y0, y1, y2, y3⟩, _⟩ := cells4 rB
    obtain ⟨x0, x1, _, _⟩ := cells2 hBx
    have HC1 := Lib.hid (in_any f.a f.b f.c f.d c d W)
    obtain ⟨vf, hvf⟩ : ∃ v, inA f (c, d) = v := ⟨_, rfl⟩
    rw [show inB f.a f.b f.c f.d c d = vf from hvf] at HC1
    have HVF1 := Lib.hid hvf
    have HZS := Lib.hid (show smallT z.1.t ∧ ArgsIn W nT (.slice z.2 z.1.t.args.length z.1.t.args.length) z.1.t.args from ⟨hzs, hzA⟩)
    clear hr hI hIA hBx hBy hz1 hz2 hzs hzA hlt hmem hvf rB
    simp only [List.setIfInBounds_toArray, List.set_cons_zero, List.set_cons_succ]
    cases vf
    rotate_left
    · gi_wp2_with (first
        | (gi_at_call 16; refine (callsIn_round HC1.out).mono ?_; rintro e W5 ⟨rfl, hg5⟩; have HX5 : Hid (Xt W W5) := hg5.xt; obtain ⟨c3, f3⟩ := one_row (rowX HX5.out HI.out.row); clear hg5))
      have hgs : W.grownBy (W5.setCell ⟨B + 1, 0, none⟩ (.bool false)) (some (B + 1)) := grownBy_two (HX5.out.grown (some (B + 1))) (setCell_grown _ _ _ _)
      refine ⟨KeepsFrom.of_grownBy hgs (fun j e => by cases e; omega), rfl, ⟨grownBy_two HI.out.grown hgs, setCell_row (rowX HX5.out HI.out.row) 0 _⟩, ?_⟩
      rw [List.map_append, List.map_cons, List.map_nil, busyP_snoc, show (tpT ((c, d), tc, tp)).1 = (c, d) from rfl, HVF1.out, Bool.true_or, Bool.or_true]
    have HC := Lib.hid (fun V (hV : Xt W V) => nodes22_any nT z.1.t z.2 z.1.t.args.length V HZS.out.1 (HZS.out.2.xt hV))
    gi_wp2_with (first
      | (refine wpListIn_load_mid (P := Tryz.prog) rfl 49 _ rfl By 6 rfl [.int .i64 z.1.t.kind, .int .i64 z.1.t.op, .float .f64 z.1.t.x, .string z.1.t.s, .bool z.1.t.b, .int .i64 z.1.t.f, .int .i64 z.1.t.ref.a.1, .int .i64 z.1.t.ref.a.2, .bool z.1.t.ref.cf, .bool z.1.t.ref.rf, .int .i64 z.1.t.to.a.1, .int .i64 z.1.t.to.a.2, .bool z.1.t.to.cf, .bool z.1.t.to.rf, .slice z.2 z.1.t.args.length z.1.t.args.length] _ (row_mid6 (rowX HX5.out HBY.out)) Tryz.underlying49 rfl (by kernel_rfl) ?_)
      | (gi_at_call 16; refine (callsIn_round HC1.out).mono ?_; rintro e W5 ⟨rfl, hg5⟩; have HX5 : Hid (Xt W W5) := hg5.xt; clear hg5)
      | (gi_at_call 53; refine (callsIn_round (HC.out _ HX5.out)).mono ?_; rintro e W1 ⟨b, a', dd, rfl, hb, hr, hO, hx⟩; have HR := Lib.hid hr; have HO := Lib.hid hO; have HX := Lib.hid (HX5.out.trans hx); clear hr hO hx))
    obtain ⟨tt, htt⟩ : ∃ tt, copyT z.1.t = tt := ⟨_, rfl⟩
    rw [htt] at HR HO HLT
    have hl1 : W1.heap[l0]? = some (.loop r) := (HX.out.block l0 (Array.getElem?_eq_some_iff.1 HLR.out).1).trans HLR.out
    have HI1 : Hid (LV W0 (B + 1) false W1) := ⟨grownBy_far HI.out.grown HX.out.grownN (fun r e => by cases e), rowX HX.out HI.out.row⟩
    have hW1s := HX.out.size
    have hb1 : B + 4 ≤ W1.heap.size := by omega
    clear htt
    generalize hA1 : Act.mk _ _ = a1
    refine wpIn_rangeFunc_ownN (l₀ := l0) (r₀ := r) rfl hl1 (by omega) (gf := 77) (lb := #[.pointer (some ⟨b, 0, none⟩)]) (by subst hA1; rfl) trivial (enters_of Tryz.func77 (by kernel_rfl) rfl)
      (SeqStopsK.inRound l0 (nodes1_stops (25 - 1 - 1 - 1) b tt a' tt.args.length dd _ W1 HR.out HO.out)) (fun h k => h.trans k) (fun W l o o' hl ho hc hw => KN.putObj o' ho hc) (Below.refl _ _) (fun _ => rfl)
      (fun pre W => LV W1 (B + 1) false W ∧ hitL f pre = false)
      (fun c pre W => c = .ret ∧ LV W1 (B + 1) false W ∧ hitL f pre = true)
      (fun s X Y row hs hg hr => ⟨hs.1.own (Nat.le_refl _) hg hr, hs.2⟩) (fun c s X Y row hs hg hr => ⟨hs.1, hs.2.1.own (Nat.le_refl _) hg hr, hs.2.2⟩)
      ⟨LV.refl HI1.out.row, rfl⟩
      (fun x a' W => ∃ Bx, Bx ≠ B + 1 ∧ W.heap[Bx]? = some (.cells #[.int .i64 x.kind, .int .i64 x.op, .float .f64 x.x, .string x.s, .bool x.b, .int .i64 x.f, .int .i64 x.ref.a.1, .int .i64 x.ref.a.2, .bool x.ref.cf, .bool x.ref.rf, .int .i64 x.to.a.1, .int .i64 x.to.a.2, .bool x.to.cf, .bool x.to.rf, .slice none 0 0] 49 (0, 0)) ∧ a' = { tmps := (a1.tmps.setIfInBounds 20 (nodeV x none 0 0)).setIfInBounds 7 (.pointer (some ⟨Bx, 0, none⟩)), defers := [] })
      (fun x a' _ X Y row hs hg hr => let ⟨Bx, n1, h1, h2⟩ := hs; ⟨Bx, n1, rowCells_own h1 hg (fun r e => (hr r e).2), h2⟩)
      ?assign2 ?body2 ?done2 ?stop2
    case stop2 =>
      rintro c' p2 Wd hSp ⟨rfl, hL, hany⟩
      subst hA1
      have hg : W.grownBy Wd (some (B + 1)) := grownBy_two (HX.out.grown (some (B + 1))) hL.grown
      have hall := any_prefix hSp hany
      have HALL : Hid (hitT f tc.t = true) := by unfold Hid; rw [← HLT.out]; exact hall
      have HL := Lib.hid hL
      have HG2 := Lib.hid hg
      clear hL hg hall hany hSp
      gi_wp2_with fail
      refine ⟨KeepsFrom.of_grownBy HG2.out (fun j e => by cases e; omega), rfl, ⟨grownBy_two HI1.out.grown HL.out.grown, HL.out.row⟩, ?_⟩
      rw [List.map_append, List.map_cons, List.map_nil, busyP_snoc, show (tpT ((c, d), tc, tp)).2.t = tc.t from rfl, HALL.out, Bool.or_true, Bool.or_true]
    case done2 =>
      rintro xs Wd rfl ⟨hL, hany⟩
      subst hA1
      have hg : W.grownBy Wd (some (B + 1)) := grownBy_two (HX.out.grown (some (B + 1))) hL.grown
      have HALL : Hid (hitT f tc.t = false) := by unfold Hid; rw [← HLT.out]; exact hany
      have HL := Lib.hid hL
      have HG2 := Lib.hid hg
      clear hL hg hany
      gi_wp2_with fail
      have hg := HG2.out
      have hrow := HI.out.row
      refine ⟨KeepsFrom.of_grownBy hg (fun j e => by cases e; omega), ⟨⟨hg.os, hg.tape, hg.output, hg.size, fun k hk => hg.block k (by omega) (fun e => by have := Option.some.inj e; omega)⟩, KeepsT.of_grown hg (fun j o e ho => by cases e; rw [hrow] at ho; cases ho; rfl)⟩, ⟨grownBy_two HI1.out.grown HL.out.grown, HL.out.row⟩, ?_⟩
      rw [List.map_append, List.map_cons, List.map_nil, busyP_snoc, show (tpT ((c, d), tc, tp)).2.t = tc.t from rfl, show (tpT ((c, d), tc, tp)).1 = (c, d) from rfl, HVF1.out, HALL.out, HIA.out]; rfl
    case assign2 =>
      rintro l2 pre2 x W K ⟨hI2, hIA2⟩ hK
      subst hA1
      obtain ⟨wZ, hwZ⟩ : ∃ wZ, W.alloc (.cells #[.int .i64 0, .int .i64 0, .float .f64 0, .string ⟨#[]⟩, .bool false, .int .i64 0, .int .i64 0, .int .i64 0, .bool false, .bool false, .int .i64 0, .int .i64 0, .bool false, .bool false, .slice none 0 0] 49) = wZ := ⟨_, rfl⟩
      have hrZ : wZ.heap[W.heap.size]? = some (.cells #[.int .i64 0, .int .i64 0, .float .f64 0, .string ⟨#[]⟩, .bool false, .int .i64 0, .int .i64 0, .int .i64 0, .bool false, .bool false, .int .i64 0, .int .i64 0, .bool false, .bool false, .slice none 0 0] 49 (0, 0)) := by rw [← hwZ]; exact (MapKept.heap_alloc W _).1
      obtain ⟨wA, hwA⟩ : ∃ wA, wZ.setRow W.heap.size #[.int .i64 x.kind, .int .i64 x.op, .float .f64 x.x, .string x.s, .bool x.b, .int .i64 x.f, .int .i64 x.ref.a.1, .int .i64 x.ref.a.2, .bool x.ref.cf, .bool x.ref.rf, .int .i64 x.to.a.1, .int .i64 x.to.a.2, .bool x.to.cf, .bool x.to.rf, .slice none 0 0] = wA := ⟨_, rfl⟩
      have hx : Xt W wA := by rw [← hwA, ← hwZ]; exact ((Xt.refl W).alloc _).grownB (setRow_grown _ _ _) (fun m hm => by cases hm; exact Nat.le_refl _)
      have hrA : wA.heap[W.heap.size]? = some (.cells #[.int .i64 x.kind, .int .i64 x.op, .float .f64 x.x, .string x.s, .bool x.b, .int .i64 x.f, .int .i64 x.ref.a.1, .int .i64 x.ref.a.2, .bool x.ref.cf, .bool x.ref.rf, .int .i64 x.to.a.1, .int .i64 x.to.a.2, .bool x.to.cf, .bool x.to.rf, .slice none 0 0] 49 (0, 0)) := by rw [← hwA]; exact setRow_heap _ _ _ _ _ _ hrZ
      have HRZ := Lib.hid hrZ
      have HWA := Lib.hid hwA
      have HX2 := Lib.hid hx
      have HRA := Lib.hid hrA
      have HI2 := Lib.hid hI2
      have HIA2 := Lib.hid hIA2
      have hWs2 : B + 1 < W.heap.size := (Array.getElem?_eq_some_iff.1 hI2.row).1
      clear hwA hrZ hx hrA hI2 hIA2
      gi_wp2_with (first | (refine wpListIn_store_row (P := Tryz.prog) rfl 49 _ _ rfl W.heap.size #[.int .i64 x.kind, .int .i64 x.op, .float .f64 x.x, .string x.s, .bool x.b, .int .i64 x.f, .int .i64 x.ref.a.1, .int .i64 x.ref.a.2, .bool x.ref.cf, .bool x.ref.rf, .int .i64 x.to.a.1, .int .i64 x.to.a.2, .bool x.to.cf, .bool x.to.rf, .slice none 0 0] rfl rfl 49 _ HRZ.out (by kernel_rfl) rfl (by simp [Value.oneCell']) ?_; rw [HWA.out]))
      have hx := HX2.out
      refine hK _ _ (keepsFrom_xt hx _) (KN.of_xt hx) ⟨⟨grownBy_far HI2.out.grown hx.grownN (fun r e => by cases e), rowX hx HI2.out.row⟩, HIA2.out⟩ ?_
      refine ⟨W.heap.size, by omega, HRA.out, ?_⟩
      simp only [List.setIfInBounds_toArray, List.set_cons_zero, List.set_cons_succ]
    case body2 =>
      rintro l2 pre2 x a2 W hl2 ⟨r2, hr2⟩ ⟨hI2, hIA2⟩ ⟨Bx, nBx, hBx, rfl⟩ hlt2
      subst hA1
      have HI2 := Lib.hid hI2
      have HIA2 := Lib.hid hIA2
      have hX0 : Hid (W0.grownBy W (some (B + 1))) := grownBy_two HI1.out.grown hI2.grown
      have rB := (hX0.out.block B (by omega) (fun e => by have := Option.some.inj e; omega)).trans HR1W.out
      have HRB2 := Lib.hid rB
      have HBXr := Lib.hid hBx
      obtain ⟨⟨c1, c2, c3, c4⟩, _⟩ := cells4 rB
      have HKX : Hid (∀ V, Xt W V → V.cell? ⟨Bx, 0, none⟩ = some (.int .i64 x.kind) ∧ V.cell? ⟨Bx, 6, none⟩ = some (.int .i64 x.ref.a.1) ∧ V.cell? ⟨Bx, 7, none⟩ = some (.int .i64 x.ref.a.2) ∧ V.cell? ⟨Bx, 10, none⟩ = some (.int .i64 x.to.a.1) ∧ V.cell? ⟨Bx, 11, none⟩ = some (.int .i64 x.to.a.2)) := Lib.hid fun V hV => by
        have := rowX hV HBXr.out
        simp [World.cell?, this]
      obtain ⟨vr, hvr⟩ : ∃ v, inA f x.ref.a = v := ⟨_, rfl⟩
      obtain ⟨vm, hvm⟩ : ∃ v, meetB f (arOf x.ref x.to) = v := ⟨_, rfl⟩
      have HCI := Lib.hid (fun V => in_any f.a f.b f.c f.d x.ref.a.1 x.ref.a.2 V)
      rw [show inB f.a f.b f.c f.d x.ref.a.1 x.ref.a.2 = vr from hvr] at HCI
      have HCM := Lib.hid (fun V => meet_any f (arOf x.ref x.to) V HVF.out)
      rw [hvm] at HCM
      obtain ⟨v, hv⟩ : ∃ v, hitN f x = v := ⟨_, rfl⟩
      have HV := Lib.hid hv
      unfold hitN at hv
      rw [hvr, hvm] at hv
      have hf66 : Fence.wide.fn 54 := trivial
      have hf29 : Fence.wide.fn 16 := trivial
      have hW1g : B + 1 < W1.heap.size := by omega
      clear hr2 hI2 hIA2 hBx hlt2 rB hvr hvm
      simp only [List.setIfInBounds_toArray, List.set_cons_zero, List.set_cons_succ]
      have HN2 : Hid (∀ V, Xt W V → v = false → KeepsFrom W1.heap.size W V ∧ KN W V ∧ LV W1 (B + 1) false V ∧ hitL f (pre2 ++ [x]) = false) := Lib.hid fun V hV e => ⟨keepsFrom_xt hV _, KN.of_xt hV, ⟨grownBy_far HI2.out.grown hV.grownN (fun r e => by cases e), rowX hV HI2.out.row⟩, by rw [hitL_snoc, HIA2.out, HV.out, e]; rfl⟩
      have HY2 : Hid (∀ V, Xt W V → v = true → KeepsFrom W1.heap.size W (V.setCell ⟨B + 1, 0, none⟩ (.bool false)) ∧ LV W1 (B + 1) false (V.setCell ⟨B + 1, 0, none⟩ (.bool false)) ∧ hitL f (pre2 ++ [x]) = true) := Lib.hid fun V hV e => by
        have hgs : W.grownBy (V.setCell ⟨B + 1, 0, none⟩ (.bool false)) (some (B + 1)) := grownBy_two (hV.grown (some (B + 1))) (setCell_grown _ _ _ _)
        refine ⟨KeepsFrom.of_grownBy hgs (fun j e => by cases e; omega), ⟨grownBy_two HI2.out.grown hgs, setCell_row (rowX hV HI2.out.row) 0 _⟩, ?_⟩
        rw [hitL_snoc, HV.out, e, Bool.or_true]
      have HC3 : Hid (∀ V, Xt W V → V.cell? ⟨B + 1, 0, none⟩ = some (.bool false) ∧ V.frozen? ⟨B + 1, 0, none⟩ = false) := Lib.hid fun V hV => one_row (rowX hV HI2.out.row)
      obtain ⟨c5, f5⟩ := HC3.out W (Xt.refl W)
      by_cases hk : x.kind = 5
      · rw [hk] at HKX
        obtain ⟨kx, k6, k7, k10, k11⟩ := HKX.out W (Xt.refl W)
        cases vr
        · have he : v = false := by rw [← hv]; simp [hk]
          clear hv hk
          gi_wp2_with (first
            | (gi_at_call 16; refine (callsIn_round (HCI.out _)).mono ?_; rintro e w6 ⟨rfl, hg6⟩; have HX6 : Hid (Xt W w6) := hg6.xt; obtain ⟨kx', k6', k7', k10', k11'⟩ := HKX.out w6 HX6.out; obtain ⟨c5', f5'⟩ := HC3.out w6 HX6.out; clear hg6; obtain ⟨⟨g1, g2, g3, g4⟩, _⟩ := cells4 (rowX HX6.out HRB2.out))
            | (gi_at_call 54; refine (callsIn_round (HCM.out _)).mono ?_; rintro e w7 ⟨⟨ra, rfl⟩, hx7⟩; obtain ⟨w8, hw8⟩ : ∃ w8, w7.alloc (.cells #[.int .i64 ra.a, .int .i64 ra.b, .int .i64 ra.c, .int .i64 ra.d] 26) = w8 := ⟨_, rfl⟩; have HX8 : Hid (Xt W w8) := (by unfold Hid; rw [← hw8]; exact (HX6.out.trans hx7).alloc _); obtain ⟨kx'', k6'', k7'', k10'', k11''⟩ := HKX.out w8 HX8.out; obtain ⟨c5'', f5''⟩ := HC3.out w8 HX8.out; clear hx7))
          all_goals first | (rename_i h1 h2; exact absurd (Option.some.inj h1) (by unfold undef; intro e; cases e)) | exact HN2.out _ HX8.out he
        · have he : v = true := by rw [← hv]; simp [hk]
          clear hv hk
          gi_wp2_with (first
            | (gi_at_call 16; refine (callsIn_round (HCI.out _)).mono ?_; rintro e w6 ⟨rfl, hg6⟩; have HX6 : Hid (Xt W w6) := hg6.xt; obtain ⟨kx', k6', k7', k10', k11'⟩ := HKX.out w6 HX6.out; obtain ⟨c5', f5'⟩ := HC3.out w6 HX6.out; clear hg6; obtain ⟨⟨g1, g2, g3, g4⟩, _⟩ := cells4 (rowX HX6.out HRB2.out)))
          all_goals first | (rename_i h1 h2; exact absurd (Option.some.inj h1) (by unfold undef; intro e; cases e)) | exact ⟨(HY2.out _ HX6.out he).1, rfl, (HY2.out _ HX6.out he).2⟩
      · by_cases hk6 : x.kind = 6
        · rw [hk6] at HKX
          obtain ⟨kx, k6, k7, k10, k11⟩ := HKX.out W (Xt.refl W)
          cases vm
          · have he : v = false := by rw [← hv]; simp [hk6]
            clear hv hk hk6
            gi_wp2_with (first
              | (gi_at_call 54; refine (callsIn_round (HCM.out _)).mono ?_; rintro e w7 ⟨⟨ra, rfl⟩, hx7⟩; obtain ⟨w8, hw8⟩ : ∃ w8, w7.alloc (.cells #[.int .i64 ra.a, .int .i64 ra.b, .int .i64 ra.c, .int .i64 ra.d] 26) = w8 := ⟨_, rfl⟩; have HX8 : Hid (Xt W w8) := (by unfold Hid; rw [← hw8]; exact (hx7).alloc _); obtain ⟨kx'', k6'', k7'', k10'', k11''⟩ := HKX.out w8 HX8.out; obtain ⟨c5'', f5''⟩ := HC3.out w8 HX8.out; clear hx7))
            all_goals first | (rename_i h1 h2; exact absurd (Option.some.inj h1) (by unfold undef; intro e; cases e)) | exact HN2.out _ HX8.out he
          · have he : v = true := by rw [← hv]; simp [hk6]
            clear hv hk hk6
            gi_wp2_with (first
              | (gi_at_call 54; refine (callsIn_round (HCM.out _)).mono ?_; rintro e w7 ⟨⟨ra, rfl⟩, hx7⟩; obtain ⟨w8, hw8⟩ : ∃ w8, w7.alloc (.cells #[.int .i64 ra.a, .int .i64 ra.b, .int .i64 ra.c, .int .i64 ra.d] 26) = w8 := ⟨_, rfl⟩; have HX8 : Hid (Xt W w8) := (by unfold Hid; rw [← hw8]; exact (hx7).alloc _); obtain ⟨kx'', k6'', k7'', k10'', k11''⟩ := HKX.out w8 HX8.out; obtain ⟨c5'', f5''⟩ := HC3.out w8 HX8.out; clear hx7))
            all_goals first | (rename_i h1 h2; exact absurd (Option.some.inj h1) (by unfold undef; intro e; cases e)) | exact ⟨(HY2.out _ HX8.out he).1, rfl, (HY2.out _ HX8.out he).2⟩
        · have he : v = false := by rw [← hv]; simp [hk, hk6]
          obtain ⟨kd, hkd⟩ : ∃ kd, x.kind = kd := ⟨_, rfl⟩
          rw [hkd] at HKX hk hk6
          obtain ⟨kx, k6, k7, k10, k11⟩ := HKX.out W (Xt.refl W)
          have hb5 : (kd == (5 : Int)) = false := by simp [hk]
          have hb6 : (kd == (6 : Int)) = false := by simp [hk6]
          clear hv hkd
          gi_wp2_with (first
            | (gi_at_call 54; refine (callsIn_round (HCM.out _)).mono ?_; rintro e w7 ⟨⟨ra, rfl⟩, hx7⟩; obtain ⟨w8, hw8⟩ : ∃ w8, w7.alloc (.cells #[.int .i64 ra.a, .int .i64 ra.b, .int .i64 ra.c, .int .i64 ra.d] 26) = w8 := ⟨_, rfl⟩; have HX8 : Hid (Xt W w8) := (by unfold Hid; rw [← hw8]; exact (hx7).alloc _); obtain ⟨kx'', k6'', k7'', k10'', k11''⟩ := HKX.out w8 HX8.out; obtain ⟨c5'', f5''⟩ := HC3.out w8 HX8.out; clear hx7))
          all_goals first | (rename_i h1 h2; exact absurd (Option.some.inj h1) (by unfold undef; intro e; cases e)) | exact HN2.out _ HX8.out he
end Go.Proofs.YtdoeejhdenifpaaGreatDoor
/- move, plain: MoveThere's law. -/
namespace Go.Proofs.YtdoeejhdenifpaaGreatDoor
open Go.RowKit Go.Sort

/-! ### what is moved -/
/-- An area, where it is moved to, and how far. -/
structure Mv (f gl : ArT) (cc rr : Int) : Prop where
  x0 : 1 ≤ f.a
  x1 : f.a ≤ f.c
  x2 : f.c ≤ 12
  y0 : 1 ≤ f.b
  y1 : f.b ≤ f.d
  y2 : f.d ≤ 12
  e : gl = ⟨f.a + cc, f.b + rr, f.c + cc, f.d + rr⟩
  u0 : 1 ≤ f.a + cc
  u1 : f.c + cc ≤ 12
  v0 : 1 ≤ f.b + rr
  v1 : f.d + rr ≤ 12
theorem Mv.back {f gl : ArT} {cc rr : Int} (h : Mv f gl cc rr) : Mv gl f (-cc) (-rr) := by
  obtain ⟨x0, x1, x2, y0, y1, y2, e, u0, u1, v0, v1⟩ := h
  subst e
  obtain ⟨a, b, c, d⟩ := f
  simp only at *
  refine ⟨by simp only; omega, by simp only; omega, by simp only; omega, by simp only; omega, by simp only; omega, by simp only; omega, ?_, by simp only; omega, by simp only; omega, by simp only; omega, by simp only; omega⟩
  have e1 : a + cc + -cc = a := by omega
  have e2 : b + rr + -rr = b := by omega
  have e3 : c + cc + -cc = c := by omega
  have e4 : d + rr + -rr = d := by omega
  simp only [e1, e2, e3, e4]
theorem w64 {x : Int} (h0 : -9223372036854775808 ≤ x) (h1 : x ≤ 9223372036854775807) : wrap64 x = x := by unfold wrap64; omega
theorem validB_o2 {a b : Int} (h : 1 ≤ a ∧ a ≤ 256 ∧ 1 ≤ b ∧ b ≤ 4096) : validB a b = true := by
  unfold validB
  simp only [Bool.and_eq_true, decide_eq_true_eq]
  exact ⟨⟨⟨h.1, h.2.1⟩, h.2.2.1⟩, h.2.2.2⟩
theorem vA_o2 {x : ArT} (h : (1 ≤ x.a ∧ x.a ≤ x.c ∧ x.c ≤ 256) ∧ (1 ≤ x.b ∧ x.b ≤ x.d ∧ x.d ≤ 4096)) : vA x = true := by
  unfold vA
  simp only [Bool.and_eq_true, decide_eq_true_eq]
  exact ⟨⟨⟨validB_o2 (by omega), validB_o2 (by omega)⟩, by omega⟩, by omega⟩
theorem Mv.vf {f gl : ArT} {cc rr : Int} (h : Mv f gl cc rr) : vA f = true := vA_o2 (by have := h.x0; have := h.x1; have := h.x2; have := h.y0; have := h.y1; have := h.y2; omega)
theorem Mv.inf {f gl : ArT} {cc rr : Int} (h : Mv f gl cc rr) (a : Ad) : inA f a = true ↔ f.a ≤ a.1 ∧ a.1 ≤ f.c ∧ f.b ≤ a.2 ∧ a.2 ≤ f.d :=
  ⟨fun e => (inA_le e).2, fun e => inA_of h.vf e⟩
theorem Mv.ing {f gl : ArT} {cc rr : Int} (h : Mv f gl cc rr) (a : Ad) : inA gl a = true ↔ f.a + cc ≤ a.1 ∧ a.1 ≤ f.c + cc ∧ f.b + rr ≤ a.2 ∧ a.2 ≤ f.d + rr := by
  have := h.back.inf a
  rw [this, h.e]
theorem Mv.far {f gl : ArT} {cc rr : Int} (h : Mv f gl cc rr) : -12 ≤ cc ∧ cc ≤ 12 ∧ -12 ≤ rr ∧ rr ≤ 12 := by
  have := h.x0; have := h.x1; have := h.x2; have := h.y0; have := h.y1; have := h.y2; have := h.u0; have := h.u1; have := h.v0; have := h.v1; omega
theorem Mv.mov {f gl : ArT} {cc rr : Int} (h : Mv f gl cc rr) {a : Ad} (ha : 1 ≤ a.1 ∧ a.1 ≤ 4096 ∧ 1 ≤ a.2 ∧ a.2 ≤ 4096) : movG cc rr a = (a.1 + cc, a.2 + rr) := by
  have := h.far
  unfold movG
  rw [w64 (by omega) (by omega), w64 (by omega) (by omega)]
theorem Mv.mov_in {f gl : ArT} {cc rr : Int} (h : Mv f gl cc rr) {a : Ad} (ha : inA f a = true) : movG cc rr a = (a.1 + cc, a.2 + rr) ∧ inA gl (a.1 + cc, a.2 + rr) = true := by
  have h1 := (h.inf a).1 ha
  have := h.x0; have := h.x2; have := h.y0; have := h.y2
  exact ⟨h.mov (by omega), (h.ing _).2 (by simp only; omega)⟩
theorem mvC_in {f gl : ArT} {cc rr : Int} {a : Ad} (ha : inA f a = true) : mvC f gl cc rr a = (movG cc rr a, true) := by unfold mvC; rw [if_pos ha]
theorem mvC_out {f gl : ArT} {cc rr : Int} {a : Ad} (ha : ¬ inA f a = true) : mvC f gl cc rr a = (a, !inA gl a) := by unfold mvC; rw [if_neg ha]
theorem Mv.road {f gl : ArT} {cc rr : Int} (h : Mv f gl cc rr) : RoadV (mvC f gl cc rr) (mvA f gl cc rr) := by
  constructor
  · intro a hv ho
    by_cases ha : inA f a = true
    · rw [mvC_in ha, (h.mov_in ha).1]
      have h2 := (h.ing _).1 (h.mov_in ha).2
      simp only at h2 ⊢
      have := h.u0; have := h.u1; have := h.v0; have := h.v1
      exact validB_o2 (by omega)
    · rw [mvC_out ha]; exact hv
  · intro x hv ho
    have v := vA_le hv
    unfold mvA
    by_cases hw : withinA x f = true
    · rw [if_pos hw]
      unfold withinA at hw
      simp only [Bool.and_eq_true] at hw
      obtain ⟨e1, i1⟩ := h.mov_in hw.1
      obtain ⟨e2, i2⟩ := h.mov_in hw.2
      have j1 := (h.ing _).1 i1
      have j2 := (h.ing _).1 i2
      have := h.u0; have := h.u1; have := h.v0; have := h.v1
      simp only [e1, e2] at *
      exact vA_o2 (by simp only; omega)
    · rw [if_neg hw]; exact hv
theorem Mv.inj {f gl : ArT} {cc rr : Int} (h : Mv f gl cc rr) {a b : Ad} (oa : (mvC f gl cc rr a).2 = true) (ob : (mvC f gl cc rr b).2 = true) (he : (mvC f gl cc rr a).1 = (mvC f gl cc rr b).1) : a = b := by
  by_cases ha : inA f a = true
  · by_cases hb : inA f b = true
    · rw [mvC_in ha, mvC_in hb] at he
      simp only [(h.mov_in ha).1, (h.mov_in hb).1, Prod.mk.injEq] at he
      exact Prod.ext (by omega) (by omega)
    · rw [mvC_out hb] at ob he
      rw [mvC_in ha] at he
      simp only [(h.mov_in ha).1] at he
      have := (h.mov_in ha).2
      rw [he] at this
      simp [this] at ob
  · by_cases hb : inA f b = true
    · rw [mvC_out ha] at oa he
      rw [mvC_in hb] at he
      simp only [(h.mov_in hb).1] at he
      have := (h.mov_in hb).2
      rw [← he] at this
      simp [this] at oa
    · rw [mvC_out ha, mvC_out hb] at he
      exact he
/-! ### a grid that is moved -/
theorem goAll_allP (cG : Ad → Ad × Bool) (aG : ArT → ArT × Bool) (l : PG) : goAll cG aG l = allP [] (goP cG aG l) := by
  refine snoc_ind (P := fun l => goAll cG aG l = allP [] (goP cG aG l)) rfl (fun l x ih => ?_) l
  rw [goAll_snoc, ih, goP_snoc]
  unfold goStep
  split
  · rw [allP_snoc]
  · rfl
theorem perm_all : ∀ {l : List (Ad × ContT)}, (∀ x ∈ l, validB x.1.1 x.1.2 = true ∧ gvalidB x.2 = true ∧ (x.2.kind == 0) = false ∧ copyC x.2 = x.2 ∧ x.2.ok) → (l.map (·.1)).Nodup → l.length ≤ 4096 → SortedM (allP [] l) ∧ (allP [] l).Perm l := by
  intro l
  refine snoc_ind (P := fun l => (∀ x ∈ l, validB x.1.1 x.1.2 = true ∧ gvalidB x.2 = true ∧ (x.2.kind == 0) = false ∧ copyC x.2 = x.2 ∧ x.2.ok) → (l.map (·.1)).Nodup → l.length ≤ 4096 → SortedM (allP [] l) ∧ (allP [] l).Perm l) ?_ ?_ l
  · exact fun _ _ _ => ⟨List.Pairwise.nil, List.Perm.refl _⟩
  · intro l x ih hm hn hl
    rw [List.map_append, List.nodup_append] at hn
    obtain ⟨h1, h2⟩ := ih (fun y hy => hm y (List.mem_append_left _ hy)) hn.1 (by simp at hl; omega)
    have hno : lkM x.1 (allP [] l) = none := lkM_none.2 fun y hy e => hn.2.2 y.1 (List.mem_map.2 ⟨y, h2.mem_iff.1 hy, rfl⟩) x.1 (by simp) e
    have hlen : (allP [] l).length < 4096 := by have := h2.length_eq; simp at hl; omega
    obtain ⟨_, hp⟩ := put_new hno hlen (hm x (by simp))
    rw [allP_snoc, hp]
    exact ⟨sorted_setM _ _ h1, (setM_perm hno).trans ((h2.cons x).trans (List.perm_append_singleton x l).symm)⟩
section
variable {f gl : ArT} {cc rr : Int} {g : PG}
theorem Mv.each (h : Mv f gl cc rr) (hg : GOk g) : ∀ x ∈ goP (mvC f gl cc rr) (mvA f gl cc rr) g, validB x.1.1 x.1.2 = true ∧ gvalidB x.2 = true ∧ (x.2.kind == 0) = false ∧ copyC x.2 = x.2 ∧ x.2.ok := by
  intro y hy
  obtain ⟨z, hz, rfl⟩ := List.mem_map.1 hy
  obtain ⟨hz1, hz2⟩ := List.mem_filter.1 hz
  obtain ⟨v1, v2, v3, v4, v5⟩ := hg.each z hz1
  exact ⟨h.road.cell _ v1 hz2, contG_valid h.road v2, by rw [contG_kind]; exact v3, contG_copy _ _ z.2, contG_ok (okC_copy v5)⟩
theorem Mv.perm (h : Mv f gl cc rr) (hg : GOk g) : SortedM (goAll (mvC f gl cc rr) (mvA f gl cc rr) g) ∧ (goAll (mvC f gl cc rr) (mvA f gl cc rr) g).Perm (goP (mvC f gl cc rr) (mvA f gl cc rr) g) := by
  rw [goAll_allP]
  refine perm_all (h.each hg) ?_ ?_
  · unfold goP List.Nodup
    rw [List.map_map, List.pairwise_map, List.pairwise_filter]
    refine hg.sorted.imp_of_mem fun {a b} ha hb hl oa ob e => ?_
    have := h.inj oa ob e
    rw [this, adLt_irrefl] at hl; cases hl
  · have : (goP (mvC f gl cc rr) (mvA f gl cc rr) g).length ≤ g.length := by unfold goP; rw [List.length_map]; exact List.length_filter_le ..
    have := hg.many
    omega
theorem Mv.ok (h : Mv f gl cc rr) (hg : GOk g) : GOk (goAll (mvC f gl cc rr) (mvA f gl cc rr) g) := by
  obtain ⟨h1, h2⟩ := h.perm hg
  refine ⟨h1, ?_, fun x hx => h.each hg x (h2.mem_iff.1 hx)⟩
  have : (goP (mvC f gl cc rr) (mvA f gl cc rr) g).length ≤ g.length := by unfold goP; rw [List.length_map]; exact List.length_filter_le ..
  have := hg.many
  have := h2.length_eq
  omega
theorem Mv.bulk (h : Mv f gl cc rr) (hg : GOk g) (hb : BulkP g) : BulkP (goAll (mvC f gl cc rr) (mvA f gl cc rr) g) := fun x hx => bulk_go hg hb x ((h.perm hg).2.mem_iff.1 hx)
theorem lostP_perm {l k : PG} (h : l.Perm k) : lostP l = lostP k := by
  induction h with
  | nil => rfl
  | cons x _ ih => rw [lostP, lostP, ih]
  | swap x y l => rw [lostP, lostP, lostP, lostP]; omega
  | trans _ _ i1 i2 => exact i1.trans i2
/-- As many cells: nothing was written over, and no fault has gone. -/
theorem Mv.lost (h : Mv f gl cc rr) (hg : GOk g) (hl : (goAll (mvC f gl cc rr) (mvA f gl cc rr) g).length = g.length) : lostP g ≤ lostP (goAll (mvC f gl cc rr) (mvA f gl cc rr) g) := by
  have hp := (h.perm hg).2
  rw [lostP_perm hp]
  have hl2 : (goP (mvC f gl cc rr) (mvA f gl cc rr) g).length = g.length := hp.length_eq.symm.trans hl
  have ha : ∀ x ∈ g, (mvC f gl cc rr x.1).2 = true := by
    unfold goP at hl2
    rw [List.length_map] at hl2
    exact List.filter_eq_self.1 (List.filter_sublist.eq_of_length hl2)
  exact (lostP_goP (fun x hx => ⟨okCt_of hg x hx, ha x hx⟩)).1
theorem lkM_map_none {α : Type} {a : Ad} {M : List (Ad × α)} (h : ∀ v, (a, v) ∉ M) : lkM a M = none := by
  cases e : lkM a M with
  | none => rfl
  | some v => exact absurd (lkM_mem e) (h v)
/-- What lies in a cell of the grid that was moved. -/
theorem Mv.get (h : Mv f gl cc rr) (hg : GOk g) (a : Ad) :
    lkM a (goAll (mvC f gl cc rr) (mvA f gl cc rr) g) = (if inA gl a = true then lkM (a.1 + -cc, a.2 + -rr) g else if inA f a = true then none else lkM a g).map (contG (mvC f gl cc rr) (mvA f gl cc rr)) := by
  obtain ⟨hs, hp⟩ := h.perm hg
  have hin : ∀ b v, (b, v) ∈ g → (mvC f gl cc rr b).2 = true → (mvC f gl cc rr b).1 = a → lkM a (goAll (mvC f gl cc rr) (mvA f gl cc rr) g) = some (contG (mvC f gl cc rr) (mvA f gl cc rr) v) := fun b v hb ho he => by
    refine lkM_of_mem hs (hp.mem_iff.2 (List.mem_map.2 ⟨(b, v), List.mem_filter.2 ⟨hb, ho⟩, ?_⟩))
    simp only [he]
    rw [(hg.each _ hb).2.2.2.1]
  have hno : ∀ b v, (b, v) ∈ goAll (mvC f gl cc rr) (mvA f gl cc rr) g → ∃ x ∈ g, (mvC f gl cc rr x.1).2 = true ∧ (mvC f gl cc rr x.1).1 = b := fun b v hb => by
    obtain ⟨x, hx, e⟩ := List.mem_map.1 (hp.mem_iff.1 hb)
    obtain ⟨h1, h2⟩ := List.mem_filter.1 hx
    exact ⟨x, h1, h2, congrArg Prod.fst e⟩
  by_cases i1 : inA gl a = true
  · rw [if_pos i1]
    have j1 := (h.ing a).1 i1
    have i2 : inA f (a.1 + -cc, a.2 + -rr) = true := (h.inf _).2 (by simp only; omega)
    have e2 : mvC f gl cc rr (a.1 + -cc, a.2 + -rr) = (a, true) := by
      rw [mvC_in i2, (h.mov_in i2).1]
      refine Prod.ext (Prod.ext ?_ ?_) rfl <;> (simp only; omega)
    cases hl : lkM (a.1 + -cc, a.2 + -rr) g with
    | some v => exact hin _ v (lkM_mem hl) (by rw [e2]) (by rw [e2])
    | none =>
      refine lkM_map_none fun v hv => ?_
      obtain ⟨x, hx, o1, o2⟩ := hno _ _ hv
      by_cases i3 : inA f x.1 = true
      · have : x.1 = (a.1 + -cc, a.2 + -rr) := h.inj o1 (by rw [e2]) (by rw [o2, e2])
        exact lkM_none.1 hl x hx this
      · rw [mvC_out i3] at o1 o2
        simp only at o1 o2
        rw [o2, i1] at o1
        cases o1
  · rw [if_neg i1]
    by_cases i2 : inA f a = true
    · rw [if_pos i2]
      refine lkM_map_none fun v hv => ?_
      obtain ⟨x, hx, o1, o2⟩ := hno _ _ hv
      by_cases i3 : inA f x.1 = true
      · rw [mvC_in i3, (h.mov_in i3).1] at o2
        have := (h.mov_in i3).2
        simp only at o2
        rw [o2] at this
        exact i1 this
      · rw [mvC_out i3] at o2
        simp only at o2
        rw [o2] at i3
        exact i3 i2
    · rw [if_neg i2]
      have e2 : mvC f gl cc rr a = (a, true) := by rw [mvC_out i2]; simp [i1]
      cases hl : lkM a g with
      | some v => exact hin _ v (lkM_mem hl) (by rw [e2]) (by rw [e2])
      | none =>
        refine lkM_map_none fun v hv => ?_
        obtain ⟨x, hx, o1, o2⟩ := hno _ _ hv
        have : x.1 = a := h.inj o1 (by rw [e2]) (by rw [o2, e2])
        exact lkM_none.1 hl x hx this
/-! ### there and back -/
theorem busy_not (hb : busyP gl g = false) : ∀ x ∈ g, ¬ inA gl x.1 = true ∧ ∀ y ∈ flatT x.2.t, hitN gl y = false := fun x hx => by
  unfold busyP at hb
  have h1 := List.any_eq_false.1 hb x hx
  simp only [Bool.or_eq_true, not_or] at h1
  refine ⟨h1.1, fun y hy => Bool.eq_false_iff.2 fun e => h1.2 ?_⟩
  exact List.any_eq_true.2 ⟨y, hy, e⟩
theorem Mv.cell_back (h : Mv f gl cc rr) {a : Ad} (hn : ¬ inA gl a = true) : (mvC f gl cc rr a).2 = true ∧ mvC gl f (-cc) (-rr) (mvC f gl cc rr a).1 = (a, true) := by
  by_cases ha : inA f a = true
  · rw [mvC_in ha, (h.mov_in ha).1]
    refine ⟨rfl, ?_⟩
    have hi := (h.mov_in ha).2
    rw [mvC_in hi, (h.back.mov_in hi).1]
    refine Prod.ext (Prod.ext ?_ ?_) rfl <;> (simp only; omega)
  · rw [mvC_out ha]
    refine ⟨by simp [hn], ?_⟩
    rw [mvC_out hn]
    simp [ha]
theorem within_meet {f x : ArT} (hv : vA x = true) (hw : withinA x f = true) : meetB f x = true := by
  unfold withinA at hw
  simp only [Bool.and_eq_true] at hw
  obtain ⟨vf, a1, a2, a3, a4⟩ := inA_le hw.1
  obtain ⟨_, b1, b2, b3, b4⟩ := inA_le hw.2
  simp only at a1 a2 a3 a4 b1 b2 b3 b4
  have e : meetA f x = x := by
    unfold meetA
    rw [Int.max_eq_right a1, Int.max_eq_right a3, Int.min_eq_right b2, Int.min_eq_right b4]
  unfold meetB
  rw [e, show vaA f = true from vf, show vaA x = true from hv]; rfl
theorem Mv.area_back (h : Mv f gl cc rr) {x : ArT} (hv : vA x = true) (hn : meetB gl x = false) : (mvA f gl cc rr x).2 = true ∧ mvA gl f (-cc) (-rr) (mvA f gl cc rr x).1 = (x, true) := by
  have hw2 : ¬ withinA x gl = true := fun e => by rw [within_meet hv e] at hn; cases hn
  by_cases hw : withinA x f = true
  · have hwe := hw
    unfold withinA at hwe
    simp only [Bool.and_eq_true] at hwe
    obtain ⟨e1, i1⟩ := h.mov_in hwe.1
    obtain ⟨e2, i2⟩ := h.mov_in hwe.2
    have ea : mvA f gl cc rr x = (⟨x.a + cc, x.b + rr, x.c + cc, x.d + rr⟩, true) := by unfold mvA; rw [if_pos hw, e1, e2]
    rw [ea]
    refine ⟨rfl, ?_⟩
    have hb : withinA ⟨x.a + cc, x.b + rr, x.c + cc, x.d + rr⟩ gl = true := by
      unfold withinA
      rw [i1, i2]; rfl
    unfold mvA
    rw [if_pos hb, (h.back.mov_in i1).1, (h.back.mov_in i2).1]
    obtain ⟨xa, xb, xc, xd⟩ := x
    have q1 : xa + cc + -cc = xa := by omega
    have q2 : xb + rr + -rr = xb := by omega
    have q3 : xc + cc + -cc = xc := by omega
    have q4 : xd + rr + -rr = xd := by omega
    simp only [q1, q2, q3, q4]
  · have ea : mvA f gl cc rr x = (x, true) := by unfold mvA; rw [if_neg hw]; simp [hw2]
    rw [ea]
    refine ⟨rfl, ?_⟩
    unfold mvA
    rw [if_neg hw2]
    simp [hw]
theorem Mv.there (h : Mv f gl cc rr) (hg : GOk g) (hb : busyP gl g = false) :
    goAll (mvC gl f (-cc) (-rr)) (mvA gl f (-cc) (-rr)) (goAll (mvC f gl cc rr) (mvA f gl cc rr) g) = g ∧ lostP (goAll (mvC f gl cc rr) (mvA f gl cc rr) g) = lostP g := by
  have hbn := busy_not hb
  have hX := h.ok hg
  obtain ⟨s1, p1⟩ := h.perm hg
  obtain ⟨s2, p2⟩ := h.back.perm hX
  have e := goP_comp (cG2 := mvC gl f (-cc) (-rr)) (aG2 := mvA gl f (-cc) (-rr)) (cG1 := mvC f gl cc rr) (aG1 := mvA f gl cc rr) (cG3 := cI) (aG3 := aI) (l := g) (fun x hx => ⟨fun ho => ⟨(h.cell_back (hbn x hx).1).2, contG_comp (okCt_of hg x hx) (fun hk y hy h56 => by
    have ok := flat_okN x.2.t false ((okCt_of hg x hx).fault hk) y hy
    have hh := (hbn x hx).2 y hy
    unfold hitN at hh
    simp only [Bool.or_eq_false_iff, Bool.and_eq_false_iff, decide_eq_false_iff_not] at hh
    refine head_comp h56 (fun e5 => ?_) (fun e6 => ?_)
    · have hn : ¬ inA gl y.ref.a = true := by rcases hh.1 with q | q; exact absurd e5 q; rw [q]; decide
      exact ⟨fun _ => (h.cell_back hn).2, fun hq => absurd (h.cell_back hn).1 hq⟩
    · have hn : meetB gl (arOf y.ref y.to) = false := by rcases hh.2 with q | q; exact absurd e6 q; exact q
      obtain ⟨a1, a2⟩ := h.area_back (ok.2 e6) hn
      exact ⟨fun _ => a2, fun hq => absurd a1 hq⟩)⟩, fun ho => absurd (h.cell_back (hbn x hx).1).1 ho⟩)
  rw [goP_id (okCt_of hg)] at e
  refine ⟨sortedM_perm s2 hg.sorted (p2.trans ?_), ?_⟩
  · have p3 : (goP (mvC gl f (-cc) (-rr)) (mvA gl f (-cc) (-rr)) (goAll (mvC f gl cc rr) (mvA f gl cc rr) g)).Perm (goP (mvC gl f (-cc) (-rr)) (mvA gl f (-cc) (-rr)) (goP (mvC f gl cc rr) (mvA f gl cc rr) g)) := by
      unfold goP
      exact (p1.filter _).map _
    rw [e] at p3
    exact p3
  · rw [lostP_perm p1]
    have : ∀ {l : PG}, (∀ x ∈ l, okCt x.2 ∧ (mvC f gl cc rr x.1).2 = true ∧ ∀ y ∈ flatT x.2.t, lostH (mvC f gl cc rr) (mvA f gl cc rr) y = false) → lostP (goP (mvC f gl cc rr) (mvA f gl cc rr) l) = lostP l := by
      intro l
      induction l with
      | nil => intro _; rfl
      | cons x l ih =>
        intro hl
        obtain ⟨h1, h2, h3⟩ := hl x List.mem_cons_self
        have e := contG_faults (cG := mvC f gl cc rr) (aG := mvA f gl cc rr) h1
        have z : lostC (mvC f gl cc rr) (mvA f gl cc rr) (flatT x.2.t) = 0 := by
          unfold lostC
          rw [List.filter_eq_nil_iff.2 (fun y hy => by rw [h3 y hy]; decide)]; rfl
        rw [goP_cons, if_pos h2, lostP, lostP, ih (fun y hy => hl y (List.mem_cons_of_mem _ hy))]
        simp only
        rw [h1.2.2, e, z]; omega
    refine this fun x hx => ⟨okCt_of hg x hx, (h.cell_back (hbn x hx).1).1, fun y hy => ?_⟩
    by_cases hk : x.2.kind = 2
    · have ok := flat_okN x.2.t false ((okCt_of hg x hx).fault hk) y hy
      have hh := (hbn x hx).2 y hy
      unfold hitN at hh
      simp only [Bool.or_eq_false_iff, Bool.and_eq_false_iff, decide_eq_false_iff_not] at hh
      unfold lostH
      simp only [Bool.or_eq_false_iff, Bool.and_eq_false_iff, decide_eq_false_iff_not, Bool.not_eq_false']
      constructor
      · by_cases e5 : y.kind = 5
        · have hn : ¬ inA gl y.ref.a = true := by rcases hh.1 with q | q; exact absurd e5 q; rw [q]; decide
          exact Or.inr (h.cell_back hn).1
        · exact Or.inl e5
      · by_cases e6 : y.kind = 6
        · have hn : meetB gl (arOf y.ref y.to) = false := by rcases hh.2 with q | q; exact absurd e6 q; exact q
          exact Or.inr (h.area_back (ok.2 e6) hn).1
        · exact Or.inl e6
    · obtain ⟨e1, e2⟩ := (okCt_of hg x hx).plain hk
      rw [e1] at hy
      rw [List.mem_singleton.1 hy]
      have hk2 : (leafN x.2.t).kind = x.2.t.kind := by cases x.2.t; rfl
      unfold lostH
      rw [hk2, e2]; rfl
end
end Go.Proofs.YtdoeejhdenifpaaGreatDoor
/- MoveThere's walk (made by mkr10.py). -/
namespace Go.Proofs.YtdoeejhdenifpaaGreatDoor
open Go.RowKit Go.Sort Go.Maps Go.Shelf Go.MapKept
attribute [local go_sem] Oper.semAt_some

theorem small_mv (x : ArT) (y : Ad) : Mv (smallA x) ⟨(smallC y).1, (smallC y).2, (smallA x).c + ((smallC y).1 - (smallA x).a), (smallA x).d + ((smallC y).2 - (smallA x).b)⟩ ((smallC y).1 - (smallA x).a) ((smallC y).2 - (smallA x).b) := by
  have b1 := pickZ_lt (c := x.a) (n := 6) (by omega)
  have b2 := pickZ_lt (c := x.b) (n := 6) (by omega)
  have b3 := pickZ_lt (c := x.c) (n := 3) (by omega)
  have b4 := pickZ_lt (c := x.d) (n := 3) (by omega)
  have b5 := pickZ_lt (c := y.1) (n := 7) (by omega)
  have b6 := pickZ_lt (c := y.2) (n := 7) (by omega)
  unfold smallA smallC
  refine ⟨by simp only; omega, by simp only; omega, by simp only; omega, by simp only; omega, by simp only; omega, by simp only; omega, ?_, by simp only; omega, by simp only; omega, by simp only; omega, by simp only; omega⟩
  simp only [ArT.mk.injEq, true_and]
  refine ⟨?_, ?_, trivial⟩ <;> omega
theorem now_law (cG : Ad → Ad × Bool) (aG : ArT → ArT × Bool) (o : Option ContT) : ((o.map (contG cG aG)).getD zeroC).kind = (o.getD zeroC).kind ∧ ((o.getD zeroC).kind = 1 → (o.map (contG cG aG)).getD zeroC = o.getD zeroC) := by
  cases o with
  | none => exact ⟨rfl, fun _ => rfl⟩
  | some c => exact ⟨contG_kind cG aG c, fun h => contG_1 h⟩
theorem plain_args {g : PG} (hg : GOk g) (a : Ad) (hk : ((lkM a g).getD zeroC).kind = 1) : ((lkM a g).getD zeroC).t.args = [] := by
  cases e : lkM a g with
  | none => rfl
  | some c =>
    rw [e] at hk
    have hc := okCt_of hg _ (lkM_mem e)
    have h1 := (hc.plain (by show c.kind ≠ 2; have : c.kind = 1 := hk; omega)).1
    show c.t.args = []
    rw [flatT_eq] at h1
    have h2 : flatL c.t.args = [] := by simpa using h1
    cases ea : c.t.args with
    | nil => rfl
    | cons t l =>
      rw [ea, flatL] at h2
      have := flat_pos t
      rw [List.append_eq_nil_iff] at h2
      rw [h2.1] at this; simp at this
theorem argsIn_nil (w : World) (a : Option Addr) (l : List NodeT) (h : l = []) : ArgsIn w 1 (.slice a l.length l.length) l := by
  subst h
  exact ⟨a, 0, rfl, by simp, by simp, fun hne => absurd rfl hne⟩
theorem copy_args {c : ContT} (h : c.t.args = []) : (copyC c).t.args = [] := by
  show (copyT c.t).args = []
  rw [copyT_args, h]; rfl
set_option maxRecDepth 100000 in
set_option maxHeartbeats 4000000 in
theorem moveThere_any (l : List PI) (lv : Value) (kk aa nn : Int) (x : ArT) (y : Ad) (w : World) (hT : Tabs w) (hl : PutsIn w lv l) (hs : ∀ x ∈ l, smallT x.c.t) (hbk : BulkP (pis l)) (hb : I64 x.a ∧ I64 x.b ∧ I64 x.c ∧ I64 x.d ∧ I64 y.1 ∧ I64 y.2) :
    Calls Tryz.prog 3 #[lv, .agg #[.int .i64 kk, .int .i64 aa, .int .i64 nn, .int .i64 x.a, .int .i64 x.b, .int .i64 x.c, .int .i64 x.d, .int .i64 y.1, .int .i64 y.2]] w fun e w' => e = .returned (.bool true) ∧ Xt w w' := by
  obtain ⟨la, lc, rfl, hlc, hlc2⟩ := hl.shape
  have HOK0 := Lib.hid (fun M (hE : er M = allP [] (pis l)) => (show GOk (er M) ∧ BulkP (er M) by rw [hE]; exact ⟨allP_ok GOk.nil (pis_ok hl), bulk_all hbk⟩))
  have HT := Lib.hid hT
  have HL := Lib.hid hl
  have HS := Lib.hid hs
  have HSM := Lib.hid (fun V => small_any kk aa nn x y V hb)
  have hmv := small_mv x y
  obtain ⟨f, hf⟩ : ∃ f, smallA x = f := ⟨_, rfl⟩
  obtain ⟨g, hg⟩ : ∃ g, smallC y = g := ⟨_, rfl⟩
  rw [hf, hg] at HSM hmv
  obtain ⟨cc, hcc⟩ : ∃ c, g.1 - f.a = c := ⟨_, rfl⟩
  obtain ⟨rr, hrr⟩ : ∃ c, g.2 - f.b = c := ⟨_, rfl⟩
  rw [hcc, hrr] at hmv
  have hfar := hmv.far
  obtain ⟨x0, x1, x2, y0, y1, y2, _, u0, u1, v0, v1⟩ := id hmv
  obtain ⟨gl, hgl⟩ : ∃ gl : ArT, ⟨g.1, g.2, f.c + cc, f.d + rr⟩ = gl := ⟨_, rfl⟩
  rw [hgl] at hmv
  have HMV := Lib.hid hmv
  have g1 : gl.a = g.1 := by rw [← hgl]
  have g2 : gl.b = g.2 := by rw [← hgl]
  have g3 : gl.c = f.c + cc := by rw [← hgl]
  have g4 : gl.d = f.d + rr := by rw [← hgl]
  have wc1 : IntKind.i64.wrap (g.1 - f.a) = cc := by rw [wrap_idz (by omega) (by omega)]; exact hcc
  have wc2 : IntKind.i64.wrap (g.2 - f.b) = rr := by rw [wrap_idz (by omega) (by omega)]; exact hrr
  have wd1 : wrap64 (g.1 - f.a) = cc := by rw [w64 (by omega) (by omega)]; exact hcc
  have wd2 : wrap64 (g.2 - f.b) = rr := by rw [w64 (by omega) (by omega)]; exact hrr
  have wl1 : wrap64 (f.c + cc) = gl.c := by rw [w64 (by omega) (by omega), ← hgl]
  have wl2 : wrap64 (f.d + rr) = gl.d := by rw [w64 (by omega) (by omega), ← hgl]
  have HSH := Lib.hid (fun V => shifted_any (f.c, f.d) cc rr V)
  simp only [wl1, wl2] at HSH
  have hlast : lastOf f g = (gl.c, gl.d) := by
    unfold lastOf
    rw [← hgl]
    refine Prod.ext ?_ ?_
    · simp only
      rw [w64 (x := g.1 + f.c) (by omega) (by omega), w64 (by omega) (by omega)]; omega
    · simp only
      rw [w64 (x := g.2 + f.d) (by omega) (by omega), w64 (by omega) (by omega)]; omega
  have htha : thereA f g = gl := by unfold thereA; rw [hlast, ← hgl]
  have HMOVE := Lib.hid (fun gb mb M V (hG : GridIs V gb mb M) (hT : Tabs V) (hO : GOk (er M)) => move_any f g gb mb M V hG hT hO (HMV.out.vf) (validB_of (by omega)) (by rw [hlast, ← hgl]; exact validB_of (by simp only; omega)))
  simp only [htha, show farC f g = cc from wd1, show farR f g = rr from wd2] at HMOVE
  have hglb : vA gl = true := hmv.back.vf
  have HB := Lib.hid (show 1 ≤ f.a ∧ f.a ≤ f.c ∧ f.c ≤ 12 ∧ 1 ≤ f.b ∧ f.b ≤ f.d ∧ f.d ≤ 12 ∧ f.a + cc = g.1 ∧ f.b + rr = g.2 ∧ gl.a = g.1 ∧ gl.b = g.2 ∧ gl.c = f.c + cc ∧ gl.d = f.d + rr from ⟨x0, x1, x2, y0, y1, y2, by omega, by omega, g1, g2, g3, g4⟩)
  obtain ⟨B, hB⟩ : ∃ B, w.heap.size = B := ⟨_, rfl⟩
  obtain ⟨w0, hw0⟩ : ∃ w0, w.alloc (.cells #[.int .i64 kk, .int .i64 aa, .int .i64 nn, .int .i64 x.a, .int .i64 x.b, .int .i64 x.c, .int .i64 x.d, .int .i64 y.1, .int .i64 y.2] 28) = w0 := ⟨_, rfl⟩
  have hs0 : w0.heap.size = B + 1 := by rw [← hw0, ← hB]; simp
  obtain ⟨w1, hw1⟩ : ∃ w1, w0.alloc (.cells #[.bool false] 4) = w1 := ⟨_, rfl⟩
  have hs1 : w1.heap.size = B + 1 + 1 := by rw [← hw1]; simp [hs0]
  have HX1 : Hid (Xt w w1) := by unfold Hid; rw [← hw1, ← hw0]; exact ((Xt.refl _).alloc _).alloc _
  have HR0 : Hid (w1.heap[B]? = some (.cells #[.int .i64 kk, .int .i64 aa, .int .i64 nn, .int .i64 x.a, .int .i64 x.b, .int .i64 x.c, .int .i64 x.d, .int .i64 y.1, .int .i64 y.2] 28 (0, 0))) := rowX (w := w0) (by rw [← hw1]; exact (Xt.refl _).alloc _) (by rw [← hw0, ← hB]; exact (MapKept.heap_alloc w _).1)
  have HR1 : Hid (w1.heap[B + 1]? = some (.cells #[.bool false] 4 (0, 0))) := by unfold Hid; rw [← hw1, ← hs0]; exact (MapKept.heap_alloc w0 _).1
  clear hT hl hs hbk hb hf hg hcc hrr hmv hfar x0 x1 x2 y0 y1 y2 u0 u1 v0 v1 hgl hlast htha wd1 wd2
  clear wl1 wl2 g1 g2 g3 g4
  refine (callsIn_wide (n := 25)).1 ?_
  refine callsIn_of_wp_marks Tryz.func3 rfl trivial ?_ rfl
  simp only [Tryz.ntmps3, List.size_toArray, List.length_cons, List.length_nil, Nat.reduceAdd, Nat.reduceSub, Array.replicate_succ, Array.replicate_zero, List.push_toArray, List.append_toArray, List.nil_append, List.cons_append]
  refine wpIn_wide.2 ?_
  refine wp_mono (Q := noPanic (bodyPostM Fence.wide 25 Tryz.prog Tryz.f3 (fun e w' => e = .returned (.bool true) ∧ Xt w w'))) ?_ noPanic_le
  go_upto_region 7 with (first
    | (go_at_call 8; refine (made22_any l (.slice la l.length lc) w1 (HT.out.xt HX1.out) (HL.out.xt HX1.out) HS.out).mono ?_; rintro e w2 ⟨gb, mb, M, rfl, hG, hE, hx2⟩; obtain ⟨K5, hK5⟩ : ∃ K, w2.heap.size = K := ⟨_, rfl⟩; obtain ⟨w3, hw3⟩ : ∃ w3, w2.alloc (.cells #[.pointer (some ⟨gb, 0, none⟩)] 29) = w3 := ⟨_, rfl⟩; have HX3 : Hid (Xt w1 w3) := (by unfold Hid; rw [← hw3]; exact hx2.alloc _); have HR5 : Hid (w3.heap[K5]? = some (.cells #[.pointer (some ⟨gb, 0, none⟩)] 29 (0, 0))) := (by unfold Hid; rw [← hw3, ← hK5]; exact (MapKept.heap_alloc w2 _).1); have HG3 : Hid (GridIs w3 gb mb M) := (by unfold Hid; rw [← hw3]; exact hG.xt ((Xt.refl _).alloc _)); have HE := Lib.hid hE; obtain ⟨e5, _⟩ := one_row HR5.out; have hK1 : B + 1 < K5 := (by have := hx2.size; omega); clear hG hE hx2)
    | (go_at_call 9; refine (known_any _ (HT.out.xt (HX1.out.trans HX3.out))).mono ?_; rintro e w4 ⟨rfl, hx4⟩; have HX34 : Hid (Xt w3 w4) := hx4; have HX14 : Hid (Xt w1 w4) := HX3.out.trans hx4; obtain ⟨z0, z1, z2, z3, z4, z5, z6, z7, z8⟩ := cells9 (rowX HX14.out HR0.out); clear hx4)
    | (go_at_call 10; refine (HSM.out _).mono ?_; rintro e w5 ⟨rfl, hx5⟩; have HX35 : Hid (Xt w3 w5) := HX34.out.trans hx5; obtain ⟨K6, hK6⟩ : ∃ K, w5.heap.size = K := ⟨_, rfl⟩; have hK56 : K5 < K6 := (by have h1 := HX35.out.size; have h2 := (Array.getElem?_eq_some_iff.1 HR5.out).1; omega); clear hx5))
  obtain ⟨w6, hw6⟩ : ∃ w6, (((w5.alloc (.cells #[.int .i64 f.a, .int .i64 f.b, .int .i64 f.c, .int .i64 f.d] 26)).alloc (.cells #[.int .i64 g.1, .int .i64 g.2] 24)).alloc (.cells #[.int .i64 cc] 3)).alloc (.cells #[.int .i64 rr] 3) = w6 := ⟨_, rfl⟩
  have hs6 : w6.heap.size = K6 + 1 + 1 + 1 + 1 := by rw [← hw6]; simp [hK6]
  have HX36 : Hid (Xt w3 w6) := by unfold Hid; rw [← hw6]; exact ((((HX35.out).alloc _).alloc _).alloc _).alloc _
  have HRF : Hid (w6.heap[K6]? = some (.cells #[.int .i64 f.a, .int .i64 f.b, .int .i64 f.c, .int .i64 f.d] 26 (0, 0))) := rowX (w := w5.alloc (.cells #[.int .i64 f.a, .int .i64 f.b, .int .i64 f.c, .int .i64 f.d] 26)) (by rw [← hw6]; exact (((Xt.refl _).alloc _).alloc _).alloc _) (by rw [← hK6]; exact (MapKept.heap_alloc w5 _).1)
  have HRG : Hid (w6.heap[K6 + 1]? = some (.cells #[.int .i64 g.1, .int .i64 g.2] 24 (0, 0))) := rowX (w := (w5.alloc (.cells #[.int .i64 f.a, .int .i64 f.b, .int .i64 f.c, .int .i64 f.d] 26)).alloc (.cells #[.int .i64 g.1, .int .i64 g.2] 24)) (by rw [← hw6]; exact ((Xt.refl _).alloc _).alloc _) (by have := (MapKept.heap_alloc (w5.alloc (.cells #[.int .i64 f.a, .int .i64 f.b, .int .i64 f.c, .int .i64 f.d] 26)) (.cells #[.int .i64 g.1, .int .i64 g.2] 24)).1; simpa [hK6] using this)
  have HRC : Hid (w6.heap[K6 + 1 + 1]? = some (.cells #[.int .i64 cc] 3 (0, 0))) := rowX (w := ((w5.alloc (.cells #[.int .i64 f.a, .int .i64 f.b, .int .i64 f.c, .int .i64 f.d] 26)).alloc (.cells #[.int .i64 g.1, .int .i64 g.2] 24)).alloc (.cells #[.int .i64 cc] 3)) (by rw [← hw6]; exact (Xt.refl _).alloc _) (by have := (MapKept.heap_alloc ((w5.alloc (.cells #[.int .i64 f.a, .int .i64 f.b, .int .i64 f.c, .int .i64 f.d] 26)).alloc (.cells #[.int .i64 g.1, .int .i64 g.2] 24)) (.cells #[.int .i64 cc] 3)).1; simpa [hK6] using this)
  have HRR : Hid (w6.heap[K6 + 1 + 1 + 1]? = some (.cells #[.int .i64 rr] 3 (0, 0))) := by
    unfold Hid; rw [← hw6]
    have := (MapKept.heap_alloc (((w5.alloc (.cells #[.int .i64 f.a, .int .i64 f.b, .int .i64 f.c, .int .i64 f.d] 26)).alloc (.cells #[.int .i64 g.1, .int .i64 g.2] 24)).alloc (.cells #[.int .i64 cc] 3)) (.cells #[.int .i64 rr] 3)).1
    simpa [hK6] using this
  simp only [hw6]
  clear hw6 e5 z0 z1 z2 z3 z4 z5 z6 z7 z8
  have HFA : Hid (∀ V, Xt w6 V → V.cell? ⟨K6, 0, none⟩ = some (.int .i64 f.a) ∧ V.cell? ⟨K6, 1, none⟩ = some (.int .i64 f.b) ∧ V.cell? ⟨K6, 2, none⟩ = some (.int .i64 f.c) ∧ V.cell? ⟨K6, 3, none⟩ = some (.int .i64 f.d) ∧ V.cell? ⟨K6 + 1, 0, none⟩ = some (.int .i64 g.1) ∧ V.cell? ⟨K6 + 1, 1, none⟩ = some (.int .i64 g.2) ∧ V.cell? ⟨K6 + 1 + 1, 0, none⟩ = some (.int .i64 cc) ∧ V.cell? ⟨K6 + 1 + 1 + 1, 0, none⟩ = some (.int .i64 rr)) := Lib.hid fun V hV => by
    obtain ⟨⟨a0, a1, a2, a3⟩, _⟩ := cells4 (rowX hV HRF.out)
    obtain ⟨b0, b1, _, _⟩ := cells2 (rowX hV HRG.out)
    exact ⟨a0, a1, a2, a3, b0, b1, (one_row (rowX hV HRC.out)).1, (one_row (rowX hV HRR.out)).1⟩
  go_cut [10] from 43 to 49 (fun s10 wr => ∃ k, s10 = .pointer (some ⟨k, 0, none⟩) ∧ K6 + 1 + 1 + 1 < k ∧ Hid (Xt w6 wr) ∧ Hid (wr.heap[k]? = some (.cells #[.int .i64 g.1, .int .i64 g.2, .int .i64 gl.c, .int .i64 gl.d] 26 (0, 0))))
  case first =>
    have HXC := Lib.hid ((Xt.refl w6).drew)
    have HSB := Lib.hid hs6
    refine wp_region_held_drew (S := fun V => Xt w6 V) (by kernel_rfl) HXC.out (fun hHeld => ?_)
    refine tkH 0 ?_ ?_ ?_
    rotate_left
    · intro V hSw; obtain ⟨u0, u1, u2, u3, u4, u5, u6, u7⟩ := HFA.out V hSw; go_simp; first | done | with_reducible rfl
    try simp only [Act.put, nm]
    refine tkH 1 ?_ ?_ ?_
    rotate_left
    · intro V hSw; obtain ⟨u0, u1, u2, u3, u4, u5, u6, u7⟩ := HFA.out V hSw; go_simp; first | done | with_reducible rfl
    try simp only [Act.put, nm]
    refine tkH 2 ?_ ?_ ?_
    rotate_left
    · intro V hSw; obtain ⟨u0, u1, u2, u3, u4, u5, u6, u7⟩ := HFA.out V hSw; go_simp; first | done | with_reducible rfl
    try simp only [Act.put, nm]
    refine tkH 3 ?_ ?_ ?_
    rotate_left
    · intro V hSw; obtain ⟨u0, u1, u2, u3, u4, u5, u6, u7⟩ := HFA.out V hSw; go_simp; first | done | with_reducible rfl
    try simp only [Act.put, nm]
    refine tkH 4 ?_ ?_ ?_
    rotate_left
    · intro V hSw; obtain ⟨u0, u1, u2, u3, u4, u5, u6, u7⟩ := HFA.out V hSw; go_simp; first | done | with_reducible rfl
    try simp only [Act.put, nm]
    refine wpAnyH_ready (rs := [5, 7]) (by kernel_rfl) (by simp) ?_
    refine AllReadyH.cons (o := _) rfl (fun K hK => ?_) (AllReadyH.cons (o := _) rfl (fun K hK => ?_) AllReadyH.nil)
    · go_simp
      refine (HSH.out _).mono ?_
      rintro e wn ⟨rfl, hgn⟩
      replace HXC := Lib.hid (HXC.out.trans hgn)
      refine hK.out _ _ (HXC.out) (fun hHe => ?_)
      clear hK K hgn
      try simp only [Act.put, nm]
      refine tkH 6 ?_ ?_ ?_
      rotate_left
      · intro V hSw; obtain ⟨u0, u1, u2, u3, u4, u5, u6, u7⟩ := HFA.out V hSw; go_simp; first | done | with_reducible rfl
      try simp only [Act.put, nm]
      refine rdH 7 (fun K hK => ?_)
      go_simp
      have HXG := HXC
      replace HXC := Lib.hid (HXC.out.alloc (.cells #[.int .i64 0, .int .i64 0, .int .i64 0, .int .i64 0] 26))
      refine hK.out _ _ (HXC.out) (fun hHe => ?_)
      clear hK K
      try simp only [Act.put, nm]
      refine rdH 8 (fun K hK => ?_)
      go_simp
      have HXE : Hid (Xt w6 (wn.alloc (.cells #[.int .i64 g.1, .int .i64 g.2, .int .i64 gl.c, .int .i64 gl.d] 26))) := Lib.hid (HXG.out.alloc _)
      have HRE : Hid ((wn.alloc (.cells #[.int .i64 g.1, .int .i64 g.2, .int .i64 gl.c, .int .i64 gl.d] 26)).heap[wn.heap.size]? = some (.cells #[.int .i64 g.1, .int .i64 g.2, .int .i64 gl.c, .int .i64 gl.d] 26 (0, 0))) := Lib.hid (MapKept.heap_alloc wn _).1
      refine hK.out _ _ (HXE.out) (fun hHe => ?_)
      clear hK K
      have hsz := HXG.out.size
      refine wpAnyH_done (by kernel_rfl) ?_ _
      go_wp2_with fail
      go_meet
      case rel => exact ⟨wn.heap.size, rfl, (by have := HSB.out; omega), HXE, HRE⟩
    · go_simp
      have HAR : Hid ((World.alloc w6.drew (.cells #[.int .i64 0, .int .i64 0, .int .i64 0, .int .i64 0] 26)).heap[K6 + 1 + 1 + 1 + 1]? = some (.cells #[.int .i64 0, .int .i64 0, .int .i64 0, .int .i64 0] 26 (0, 0))) := (by unfold Hid; have := (MapKept.heap_alloc w6.drew (.cells #[.int .i64 0, .int .i64 0, .int .i64 0, .int .i64 0] 26)).1; rw [show w6.drew.heap.size = K6 + 1 + 1 + 1 + 1 from HSB.out] at this; exact this)
      replace HXC := Lib.hid (HXC.out.alloc (.cells #[.int .i64 0, .int .i64 0, .int .i64 0, .int .i64 0] 26))
      refine hK.out _ _ (HXC.out) (fun hHe => ?_)
      clear hK K
      try simp only [Act.put, nm]
      refine rdH 5 (fun K hK => ?_)
      go_simp
      refine (HSH.out _).mono ?_
      rintro e wn ⟨rfl, hgn⟩
      replace HXC := Lib.hid (HXC.out.trans hgn)
      replace HAR := Lib.hid (rowX hgn HAR.out)
      refine hK.out _ _ (HXC.out) (fun hHe => ?_)
      clear hK K hgn
      try simp only [Act.put, nm]
      refine tkH 6 ?_ ?_ ?_
      rotate_left
      · intro V hSw; obtain ⟨u0, u1, u2, u3, u4, u5, u6, u7⟩ := HFA.out V hSw; go_simp; first | done | with_reducible rfl
      try simp only [Act.put, nm]
      obtain ⟨⟨z0, z1, z2, z3⟩, ⟨y0, y1, y2, y3⟩⟩ := cells4 HAR.out
      refine rdH 8 (fun K hK => ?_)
      go_simp
      have hone : ∀ (A : World) (o : Nat) (u : Value), Xt w6 A → Xt w6 (A.setCell ⟨K6 + 1 + 1 + 1 + 1, o, none⟩ u) := fun A o u h => h.grownB (setCell_grown _ _ _ _) (fun q hq => by cases hq; have := HSB.out; omega)
      have HXE : Hid (Xt w6 ((((wn.setCell ⟨K6 + 1 + 1 + 1 + 1, 0, none⟩ (.int .i64 g.1)).setCell ⟨K6 + 1 + 1 + 1 + 1, 1, none⟩ (.int .i64 g.2)).setCell ⟨K6 + 1 + 1 + 1 + 1, 2, none⟩ (.int .i64 gl.c)).setCell ⟨K6 + 1 + 1 + 1 + 1, 3, none⟩ (.int .i64 gl.d))) := Lib.hid (hone _ _ _ (hone _ _ _ (hone _ _ _ (hone _ _ _ HXC.out))))
      have HRE : Hid (((((wn.setCell ⟨K6 + 1 + 1 + 1 + 1, 0, none⟩ (.int .i64 g.1)).setCell ⟨K6 + 1 + 1 + 1 + 1, 1, none⟩ (.int .i64 g.2)).setCell ⟨K6 + 1 + 1 + 1 + 1, 2, none⟩ (.int .i64 gl.c)).setCell ⟨K6 + 1 + 1 + 1 + 1, 3, none⟩ (.int .i64 gl.d)).heap[K6 + 1 + 1 + 1 + 1]? = some (.cells #[.int .i64 g.1, .int .i64 g.2, .int .i64 gl.c, .int .i64 gl.d] 26 (0, 0))) := Lib.hid (setCell_row (setCell_row (setCell_row (setCell_row HAR.out 0 _) 1 _) 2 _) 3 _)
      refine hK.out _ _ (HXE.out) (fun hHe => ?_)
      clear hK K
      refine wpAnyH_done (by kernel_rfl) ?_ _
      go_wp2_with fail
      go_meet
      case rel => exact ⟨K6 + 1 + 1 + 1 + 1, rfl, (by omega), HXE, HRE⟩
  case rest =>
    obtain ⟨K10, rfl, hK10, HX6a, HRL⟩ := hcut
    replace HRL : Hid (wc.heap[K10]? = some (.cells #[.int .i64 gl.a, .int .i64 gl.b, .int .i64 gl.c, .int .i64 gl.d] 26 (0, 0))) := by unfold Hid; rw [HB.out.2.2.2.2.2.2.2.2.1, HB.out.2.2.2.2.2.2.2.2.2.1]; exact HRL.out
    obtain ⟨w7, hw7⟩ : ∃ w7, w7 = wc := ⟨_, rfl⟩
    subst hw7
    obtain ⟨e5, _⟩ := one_row (rowX (HX36.out.trans HX6a.out) HR5.out)
    obtain ⟨a0, a1, a2, a3, b0, b1, c0, d0⟩ := HFA.out _ HX6a.out
    have hat1 := Lib.hid (fun V => at_any (1, 1) V)
    have hat2 := Lib.hid (fun V => at_any (12, 12) V)
    have HCE := Lib.hid (fun V => cells22_any ⟨1, 1, 12, 12⟩ V)
    have hm1 : True := trivial
    have HX17 : Hid (Xt w1 w7) := (HX3.out.trans HX36.out).trans HX6a.out
    have HXw7 : Hid (Xt w w7) := HX1.out.trans HX17.out
    have HG7 : Hid (GridIs w7 gb mb M) := HG3.out.xt (HX36.out.trans HX6a.out)
    obtain ⟨hog, hbg⟩ := HOK0.out M HE.out
    have HOG := Lib.hid hog
    have HBG := Lib.hid hbg
    clear hog hbg
    go_wp2_with (first
      | (go_at_call 12; refine (HMOVE.out gb mb M w7 HG7.out (HT.out.xt HXw7.out) HOG.out).mono ?_; rintro e w8 ⟨hx8, ga, ma, Ma, rfl, hGa, hEa⟩; obtain ⟨K11, hK11⟩ : ∃ K, w8.heap.size = K := ⟨_, rfl⟩; obtain ⟨w9, hw9⟩ : ∃ w9, w8.alloc (.cells #[.pointer (some ⟨ga, 0, none⟩)] 29) = w9 := ⟨_, rfl⟩; have HX79 : Hid (Xt w7 w9) := (by unfold Hid; rw [← hw9]; exact hx8.alloc _); have HR11 : Hid (w9.heap[K11]? = some (.cells #[.pointer (some ⟨ga, 0, none⟩)] 29 (0, 0))) := (by unfold Hid; rw [← hw9, ← hK11]; exact (MapKept.heap_alloc w8 _).1); have HGa9 : Hid (GridIs w9 ga ma Ma) := (by unfold Hid; rw [← hw9]; exact hGa.xt ((Xt.refl _).alloc _)); have HEa := Lib.hid hEa; obtain ⟨e11, _⟩ := one_row HR11.out; have hK1011 : K10 < K11 := (by have h1 := hx8.size; have h2 := (Array.getElem?_eq_some_iff.1 HRL.out).1; omega); clear hGa hEa hx8)
      | (go_at_call 14; have hm0 := hm1; clear hm1 hm0; refine (hat1.out _).mono ?_; rintro e v1 ⟨rfl, hv1⟩; have HV1 : Hid (Xt w9 v1) := hv1.xt; clear hv1)
      | (go_at_call 14; refine (hat2.out _).mono ?_; rintro e v2 ⟨rfl, hv2⟩; have HV2 : Hid (Xt w9 v2) := HV1.out.trans hv2.xt; clear hv2)
      | (go_at_call 13; refine (HCE.out _).mono ?_; rintro e W0 ⟨b12, rfl, hb12, hv3⟩; have HX9W : Hid (Xt w9 W0) := HV2.out.trans hv3; have HB12 := Lib.hid hb12; clear hv3 hb12))
    have HX7W : Hid (Xt w7 W0) := HX79.out.trans HX9W.out
    have HX1W : Hid (Xt w1 W0) := HX17.out.trans HX7W.out
    have HXwW : Hid (Xt w W0) := HX1.out.trans HX1W.out
    have HGW : Hid (GridIs W0 gb mb M) := HG7.out.xt HX7W.out
    have HGaW : Hid (GridIs W0 ga ma Ma) := HGa9.out.xt HX9W.out
    have HF0 : Hid (∀ V, Xt W0 V → V.cell? ⟨K5, 0, none⟩ = some (.pointer (some ⟨gb, 0, none⟩)) ∧ V.cell? ⟨K11, 0, none⟩ = some (.pointer (some ⟨ga, 0, none⟩)) ∧ V.cell? ⟨K6, 0, none⟩ = some (.int .i64 f.a) ∧ V.cell? ⟨K6, 1, none⟩ = some (.int .i64 f.b) ∧ V.cell? ⟨K6, 2, none⟩ = some (.int .i64 f.c) ∧ V.cell? ⟨K6, 3, none⟩ = some (.int .i64 f.d) ∧ V.cell? ⟨K6 + 1 + 1, 0, none⟩ = some (.int .i64 cc) ∧ V.cell? ⟨K6 + 1 + 1 + 1, 0, none⟩ = some (.int .i64 rr) ∧ V.cell? ⟨K10, 0, none⟩ = some (.int .i64 gl.a) ∧ V.cell? ⟨K10, 1, none⟩ = some (.int .i64 gl.b) ∧ V.cell? ⟨K10, 2, none⟩ = some (.int .i64 gl.c) ∧ V.cell? ⟨K10, 3, none⟩ = some (.int .i64 gl.d)) := Lib.hid fun V hV => by
      obtain ⟨q5, _⟩ := one_row (rowX (((HX36.out.trans HX6a.out).trans HX7W.out).trans hV) HR5.out)
      obtain ⟨q11, _⟩ := one_row (rowX (HX9W.out.trans hV) HR11.out)
      obtain ⟨a0, a1, a2, a3, _, _, c0, d0⟩ := HFA.out _ ((HX6a.out.trans HX7W.out).trans hV)
      obtain ⟨⟨b0, b1, b2, b3⟩, _⟩ := cells4 (rowX (HX7W.out.trans hV) HRL.out)
      exact ⟨q5, q11, a0, a1, a2, a3, c0, d0, b0, b1, b2, b3⟩
    have HR1W : Hid (W0.heap[B + 1]? = some (.cells #[.bool false] 4 (0, 0))) := rowX HX1W.out HR1.out
    have hBK : B + 1 < W0.heap.size := (Array.getElem?_eq_some_iff.1 HR1W.out).1
    obtain ⟨Q0, hQ0⟩ : ∃ Q, W0.heap.size = Q := ⟨_, rfl⟩
    clear e5 e11 a0 a1 a2 a3 b0 b1 c0 d0 hat1 hat2 HCE
    generalize hA0 : Act.mk _ _ = a0
    refine (wpIn_wide (n := 25)).1 ?_
    refine rangeFunc_far (n := 25) (by omega) (gf := 79) (lb := #[.pointer (some ⟨b12, 0, none⟩)]) (by subst hA0; rfl) (enters_of Tryz.func79 (by kernel_rfl) rfl)
      (cells1_told (25 - 1) b12 ⟨1, 1, 12, 12⟩ W0 HB12.out (by decide)) (fun h k => h.trans k) (fun W l o o' hl ho hc hw => KC.putObj o' ho hc) (Below.refl _ _) (fun _ => rfl)
      (fun pre W => Xt W0 W) (fun c pre W => False) (fun s A B h hb => Below.trans h hb) (fun c s A B h hb => h) (Xt.refl _)
      (fun x a' W => ∃ Bx, W.heap[Bx]? = some (.cells #[.int .i64 x.1, .int .i64 x.2] 24 (0, 0)) ∧ inA ⟨1, 1, 12, 12⟩ x = true ∧ a' = { tmps := (a0.tmps.setIfInBounds 67 (adW x)).setIfInBounds 13 (.pointer (some ⟨Bx, 0, none⟩)), defers := [] })
      (fun x a' _ X Y row hs hg hr => by
        obtain ⟨Bx, h1, h2, h3⟩ := hs
        exact ⟨Bx, rowCells_own h1 hg (fun r e => (hr r e).2), h2, h3⟩)
      ?assign ?body ?done ?stop
    case stop =>
      rintro D c pre W hD hS hF hK
      exact hF.elim
    case assign =>
      rintro l0 pre x W K hI ⟨V, hIV, ht⟩ hK
      subst hA0
      obtain ⟨c, d⟩ := x
      have HI := Lib.hid hI
      have HTT := Lib.hid ht
      obtain ⟨wA, hwA, hbA, hsA, kA0, kA1⟩ := box1 W c d 24
      have hrA : wA.heap[W.heap.size]? = some (.cells #[.int .i64 c, .int .i64 d] 24 (0, 0)) := by rw [← hwA]; exact World.alloc_heap_new W _
      have HXA : Hid (Xt W wA) := hbA
      have HRA := Lib.hid hrA
      clear hrA hbA kA0 kA1 hI ht hIV
      gi_wp2_with fail
      refine hK _ _ (keepsFrom_xt HXA.out _) (KC.of_xt HXA.out) (HI.out.trans HXA.out) ⟨W.heap.size, HRA.out, HTT.out, ?_⟩
      simp only [List.setIfInBounds_toArray, List.set_cons_zero, List.set_cons_succ]
    case done =>
      rintro D xs W hD hS hI hK
      subst hA0
      have HI := Lib.hid hI
      have HXZ : Hid (Xt w W) := HXwW.out.trans hI
      have HKD := Lib.hid hK
      have hDB : B + 1 < D := by omega
      have hBw : w.heap.size ≤ B + 1 := by omega
      have HF1 : Hid (∀ V, W0.grownBy V (some (B + 1)) → V.cell? ⟨K5, 0, none⟩ = some (.pointer (some ⟨gb, 0, none⟩)) ∧ V.cell? ⟨K11, 0, none⟩ = some (.pointer (some ⟨ga, 0, none⟩)) ∧ V.cell? ⟨K6, 0, none⟩ = some (.int .i64 f.a) ∧ V.cell? ⟨K6, 1, none⟩ = some (.int .i64 f.b) ∧ V.cell? ⟨K6, 2, none⟩ = some (.int .i64 f.c) ∧ V.cell? ⟨K6, 3, none⟩ = some (.int .i64 f.d) ∧ V.cell? ⟨K6 + 1 + 1, 0, none⟩ = some (.int .i64 cc) ∧ V.cell? ⟨K6 + 1 + 1 + 1, 0, none⟩ = some (.int .i64 rr) ∧ V.cell? ⟨K10, 0, none⟩ = some (.int .i64 gl.a) ∧ V.cell? ⟨K10, 1, none⟩ = some (.int .i64 gl.b) ∧ V.cell? ⟨K10, 2, none⟩ = some (.int .i64 gl.c) ∧ V.cell? ⟨K10, 3, none⟩ = some (.int .i64 gl.d)) := Lib.hid fun V hV => by
        have k : ∀ b, b ≠ B + 1 → ∀ o u, W0.cell? ⟨b, o, none⟩ = some u → V.cell? ⟨b, o, none⟩ = some u := fun b hb o u hu => (World.cell?_of_block (w := W0) (a := ⟨b, o, none⟩) (hV.block b (World.block_lt_of_cell? W0 _ hu) (fun e => hb (by have := Option.some.inj e; omega)))).trans hu
        obtain ⟨q5, q11, a0, a1, a2, a3, c0, d0, b0, b1, b2, b3⟩ := HF0.out W0 (Xt.refl _)
        exact ⟨k _ (by omega) _ _ q5, k _ (by omega) _ _ q11, k _ (by omega) _ _ a0, k _ (by omega) _ _ a1, k _ (by omega) _ _ a2, k _ (by omega) _ _ a3, k _ (by omega) _ _ c0, k _ (by omega) _ _ d0, k _ (by omega) _ _ b0, k _ (by omega) _ _ b1, k _ (by omega) _ _ b2, k _ (by omega) _ _ b3⟩
      obtain ⟨lA, hlA⟩ : ∃ lA, lostP (er Ma) = lA := ⟨_, rfl⟩
      obtain ⟨lG, hlG⟩ : ∃ lG, lostP (er M) = lG := ⟨_, rfl⟩
      have HBA : Hid (BulkP (er Ma)) := (by unfold Hid; rw [HEa.out]; exact HMV.out.bulk HOG.out HBG.out)
      have HOA : Hid (GOk (er Ma)) := (by unfold Hid; rw [HEa.out]; exact HMV.out.ok HOG.out)
      have HLOA := Lib.hid (fun V (hV : Xt W0 V) => lost_any ga ma Ma V (HGaW.out.xt hV) HBA.out)
      have HLOG := Lib.hid (fun V (hV : Xt W0 V) => lost_any gb mb M V (HGW.out.xt hV) HBG.out)
      rw [hlA] at HLOA
      rw [hlG] at HLOG
      obtain ⟨nA, hnA⟩ : ∃ nA : Int, (Ma.length : Int) = nA := ⟨_, rfl⟩
      obtain ⟨nG, hnG⟩ : ∃ nG : Int, (M.length : Int) = nG := ⟨_, rfl⟩
      have hlaw : lA < lG → nA ≠ nG := fun h e => by
        have h1 := HMV.out.lost HOG.out (by rw [← HEa.out, er_len, er_len]; omega)
        rw [← HEa.out, hlA, hlG] at h1
        omega
      obtain ⟨bz, hbz⟩ : ∃ bz, busyP gl (er M) = bz := ⟨_, rfl⟩
      have HEM := Lib.hid (fun V (hV : Xt W0 V) => empty_any gb mb M gl V (HGW.out.xt hV) HMV.out.back.vf)
      rw [hbz] at HEM
      have hlaw2 : bz = false → lA = lG := fun h => by rw [← hlA, ← hlG, HEa.out]; exact (HMV.out.there HOG.out (hbz.trans h)).2
      have HBK : Hid (bz = false → goAll (mvC gl f (-cc) (-rr)) (mvA gl f (-cc) (-rr)) (er Ma) = er M) := Lib.hid fun h => by rw [HEa.out]; exact (HMV.out.there HOG.out (hbz.trans h)).1
      have hfar := HMV.out.far
      obtain ⟨x0, x1, x2, y0, y1, y2, z1, z2, g1, g2, g3, g4⟩ := HB.out
      have hlast2 : lastOf gl (f.a, f.b) = (f.c, f.d) := by
        unfold lastOf
        refine Prod.ext ?_ ?_
        · simp only
          rw [w64 (x := f.a + gl.c) (by omega) (by omega), w64 (by omega) (by omega)]; omega
        · simp only
          rw [w64 (x := f.b + gl.d) (by omega) (by omega), w64 (by omega) (by omega)]; omega
      have htha2 : thereA gl (f.a, f.b) = f := by unfold thereA; rw [hlast2]
      have hfc : farC gl (f.a, f.b) = -cc := by show wrap64 (f.a - gl.a) = -cc; rw [w64 (by omega) (by omega)]; omega
      have hfr : farR gl (f.a, f.b) = -rr := by show wrap64 (f.b - gl.b) = -rr; rw [w64 (by omega) (by omega)]; omega
      have HMVB := Lib.hid (fun gb mb M V (hG : GridIs V gb mb M) (hT : Tabs V) (hO : GOk (er M)) => move_any gl (f.a, f.b) gb mb M V hG hT hO HMV.out.back.vf (validB_of (by simp only; omega)) (by rw [hlast2]; exact validB_of (by simp only; omega)))
      simp only [htha2, hfc, hfr] at HMVB
      clear hfar x0 x1 x2 y0 y1 y2 z1 z2 g1 g2 g3 g4 hlast2 htha2 hfc hfr
      have HNA := Lib.hid hnA
      have HNG := Lib.hid hnG
      have HFIN : Hid (∀ V, Xt W V → (V.cell? ⟨B + 1, 0, none⟩ = some (.bool false) ∧ V.frozen? ⟨B + 1, 0, none⟩ = false) ∧ ((V.setCell ⟨B + 1, 0, none⟩ (.bool true)).heap[D]? = some (.deferred (some []))) ∧ ((V.setCell ⟨B + 1, 0, none⟩ (.bool true)).putObj D (.deferred none)).cell? ⟨B + 1, 0, none⟩ = some (.bool true) ∧ Xt w ((V.setCell ⟨B + 1, 0, none⟩ (.bool true)).putObj D (.deferred none))) := Lib.hid fun V hV => by
        have h1 := (hV.block D (Array.getElem?_eq_some_iff.1 HKD.out).1).trans HKD.out
        obtain ⟨h2, h4⟩ := one_row (rowX (HI.out.trans hV) HR1W.out)
        have h3 : (V.setCell ⟨B + 1, 0, none⟩ (.bool true)).cell? ⟨B + 1, 0, none⟩ = some (.bool true) := World.cell?_setCell_same _ _ _ h2
        refine ⟨⟨h2, h4⟩, (Below.heap_setCell _ _ _ _ (fun e => by simp at e; omega)).trans h1, (World.cell?_of_block (w := V.setCell ⟨B + 1, 0, none⟩ (.bool true)) (a := ⟨B + 1, 0, none⟩) (World.putObj_heap_other (by show B + 1 ≠ D; omega))).trans h3, ?_⟩
        exact ((HXZ.out.trans hV).grownB (setCell_grown _ _ _ _) (fun q hq => by cases hq; omega)).grownB (grownBy_putObj' _ D _) (fun q hq => by cases hq; omega)
      clear hI hS hK hlA hlG hnA hnG hbz
      go_wp2_with fail
      have HXQ : Hid (Xt W0 W.drew) := HI.out.trans (Xt.refl W).drew
      have HXQW : Hid (Xt W W.drew) := (Xt.refl W).drew
      refine wp_region_held_drew (S := fun V => W0.grownBy V (some (B + 1))) (by kernel_rfl) (HXQ.out.grown (some (B + 1))) (fun hHeld => ?_)
      refine tkH 0 ?_ ?_ ?_
      rotate_left
      · intro V hSw; obtain ⟨u0, u1, u2, u3, u4, u5, u6, u7, u8, u9, u10, u11⟩ := HF1.out V hSw; go_simp; first | done | with_reducible rfl
      try simp only [Act.put, nm]
      refine tkH 2 ?_ ?_ ?_
      rotate_left
      · intro V hSw; obtain ⟨u0, u1, u2, u3, u4, u5, u6, u7, u8, u9, u10, u11⟩ := HF1.out V hSw; go_simp; first | done | with_reducible rfl
      try simp only [Act.put, nm]
      refine rdH 1 (fun K hK => ?_)
      go_simp
      refine (HLOA.out _ HXQ.out).mono ?_
      rintro e v1 ⟨rfl, hv1⟩
      have HV1 : Hid (Xt W0 v1) := HXQ.out.trans hv1
      have HV1W : Hid (Xt W v1) := HXQW.out.trans hv1
      refine hK.out _ _ (HV1.out.grown (some (B + 1))) (fun hHev1 => ?_)
      clear hK K hv1
      try simp only [Act.put, nm]
      refine rdH 3 (fun K hK => ?_)
      go_simp
      refine (HLOG.out _ HV1.out).mono ?_
      rintro e v2 ⟨rfl, hv2⟩
      have HV2 : Hid (Xt W0 v2) := HV1.out.trans hv2
      have HV2W : Hid (Xt W v2) := HV1W.out.trans hv2
      refine hK.out _ _ (HV2.out.grown (some (B + 1))) (fun hHev2 => ?_)
      clear hK K hv2
      try simp only [Act.put, nm]
      by_cases hlt : lA < lG
      · have hb1 : ((lA : Int) < (lG : Int)) := by omega
        have hne := hlaw hlt
        have hb2 : (nA == nG) = false := by simpa using hne
        have hbt : bz = true := by cases bz with | true => rfl | false => (have := hlaw2 rfl; omega)
        subst hbt
        clear hlaw hlaw2 hne
        refine tkH 4 ?_ ?_ ?_
        rotate_left
        · intro V hSw; obtain ⟨u0, u1, u2, u3, u4, u5, u6, u7, u8, u9, u10, u11⟩ := HF1.out V hSw; go_simp; first | done | with_reducible rfl
        try simp only [Act.put, nm]
        refine tkH 5 ?_ ?_ ?_
        rotate_left
        · intro V hSw; obtain ⟨u0, u1, u2, u3, u4, u5, u6, u7, u8, u9, u10, u11⟩ := HF1.out V hSw; go_simp; first | done | with_reducible rfl
        try simp only [Act.put, nm]
        refine tkH 6 ?_ ?_ ?_
        rotate_left
        · intro V hSw; obtain ⟨u0, u1, u2, u3, u4, u5, u6, u7, u8, u9, u10, u11⟩ := HF1.out V hSw; go_simp; first | done | with_reducible rfl
        try simp only [Act.put, nm]
        refine tkH 8 ?_ ?_ ?_
        rotate_left
        · intro V hSw; obtain ⟨u0, u1, u2, u3, u4, u5, u6, u7, u8, u9, u10, u11⟩ := HF1.out V hSw; go_simp; first | done | with_reducible rfl
        try simp only [Act.put, nm]
        refine rdH 7 (fun K hK => ?_)
        go_simp
        refine (len_n ga ma Ma nA v2 (HGaW.out.xt HV2.out) HNA.out).mono ?_
        rintro e wl ⟨rfl, rfl⟩
        refine hK.out _ _ (HV2.out.grown (some (B + 1))) (fun hHeL7 => ?_)
        clear hK K
        try simp only [Act.put, nm]
        refine rdH 9 (fun K hK => ?_)
        go_simp
        refine (len_n gb mb M nG v2 (HGW.out.xt HV2.out) HNG.out).mono ?_
        rintro e wl ⟨rfl, rfl⟩
        refine hK.out _ _ (HV2.out.grown (some (B + 1))) (fun hHeL9 => ?_)
        clear hK K
        try simp only [Act.put, nm]
        refine tkH 10 ?_ ?_ ?_
        rotate_left
        · intro V hSw; obtain ⟨u0, u1, u2, u3, u4, u5, u6, u7, u8, u9, u10, u11⟩ := HF1.out V hSw; go_simp; first | done | with_reducible rfl
        try simp only [Act.put, nm]
        refine tkH 11 ?_ ?_ ?_
        rotate_left
        · intro V hSw; obtain ⟨u0, u1, u2, u3, u4, u5, u6, u7, u8, u9, u10, u11⟩ := HF1.out V hSw; go_simp; first | done | with_reducible rfl
        try simp only [Act.put, nm]
        refine wpAnyH_done (by kernel_rfl) ?_ _
        obtain ⟨q5, q11, a0, a1, a2, a3, c0, d0, b0, b1, b2, b3⟩ := HF0.out v2 HV2.out
        go_wp2_with (first
          | (go_at_call 20; refine (HEM.out _ HV2.out).mono ?_; rintro e v3 ⟨rfl, hx3⟩; have HE3 : Hid (Xt W0 v3) := HV2.out.trans hx3; have HE3W : Hid (Xt W v3) := HV2W.out.trans hx3; clear hx3; obtain ⟨⟨g0, g1⟩, _⟩ := HFIN.out _ HE3W.out; obtain ⟨q5, q11, a0, a1, a2, a3, c0, d0, b0, b1, b2, b3⟩ := HF0.out _ HE3.out))
        obtain ⟨_, hKW, k8, hxE⟩ := HFIN.out v3 HE3W.out
        obtain ⟨W', hW'⟩ : ∃ W', v3.setCell ⟨B + 1, 0, none⟩ (.bool true) = W' := ⟨_, rfl⟩
        rw [hW'] at hKW k8 hxE ⊢
        refine ⟨by simp, .inl ⟨_, _, rfl, run_takeDeferred hKW, ?_⟩⟩
        exact ⟨_, results_one6 rfl _ _ (B + 1) (.bool true) rfl (load_bool6 _ _ _ k8), rfl, hxE⟩
      · have hb1 : ¬ ((lA : Int) < (lG : Int)) := by omega
        clear hlaw
        refine tkH 4 ?_ ?_ ?_
        rotate_left
        · intro V hSw; obtain ⟨u0, u1, u2, u3, u4, u5, u6, u7, u8, u9, u10, u11⟩ := HF1.out V hSw; go_simp; first | done | with_reducible rfl
        try simp only [Act.put, nm]
        refine tkH 5 ?_ ?_ ?_
        rotate_left
        · intro V hSw; obtain ⟨u0, u1, u2, u3, u4, u5, u6, u7, u8, u9, u10, u11⟩ := HF1.out V hSw; go_simp; first | done | with_reducible rfl
        try simp only [Act.put, nm]
        refine skH 6 ?_
        try simp only [Act.put, nm]
        refine skH 8 ?_
        try simp only [Act.put, nm]
        refine skH 7 ?_
        try simp only [Act.put, nm]
        refine skH 9 ?_
        try simp only [Act.put, nm]
        refine skH 10 ?_
        try simp only [Act.put, nm]
        refine tkH 11 ?_ ?_ ?_
        rotate_left
        · intro V hSw; obtain ⟨u0, u1, u2, u3, u4, u5, u6, u7, u8, u9, u10, u11⟩ := HF1.out V hSw; go_simp; first | done | with_reducible rfl
        try simp only [Act.put, nm]
        refine wpAnyH_done (by kernel_rfl) ?_ _
        cases bz
        · have heq : lA = lG := hlaw2 rfl
          have hb3 : ((lA : Int) == (lG : Int)) = true := by simp [heq]
          clear hlaw2 heq
          have HBK2 := Lib.hid (HBK.out rfl)
          obtain ⟨q5, q11, a0, a1, a2, a3, c0, d0, b0, b1, b2, b3⟩ := HF0.out v2 HV2.out
          go_wp2_with (first
            | (go_at_call 20; refine (HEM.out _ HV2.out).mono ?_; rintro e v3 ⟨rfl, hx3⟩; have HE3 : Hid (Xt W0 v3) := HV2.out.trans hx3; have HE3W : Hid (Xt W v3) := HV2W.out.trans hx3; clear hx3; obtain ⟨⟨g0, g1⟩, _⟩ := HFIN.out _ HE3W.out; obtain ⟨q5, q11, a0, a1, a2, a3, c0, d0, b0, b1, b2, b3⟩ := HF0.out _ HE3.out)
            | (go_at_call 12; refine (HMVB.out ga ma Ma v3 (HGaW.out.xt HE3.out) (HT.out.xt (HXwW.out.trans HE3.out)) HOA.out).mono ?_; rintro e v4 ⟨hx4, gd, md, Md, rfl, hGd, hEd⟩; have HE4 : Hid (Xt W0 v4) := HE3.out.trans hx4; have HE4W : Hid (Xt W v4) := HE3W.out.trans hx4; have HGd := Lib.hid hGd; have HED : Hid (er Md = er M) := hEd.trans HBK2.out; clear hx4 hGd hEd))
          have HXQ4 : Hid (Xt W0 v4.drew) := HE4.out.trans (Xt.refl v4).drew
          have HXQ4W : Hid (Xt W v4.drew) := HE4W.out.trans (Xt.refl v4).drew
          refine wp_region_held_drew (S := fun V => W0.grownBy V (some (B + 1))) (by kernel_rfl) (HXQ4.out.grown (some (B + 1))) (fun hHeld4 => ?_)
          refine tkH 0 ?_ ?_ ?_
          rotate_left
          · intro V hSw; obtain ⟨u0, u1, u2, u3, u4, u5, u6, u7, u8, u9, u10, u11⟩ := HF1.out V hSw; go_simp; first | done | with_reducible rfl
          try simp only [Act.put, nm]
          refine tkH 1 ?_ ?_ ?_
          rotate_left
          · intro V hSw; obtain ⟨u0, u1, u2, u3, u4, u5, u6, u7, u8, u9, u10, u11⟩ := HF1.out V hSw; go_simp; first | done | with_reducible rfl
          try simp only [Act.put, nm]
          refine tkH 2 ?_ ?_ ?_
          rotate_left
          · intro V hSw; obtain ⟨u0, u1, u2, u3, u4, u5, u6, u7, u8, u9, u10, u11⟩ := HF1.out V hSw; go_simp; first | done | with_reducible rfl
          try simp only [Act.put, nm]
          refine tkH 3 ?_ ?_ ?_
          rotate_left
          · intro V hSw; obtain ⟨u0, u1, u2, u3, u4, u5, u6, u7, u8, u9, u10, u11⟩ := HF1.out V hSw; go_simp; first | done | with_reducible rfl
          try simp only [Act.put, nm]
          refine tkH 4 ?_ ?_ ?_
          rotate_left
          · intro V hSw; obtain ⟨u0, u1, u2, u3, u4, u5, u6, u7, u8, u9, u10, u11⟩ := HF1.out V hSw; go_simp; first | done | with_reducible rfl
          try simp only [Act.put, nm]
          refine tkH 5 ?_ ?_ ?_
          rotate_left
          · intro V hSw; obtain ⟨u0, u1, u2, u3, u4, u5, u6, u7, u8, u9, u10, u11⟩ := HF1.out V hSw; go_simp; first | done | with_reducible rfl
          try simp only [Act.put, nm]
          refine tkH 6 ?_ ?_ ?_
          rotate_left
          · intro V hSw; obtain ⟨u0, u1, u2, u3, u4, u5, u6, u7, u8, u9, u10, u11⟩ := HF1.out V hSw; go_simp; first | done | with_reducible rfl
          try simp only [Act.put, nm]
          refine tkH 7 ?_ ?_ ?_
          rotate_left
          · intro V hSw; obtain ⟨u0, u1, u2, u3, u4, u5, u6, u7, u8, u9, u10, u11⟩ := HF1.out V hSw; go_simp; first | done | with_reducible rfl
          try simp only [Act.put, nm]
          refine tkH 8 ?_ ?_ ?_
          rotate_left
          · intro V hSw; obtain ⟨u0, u1, u2, u3, u4, u5, u6, u7, u8, u9, u10, u11⟩ := HF1.out V hSw; go_simp; first | done | with_reducible rfl
          try simp only [Act.put, nm]
          refine rdH 9 (fun K hK => ?_)
          go_simp
          refine (equal_er gd gb md mb Md M _ (HGd.out.xt ((Xt.refl v4).drew)) (HGW.out.xt HXQ4.out) HED.out).mono ?_
          rintro e v5 ⟨rfl, hv5⟩
          have HE5 : Hid (Xt W0 v5) := HXQ4.out.trans hv5
          have HE5W : Hid (Xt W v5) := HXQ4W.out.trans hv5
          refine hK.out _ _ (HE5.out.grown (some (B + 1))) (fun hHev5 => ?_)
          clear hK K hv5
          try simp only [Act.put, nm]
          refine tkH 10 ?_ ?_ ?_
          rotate_left
          · intro V hSw; obtain ⟨u0, u1, u2, u3, u4, u5, u6, u7, u8, u9, u10, u11⟩ := HF1.out V hSw; go_simp; first | done | with_reducible rfl
          try simp only [Act.put, nm]
          refine tkH 11 ?_ ?_ ?_
          rotate_left
          · intro V hSw; obtain ⟨u0, u1, u2, u3, u4, u5, u6, u7, u8, u9, u10, u11⟩ := HF1.out V hSw; go_simp; first | done | with_reducible rfl
          try simp only [Act.put, nm]
          refine tkH 12 ?_ ?_ ?_
          rotate_left
          · intro V hSw; obtain ⟨u0, u1, u2, u3, u4, u5, u6, u7, u8, u9, u10, u11⟩ := HF1.out V hSw; go_simp; first | done | with_reducible rfl
          try simp only [Act.put, nm]
          refine tkH 14 ?_ ?_ ?_
          rotate_left
          · intro V hSw; obtain ⟨u0, u1, u2, u3, u4, u5, u6, u7, u8, u9, u10, u11⟩ := HF1.out V hSw; go_simp; first | done | with_reducible rfl
          try simp only [Act.put, nm]
          refine rdH 13 (fun K hK => ?_)
          go_simp
          refine (HLOA.out _ HE5.out).mono ?_
          rintro e v6 ⟨rfl, hv6⟩
          have HE6 : Hid (Xt W0 v6) := HE5.out.trans hv6
          have HE6W : Hid (Xt W v6) := HE5W.out.trans hv6
          refine hK.out _ _ (HE6.out.grown (some (B + 1))) (fun hHev6 => ?_)
          clear hK K hv6
          try simp only [Act.put, nm]
          refine rdH 15 (fun K hK => ?_)
          go_simp
          refine (HLOG.out _ HE6.out).mono ?_
          rintro e v7 ⟨rfl, hv7⟩
          have HE7 : Hid (Xt W0 v7) := HE6.out.trans hv7
          have HE7W : Hid (Xt W v7) := HE6W.out.trans hv7
          refine hK.out _ _ (HE7.out.grown (some (B + 1))) (fun hHev7 => ?_)
          clear hK K hv7
          try simp only [Act.put, nm]
          refine tkH 16 ?_ ?_ ?_
          rotate_left
          · intro V hSw; obtain ⟨u0, u1, u2, u3, u4, u5, u6, u7, u8, u9, u10, u11⟩ := HF1.out V hSw; go_simp; first | done | with_reducible rfl
          try simp only [Act.put, nm]
          refine tkH 17 ?_ ?_ ?_
          rotate_left
          · intro V hSw; obtain ⟨u0, u1, u2, u3, u4, u5, u6, u7, u8, u9, u10, u11⟩ := HF1.out V hSw; go_simp; first | done | with_reducible rfl
          try simp only [Act.put, nm]
          obtain ⟨⟨g0, g1⟩, _⟩ := HFIN.out _ HE7W.out
          refine rdH 18 (fun K hK => ?_)
          go_simp
          refine hK.out _ _ (grownBy_two (HE7.out.grown (some (B + 1))) (setCell_grown _ _ _ _)) (fun hHe8 => ?_)
          clear hK K
          refine wpAnyH_done (by kernel_rfl) ?_ _
          go_wp2_with fail
          obtain ⟨_, hKW, k8, hxE⟩ := HFIN.out v7 HE7W.out
          obtain ⟨W', hW'⟩ : ∃ W', v7.setCell ⟨B + 1, 0, none⟩ (.bool true) = W' := ⟨_, rfl⟩
          rw [hW'] at hKW k8 hxE ⊢
          refine ⟨by simp, .inl ⟨_, _, rfl, run_takeDeferred hKW, ?_⟩⟩
          exact ⟨_, results_one6 rfl _ _ (B + 1) (.bool true) rfl (load_bool6 _ _ _ k8), rfl, hxE⟩
        · obtain ⟨q5, q11, a0, a1, a2, a3, c0, d0, b0, b1, b2, b3⟩ := HF0.out v2 HV2.out
          go_wp2_with (first
            | (go_at_call 20; refine (HEM.out _ HV2.out).mono ?_; rintro e v3 ⟨rfl, hx3⟩; have HE3 : Hid (Xt W0 v3) := HV2.out.trans hx3; have HE3W : Hid (Xt W v3) := HV2W.out.trans hx3; clear hx3; obtain ⟨⟨g0, g1⟩, _⟩ := HFIN.out _ HE3W.out; obtain ⟨q5, q11, a0, a1, a2, a3, c0, d0, b0, b1, b2, b3⟩ := HF0.out _ HE3.out))
          obtain ⟨_, hKW, k8, hxE⟩ := HFIN.out v3 HE3W.out
          obtain ⟨W', hW'⟩ : ∃ W', v3.setCell ⟨B + 1, 0, none⟩ (.bool true) = W' := ⟨_, rfl⟩
          rw [hW'] at hKW k8 hxE ⊢
          refine ⟨by simp, .inl ⟨_, _, rfl, run_takeDeferred hKW, ?_⟩⟩
          exact ⟨_, results_one6 rfl _ _ (B + 1) (.bool true) rfl (load_bool6 _ _ _ k8), rfl, hxE⟩
    case body =>
      rintro l0 pre x a' W hl0 ⟨r, hr⟩ hI ⟨Bx, hBx, hin, rfl⟩ hlt
      subst hA0
      obtain ⟨c, d⟩ := x
      have HI := Lib.hid hI
      have HBX := Lib.hid hBx
      have HIN := Lib.hid (inA_le hin)
      obtain ⟨q5, _, a0, a1, a2, a3, c0, d0, b0, b1, b2, b3⟩ := HF0.out W hI
      obtain ⟨x0, x1, _, _⟩ := cells2 hBx
      have hfb : Fence.wide.fn 15 := trivial
      have hfd : Fence.wide.fn 17 := trivial
      have hfi : Fence.wide.fn 16 := trivial
      obtain ⟨vg, hvg⟩ : ∃ v, inA gl (c, d) = v := ⟨_, rfl⟩
      obtain ⟨vf, hvf⟩ : ∃ v, inA f (c, d) = v := ⟨_, rfl⟩
      have HCG := Lib.hid (fun V => in_any gl.a gl.b gl.c gl.d c d V)
      rw [show inB gl.a gl.b gl.c gl.d c d = vg from hvg] at HCG
      have HCF := Lib.hid (fun V => in_any f.a f.b f.c f.d c d V)
      rw [show inB f.a f.b f.c f.d c d = vf from hvf] at HCF
      have HVG := Lib.hid hvg
      have HVF := Lib.hid hvf
      have hm1 : True := trivial
      have hm2 : True := trivial
      obtain ⟨u, hu⟩ : ∃ u, ((lkM (c, d) M).getD (zeroC, none)).1 = u := ⟨_, rfl⟩
      obtain ⟨v, hv⟩ : ∃ v, ((lkM (c, d) Ma).getD (zeroC, none)).1 = v := ⟨_, rfl⟩
      have hget := HMV.out.get HOG.out (c, d)
      rw [← HEa.out] at hget
      simp only [hvg, hvf] at hget
      have hu2 : (lkM (c, d) (er M)).getD zeroC = u := (er_getD (c, d) M).symm.trans hu
      have hv2 : (lkM (c, d) (er Ma)).getD zeroC = v := (er_getD (c, d) Ma).symm.trans hv
      have HU := Lib.hid hu
      have HV := Lib.hid hv
      have HGET := Lib.hid hget
      have HU2 := Lib.hid hu2
      have HV2 := Lib.hid hv2
      have HIN2 := HIN
      clear hr hI hBx hin hlt hvg hvf hu hv hget hu2 hv2 HIN
      simp only [List.setIfInBounds_toArray, List.set_cons_zero, List.set_cons_succ]
      cases vg
      · cases vf
        · have hlaw := now_law (mvC f gl cc rr) (mvA f gl cc rr) (lkM (c, d) (er M))
          have hgt := HGET.out
          simp only [Bool.false_eq_true, if_false] at hgt
          rw [← hgt, HV2.out, HU2.out] at hlaw
          have hpa := plain_args HOG.out (c, d)
          rw [HU2.out] at hpa
          have HLAW := Lib.hid hlaw
          have HPA := Lib.hid hpa
          clear hlaw hpa hgt
          by_cases hk : u.kind = 1
          · have HK := Lib.hid hk
            clear hk
            gi_wp2_with (first
              | (gi_at_call 15; have hm0 := hm1; clear hm1 hm0; refine (callsIn_round (gget_any gb mb M (c, d) _ (HGW.out.xt HI.out))).mono ?_; rintro e w7 ⟨n7, a7, rfl, hA7, hx7⟩; clear hA7; rw [HU.out]; obtain ⟨zw, hw1, hw2⟩ : ∃ zw : CE, zw.1 = copyC u ∧ zw.2 = a7 := ⟨(copyC u, a7), rfl, rfl⟩; have hzw : copyCV u a7 = ceV zw := (by rw [← ceV_copy]; obtain ⟨z1, z2⟩ := zw; simp only at hw1 hw2; rw [hw1, hw2]); rw [hzw]; have HW : Hid (zw.1 = copyC u) := hw1; obtain ⟨wZ, wR, hwZ, hwR, hrZ, hrR, hxR, hsR, hxZ, hsZ⟩ := boxR w7 zw; have HXR : Hid (Xt W wR) := hx7.trans hxR; have HRZ := Lib.hid hrZ; have HRW := Lib.hid hrR; have HWR := Lib.hid hwR; have hsz7 := hx7.size; obtain ⟨q5, _, a0, a1, a2, a3, c0, d0, b0, b1, b2, b3⟩ := HF0.out wR (HI.out.trans HXR.out); obtain ⟨x0, x1, _, _⟩ := cells2 (rowX HXR.out HBX.out); clear hrZ hwR hrR hxR hxZ hx7 hzw hw1 hw2)
              | (refine wpListIn_store_row (P := Tryz.prog) rfl 51 _ _ rfl w7.heap.size #[.int .i64 zw.1.kind, .int .i64 zw.1.v.kind, .float .f64 zw.1.v.x, .string zw.1.v.s, .bool zw.1.v.b, .int .i64 zw.1.v.f, .int .i64 zw.1.t.kind, .int .i64 zw.1.t.op, .float .f64 zw.1.t.x, .string zw.1.t.s, .bool zw.1.t.b, .int .i64 zw.1.t.f, .int .i64 zw.1.t.ref.a.1, .int .i64 zw.1.t.ref.a.2, .bool zw.1.t.ref.cf, .bool zw.1.t.ref.rf, .int .i64 zw.1.t.to.a.1, .int .i64 zw.1.t.to.a.2, .bool zw.1.t.to.cf, .bool zw.1.t.to.rf, .slice zw.2 zw.1.t.args.length zw.1.t.args.length] rfl rfl 51 _ HRZ.out (by kernel_rfl) rfl (by simp [Value.oneCell']) ?_; rw [HWR.out])
              | (gi_at_call 16; have hm0 := hm2; clear hm2 hm0; refine (callsIn_round (HCG.out _)).mono ?_; rintro e w9 ⟨rfl, hg9⟩; have HX9 : Hid (Xt W w9) := HXR.out.trans hg9.xt; replace HRW := Lib.hid (rowX hg9.xt HRW.out); obtain ⟨q5, q11, a0, a1, a2, a3, c0, d0, b0, b1, b2, b3⟩ := HF0.out w9 (HI.out.trans HX9.out); obtain ⟨x0, x1, _, _⟩ := cells2 (rowX HX9.out HBX.out); clear hg9)
              | (gi_at_call 16; refine (callsIn_round (HCF.out _)).mono ?_; rintro e w10 ⟨rfl, hg10⟩; have HX10 : Hid (Xt W w10) := HX9.out.trans hg10.xt; replace HRW := Lib.hid (rowX hg10.xt HRW.out); obtain ⟨q5, q11, a0, a1, a2, a3, c0, d0, b0, b1, b2, b3⟩ := HF0.out w10 (HI.out.trans HX10.out); obtain ⟨x0, x1, _, _⟩ := cells2 (rowX HX10.out HBX.out); clear hg10)
              | (gi_at_call 15; refine (callsIn_round (gget_any ga ma Ma (c, d) _ (HGaW.out.xt (HI.out.trans HX10.out)))).mono ?_; rintro e w8 ⟨n8, a8, rfl, hA8, hx8⟩; clear hA8; rw [HV.out]; obtain ⟨zn, hn1, hn2⟩ : ∃ zn : CE, zn.1 = copyC v ∧ zn.2 = a8 := ⟨(copyC v, a8), rfl, rfl⟩; have hzn : copyCV v a8 = ceV zn := (by rw [← ceV_copy]; obtain ⟨z1, z2⟩ := zn; simp only at hn1 hn2; rw [hn1, hn2]); rw [hzn]; have HN : Hid (zn.1 = copyC v) := hn1; obtain ⟨wZ2, wR2, hwZ2, hwR2, hrZ2, hrR2, hxR2, hsR2, hxZ2, hsZ2⟩ := boxR w8 zn; have HXR2 : Hid (Xt W wR2) := (HX10.out.trans hx8).trans hxR2; have HRZ2 := Lib.hid hrZ2; have HRN2 := Lib.hid hrR2; have HWR2 := Lib.hid hwR2; have HRW2 := Lib.hid (rowX (hx8.trans hxR2) HRW.out); have kd : wR2.cell? ⟨w8.heap.size, 0, none⟩ = some (.int .i64 1) := (by have hh : zn.1.kind = 1 := (by rw [HN.out]; show v.kind = 1; rw [HLAW.out.1]; exact HK.out); rw [← hh]; simp [World.cell?, HRN2.out]); have kz : wR2.cell? ⟨w7.heap.size, 0, none⟩ = some (.int .i64 1) := (by have hh : zw.1.kind = 1 := (by rw [HW.out]; exact HK.out); rw [← hh]; simp [World.cell?, HRW2.out]); clear hrZ2 hwR2 hrR2 hxR2 hxZ2 hx8 hzn hn1 hn2)
              | (refine wpListIn_store_row (P := Tryz.prog) rfl 51 _ _ rfl w8.heap.size #[.int .i64 zn.1.kind, .int .i64 zn.1.v.kind, .float .f64 zn.1.v.x, .string zn.1.v.s, .bool zn.1.v.b, .int .i64 zn.1.v.f, .int .i64 zn.1.t.kind, .int .i64 zn.1.t.op, .float .f64 zn.1.t.x, .string zn.1.t.s, .bool zn.1.t.b, .int .i64 zn.1.t.f, .int .i64 zn.1.t.ref.a.1, .int .i64 zn.1.t.ref.a.2, .bool zn.1.t.ref.cf, .bool zn.1.t.ref.rf, .int .i64 zn.1.t.to.a.1, .int .i64 zn.1.t.to.a.2, .bool zn.1.t.to.cf, .bool zn.1.t.to.rf, .slice zn.2 zn.1.t.args.length zn.1.t.args.length] rfl rfl 51 _ HRZ2.out (by kernel_rfl) rfl (by simp [Value.oneCell']) ?_; rw [HWR2.out])
              | (refine BigFrame.wpListIn_want (by rfl) (fun K hK => wpIn_load_row 51 _ rfl w8.heap.size rfl 51 _ (0, 0) _ HRN2.out Tryz.underlying51 rfl (by kernel_rfl) (hK _ _ ?_)); clear hK K)
              | (refine BigFrame.wpListIn_want (by rfl) (fun K hK => wpIn_load_row 51 _ rfl w7.heap.size rfl 51 _ (0, 0) _ HRW2.out Tryz.underlying51 rfl (by kernel_rfl) (hK _ _ ?_)); clear hK K)
              | (gi_at_call 17; refine (callsIn_round (gsame_any 1 zn.1 zw.1 zn.2 zw.2 zn.1.t.args.length zw.1.t.args.length wR2 (argsIn_nil _ _ _ (by rw [HN.out, HLAW.out.2 HK.out]; exact copy_args (HPA.out HK.out))) (argsIn_nil _ _ _ (by rw [HW.out]; exact copy_args (HPA.out HK.out))))).mono ?_; rintro e w11 ⟨rfl, hg11⟩; rw [show sameCB zn.1 zw.1 = true by rw [HN.out, HW.out, HLAW.out.2 HK.out]; exact sameCB_refl _]; have HX11 : Hid (Xt W w11) := HXR2.out.trans hg11.xt; clear hg11))
            have hx := HX11.out
            exact ⟨keepsFrom_xt hx _, KC.of_xt hx, HI.out.trans hx⟩
          · have HK := Lib.hid hk
            clear hk
            obtain ⟨ku, hku⟩ : ∃ ku, u.kind = ku := ⟨_, rfl⟩
            have hk1 : (ku == (1 : Int)) = false := by have := HK.out; rw [hku] at this; simp [this]
            have HKU := Lib.hid hku
            clear hku
            gi_wp2_with (first
              | (gi_at_call 15; have hm0 := hm1; clear hm1 hm0; refine (callsIn_round (gget_any gb mb M (c, d) _ (HGW.out.xt HI.out))).mono ?_; rintro e w7 ⟨n7, a7, rfl, hA7, hx7⟩; clear hA7; rw [HU.out]; obtain ⟨zw, hw1, hw2⟩ : ∃ zw : CE, zw.1 = copyC u ∧ zw.2 = a7 := ⟨(copyC u, a7), rfl, rfl⟩; have hzw : copyCV u a7 = ceV zw := (by rw [← ceV_copy]; obtain ⟨z1, z2⟩ := zw; simp only at hw1 hw2; rw [hw1, hw2]); rw [hzw]; have HW : Hid (zw.1 = copyC u) := hw1; obtain ⟨wZ, wR, hwZ, hwR, hrZ, hrR, hxR, hsR, hxZ, hsZ⟩ := boxR w7 zw; have HXR : Hid (Xt W wR) := hx7.trans hxR; have HRZ := Lib.hid hrZ; have HRW := Lib.hid hrR; have HWR := Lib.hid hwR; have hsz7 := hx7.size; obtain ⟨q5, _, a0, a1, a2, a3, c0, d0, b0, b1, b2, b3⟩ := HF0.out wR (HI.out.trans HXR.out); obtain ⟨x0, x1, _, _⟩ := cells2 (rowX HXR.out HBX.out); clear hrZ hwR hrR hxR hxZ hx7 hzw hw1 hw2)
              | (refine wpListIn_store_row (P := Tryz.prog) rfl 51 _ _ rfl w7.heap.size #[.int .i64 zw.1.kind, .int .i64 zw.1.v.kind, .float .f64 zw.1.v.x, .string zw.1.v.s, .bool zw.1.v.b, .int .i64 zw.1.v.f, .int .i64 zw.1.t.kind, .int .i64 zw.1.t.op, .float .f64 zw.1.t.x, .string zw.1.t.s, .bool zw.1.t.b, .int .i64 zw.1.t.f, .int .i64 zw.1.t.ref.a.1, .int .i64 zw.1.t.ref.a.2, .bool zw.1.t.ref.cf, .bool zw.1.t.ref.rf, .int .i64 zw.1.t.to.a.1, .int .i64 zw.1.t.to.a.2, .bool zw.1.t.to.cf, .bool zw.1.t.to.rf, .slice zw.2 zw.1.t.args.length zw.1.t.args.length] rfl rfl 51 _ HRZ.out (by kernel_rfl) rfl (by simp [Value.oneCell']) ?_; rw [HWR.out])
              | (gi_at_call 16; have hm0 := hm2; clear hm2 hm0; refine (callsIn_round (HCG.out _)).mono ?_; rintro e w9 ⟨rfl, hg9⟩; have HX9 : Hid (Xt W w9) := HXR.out.trans hg9.xt; replace HRW := Lib.hid (rowX hg9.xt HRW.out); obtain ⟨q5, q11, a0, a1, a2, a3, c0, d0, b0, b1, b2, b3⟩ := HF0.out w9 (HI.out.trans HX9.out); obtain ⟨x0, x1, _, _⟩ := cells2 (rowX HX9.out HBX.out); clear hg9)
              | (gi_at_call 16; refine (callsIn_round (HCF.out _)).mono ?_; rintro e w10 ⟨rfl, hg10⟩; have HX10 : Hid (Xt W w10) := HX9.out.trans hg10.xt; replace HRW := Lib.hid (rowX hg10.xt HRW.out); obtain ⟨q5, q11, a0, a1, a2, a3, c0, d0, b0, b1, b2, b3⟩ := HF0.out w10 (HI.out.trans HX10.out); obtain ⟨x0, x1, _, _⟩ := cells2 (rowX HX10.out HBX.out); clear hg10)
              | (gi_at_call 15; refine (callsIn_round (gget_any ga ma Ma (c, d) _ (HGaW.out.xt (HI.out.trans HX10.out)))).mono ?_; rintro e w8 ⟨n8, a8, rfl, hA8, hx8⟩; clear hA8; rw [HV.out]; obtain ⟨zn, hn1, hn2⟩ : ∃ zn : CE, zn.1 = copyC v ∧ zn.2 = a8 := ⟨(copyC v, a8), rfl, rfl⟩; have hzn : copyCV v a8 = ceV zn := (by rw [← ceV_copy]; obtain ⟨z1, z2⟩ := zn; simp only at hn1 hn2; rw [hn1, hn2]); rw [hzn]; have HN : Hid (zn.1 = copyC v) := hn1; obtain ⟨wZ2, wR2, hwZ2, hwR2, hrZ2, hrR2, hxR2, hsR2, hxZ2, hsZ2⟩ := boxR w8 zn; have HXR2 : Hid (Xt W wR2) := (HX10.out.trans hx8).trans hxR2; have HRZ2 := Lib.hid hrZ2; have HRN2 := Lib.hid hrR2; have HWR2 := Lib.hid hwR2; have HRW2 := Lib.hid (rowX (hx8.trans hxR2) HRW.out); have kd : wR2.cell? ⟨w8.heap.size, 0, none⟩ = some (.int .i64 ku) := (by have hh : zn.1.kind = ku := (by rw [HN.out]; show v.kind = ku; rw [HLAW.out.1]; exact HKU.out); rw [← hh]; simp [World.cell?, HRN2.out]); have kz : wR2.cell? ⟨w7.heap.size, 0, none⟩ = some (.int .i64 ku) := (by have hh : zw.1.kind = ku := (by rw [HW.out]; exact HKU.out); rw [← hh]; simp [World.cell?, HRW2.out]); clear hrZ2 hwR2 hrR2 hxR2 hxZ2 hx8 hzn hn1 hn2)
              | (refine wpListIn_store_row (P := Tryz.prog) rfl 51 _ _ rfl w8.heap.size #[.int .i64 zn.1.kind, .int .i64 zn.1.v.kind, .float .f64 zn.1.v.x, .string zn.1.v.s, .bool zn.1.v.b, .int .i64 zn.1.v.f, .int .i64 zn.1.t.kind, .int .i64 zn.1.t.op, .float .f64 zn.1.t.x, .string zn.1.t.s, .bool zn.1.t.b, .int .i64 zn.1.t.f, .int .i64 zn.1.t.ref.a.1, .int .i64 zn.1.t.ref.a.2, .bool zn.1.t.ref.cf, .bool zn.1.t.ref.rf, .int .i64 zn.1.t.to.a.1, .int .i64 zn.1.t.to.a.2, .bool zn.1.t.to.cf, .bool zn.1.t.to.rf, .slice zn.2 zn.1.t.args.length zn.1.t.args.length] rfl rfl 51 _ HRZ2.out (by kernel_rfl) rfl (by simp [Value.oneCell']) ?_; rw [HWR2.out]))
            have hx := HXR2.out
            exact ⟨keepsFrom_xt hx _, KC.of_xt hx, HI.out.trans hx⟩
        · have hlaw := now_law (mvC f gl cc rr) (mvA f gl cc rr) none
          have hgt := HGET.out
          simp only [Bool.false_eq_true, if_false, if_true] at hgt
          rw [← hgt, HV2.out] at hlaw
          have HLAW := Lib.hid hlaw
          clear hlaw hgt
          have hzz : True := trivial
          gi_wp2_with (first
            | (gi_at_call 15; have hm0 := hm1; clear hm1 hm0; refine (callsIn_round (gget_any gb mb M (c, d) _ (HGW.out.xt HI.out))).mono ?_; rintro e w7 ⟨n7, a7, rfl, hA7, hx7⟩; clear hA7; rw [HU.out]; obtain ⟨zw, hw1, hw2⟩ : ∃ zw : CE, zw.1 = copyC u ∧ zw.2 = a7 := ⟨(copyC u, a7), rfl, rfl⟩; have hzw : copyCV u a7 = ceV zw := (by rw [← ceV_copy]; obtain ⟨z1, z2⟩ := zw; simp only at hw1 hw2; rw [hw1, hw2]); rw [hzw]; have HW : Hid (zw.1 = copyC u) := hw1; obtain ⟨wZ, wR, hwZ, hwR, hrZ, hrR, hxR, hsR, hxZ, hsZ⟩ := boxR w7 zw; have HXR : Hid (Xt W wR) := hx7.trans hxR; have HRZ := Lib.hid hrZ; have HRW := Lib.hid hrR; have HWR := Lib.hid hwR; have hsz7 := hx7.size; obtain ⟨q5, _, a0, a1, a2, a3, c0, d0, b0, b1, b2, b3⟩ := HF0.out wR (HI.out.trans HXR.out); obtain ⟨x0, x1, _, _⟩ := cells2 (rowX HXR.out HBX.out); clear hrZ hwR hrR hxR hxZ hx7 hzw hw1 hw2)
            | (refine wpListIn_store_row (P := Tryz.prog) rfl 51 _ _ rfl w7.heap.size #[.int .i64 zw.1.kind, .int .i64 zw.1.v.kind, .float .f64 zw.1.v.x, .string zw.1.v.s, .bool zw.1.v.b, .int .i64 zw.1.v.f, .int .i64 zw.1.t.kind, .int .i64 zw.1.t.op, .float .f64 zw.1.t.x, .string zw.1.t.s, .bool zw.1.t.b, .int .i64 zw.1.t.f, .int .i64 zw.1.t.ref.a.1, .int .i64 zw.1.t.ref.a.2, .bool zw.1.t.ref.cf, .bool zw.1.t.ref.rf, .int .i64 zw.1.t.to.a.1, .int .i64 zw.1.t.to.a.2, .bool zw.1.t.to.cf, .bool zw.1.t.to.rf, .slice zw.2 zw.1.t.args.length zw.1.t.args.length] rfl rfl 51 _ HRZ.out (by kernel_rfl) rfl (by simp [Value.oneCell']) ?_; rw [HWR.out])
            | (gi_at_call 16; have hm0 := hm2; clear hm2 hm0; refine (callsIn_round (HCG.out _)).mono ?_; rintro e w9 ⟨rfl, hg9⟩; have HX9 : Hid (Xt W w9) := HXR.out.trans hg9.xt; replace HRW := Lib.hid (rowX hg9.xt HRW.out); obtain ⟨q5, q11, a0, a1, a2, a3, c0, d0, b0, b1, b2, b3⟩ := HF0.out w9 (HI.out.trans HX9.out); obtain ⟨x0, x1, _, _⟩ := cells2 (rowX HX9.out HBX.out); clear hg9)
            | (gi_at_call 16; refine (callsIn_round (HCF.out _)).mono ?_; rintro e w10 ⟨rfl, hg10⟩; have HX10 : Hid (Xt W w10) := HX9.out.trans hg10.xt; replace HRW := Lib.hid (rowX hg10.xt HRW.out); obtain ⟨q5, q11, a0, a1, a2, a3, c0, d0, b0, b1, b2, b3⟩ := HF0.out w10 (HI.out.trans HX10.out); obtain ⟨x0, x1, _, _⟩ := cells2 (rowX HX10.out HBX.out); clear hg10)
            | (gi_at_call 15; refine (callsIn_round (gget_any ga ma Ma (c, d) _ (HGaW.out.xt (HI.out.trans HXS.out)))).mono ?_; rintro e w8 ⟨n8, a8, rfl, hA8, hx8⟩; clear hA8; rw [HV.out]; obtain ⟨zn, hn1, hn2⟩ : ∃ zn : CE, zn.1 = copyC v ∧ zn.2 = a8 := ⟨(copyC v, a8), rfl, rfl⟩; have hzn : copyCV v a8 = ceV zn := (by rw [← ceV_copy]; obtain ⟨z1, z2⟩ := zn; simp only at hn1 hn2; rw [hn1, hn2]); rw [hzn]; have HN : Hid (zn.1 = copyC v) := hn1; obtain ⟨wZ2, wR2, hwZ2, hwR2, hrZ2, hrR2, hxR2, hsR2, hxZ2, hsZ2⟩ := boxR w8 zn; have HXR2 : Hid (Xt W wR2) := (HXS.out.trans hx8).trans hxR2; have HRZ2 := Lib.hid hrZ2; have HRN2 := Lib.hid hrR2; have HWR2 := Lib.hid hwR2; have HRW2 := Lib.hid (rowX (hx8.trans hxR2) HRW.out); have kd : wR2.cell? ⟨w8.heap.size, 0, none⟩ = some (.int .i64 0) := (by have hh : zn.1.kind = 0 := (by rw [HN.out]; show v.kind = 0; rw [HLAW.out.1]; rfl); rw [← hh]; simp [World.cell?, HRN2.out]); have kz : wR2.cell? ⟨w7.heap.size, 0, none⟩ = some (.int .i64 0) := (by simp [World.cell?, HRW2.out]); clear hrZ2 hwR2 hrR2 hxR2 hxZ2 hx8 hzn hn1 hn2)
            | (refine wpListIn_store_row (P := Tryz.prog) rfl 51 _ _ rfl w8.heap.size #[.int .i64 zn.1.kind, .int .i64 zn.1.v.kind, .float .f64 zn.1.v.x, .string zn.1.v.s, .bool zn.1.v.b, .int .i64 zn.1.v.f, .int .i64 zn.1.t.kind, .int .i64 zn.1.t.op, .float .f64 zn.1.t.x, .string zn.1.t.s, .bool zn.1.t.b, .int .i64 zn.1.t.f, .int .i64 zn.1.t.ref.a.1, .int .i64 zn.1.t.ref.a.2, .bool zn.1.t.ref.cf, .bool zn.1.t.ref.rf, .int .i64 zn.1.t.to.a.1, .int .i64 zn.1.t.to.a.2, .bool zn.1.t.to.cf, .bool zn.1.t.to.rf, .slice zn.2 zn.1.t.args.length zn.1.t.args.length] rfl rfl 51 _ HRZ2.out (by kernel_rfl) rfl (by simp [Value.oneCell']) ?_; rw [HWR2.out])
            | (refine wpListIn_store_row (P := Tryz.prog) rfl 51 _ _ rfl w7.heap.size #[.int .i64 0, .int .i64 0, .float .f64 0, .string ⟨#[]⟩, .bool false, .int .i64 0, .int .i64 0, .int .i64 0, .float .f64 0, .string ⟨#[]⟩, .bool false, .int .i64 0, .int .i64 0, .int .i64 0, .bool false, .bool false, .int .i64 0, .int .i64 0, .bool false, .bool false, .slice none 0 0] rfl rfl 51 _ HRW.out (by kernel_rfl) rfl (by simp [Value.oneCell']) ?_; obtain ⟨wS, hwS⟩ : ∃ wS, w10.setRow w7.heap.size #[.int .i64 0, .int .i64 0, .float .f64 0, .string ⟨#[]⟩, .bool false, .int .i64 0, .int .i64 0, .int .i64 0, .float .f64 0, .string ⟨#[]⟩, .bool false, .int .i64 0, .int .i64 0, .int .i64 0, .bool false, .bool false, .int .i64 0, .int .i64 0, .bool false, .bool false, .slice none 0 0] = wS := ⟨_, rfl⟩; have hrS : wS.heap[w7.heap.size]? = some (.cells #[.int .i64 0, .int .i64 0, .float .f64 0, .string ⟨#[]⟩, .bool false, .int .i64 0, .int .i64 0, .int .i64 0, .float .f64 0, .string ⟨#[]⟩, .bool false, .int .i64 0, .int .i64 0, .int .i64 0, .bool false, .bool false, .int .i64 0, .int .i64 0, .bool false, .bool false, .slice none 0 0] 51 (0, 0)) := (by rw [← hwS]; exact setRow_heap _ _ _ _ _ _ HRW.out); have HXS : Hid (Xt W wS) := (by unfold Hid; rw [← hwS]; exact HX10.out.grownB (setRow_grown _ _ _) (fun m hm => by cases hm; exact hsz7)); replace HRW := Lib.hid hrS; obtain ⟨q5, q11, a0, a1, a2, a3, c0, d0, b0, b1, b2, b3⟩ := HF0.out wS (HI.out.trans HXS.out); obtain ⟨x0, x1, _, _⟩ := cells2 (rowX HXS.out HBX.out); rw [hwS]; clear hwS hrS))
          have hx := HXR2.out
          exact ⟨keepsFrom_xt hx _, KC.of_xt hx, HI.out.trans hx⟩
      · have hfar := HMV.out.far
        have hinr : 1 ≤ c ∧ c ≤ 12 ∧ 1 ≤ d ∧ d ≤ 12 := by have h := HIN2.out; simp only at h; omega
        have hn1 : IntKind.i64.wrap (-cc) = -cc := wrap_idz (by omega) (by omega)
        have hn2 : IntKind.i64.wrap (-rr) = -rr := wrap_idz (by omega) (by omega)
        have HSH2 := Lib.hid (fun V => shifted_any (c, d) (-cc) (-rr) V)
        simp only [w64 (x := c + -cc) (by omega) (by omega), w64 (x := d + -rr) (by omega) (by omega)] at HSH2
        obtain ⟨u2, hu2⟩ : ∃ u2, ((lkM (c + -cc, d + -rr) M).getD (zeroC, none)).1 = u2 := ⟨_, rfl⟩
        have hu22 : (lkM (c + -cc, d + -rr) (er M)).getD zeroC = u2 := (er_getD (c + -cc, d + -rr) M).symm.trans hu2
        have hlaw := now_law (mvC f gl cc rr) (mvA f gl cc rr) (lkM (c + -cc, d + -rr) (er M))
        have hgt := HGET.out
        simp only [if_true] at hgt
        rw [← hgt, HV2.out, hu22] at hlaw
        have hpa := plain_args HOG.out (c + -cc, d + -rr)
        rw [hu22] at hpa
        have HLAW := Lib.hid hlaw
        have HPA := Lib.hid hpa
        have HU3 := Lib.hid hu2
        have hBxl : Bx < W.heap.size := (Array.getElem?_eq_some_iff.1 HBX.out).1
        have hKl : K6 + 1 + 1 + 1 < W.heap.size := World.block_lt_of_cell? W _ d0
        clear hlaw hpa hgt hu2 hu22 hfar hinr
        gi_wp2_with (first
          | (gi_at_call 15; have hm0 := hm1; clear hm1 hm0; refine (callsIn_round (gget_any gb mb M (c, d) _ (HGW.out.xt HI.out))).mono ?_; rintro e w7 ⟨n7, a7, rfl, hA7, hx7⟩; clear hA7; rw [HU.out]; obtain ⟨zw, hw1, hw2⟩ : ∃ zw : CE, zw.1 = copyC u ∧ zw.2 = a7 := ⟨(copyC u, a7), rfl, rfl⟩; have hzw : copyCV u a7 = ceV zw := (by rw [← ceV_copy]; obtain ⟨z1, z2⟩ := zw; simp only at hw1 hw2; rw [hw1, hw2]); rw [hzw]; have HW : Hid (zw.1 = copyC u) := hw1; obtain ⟨wZ, wR, hwZ, hwR, hrZ, hrR, hxR, hsR, hxZ, hsZ⟩ := boxR w7 zw; have HXR : Hid (Xt W wR) := hx7.trans hxR; have HRZ := Lib.hid hrZ; have HRW := Lib.hid hrR; have HWR := Lib.hid hwR; have hsz7 := hx7.size; obtain ⟨q5, _, a0, a1, a2, a3, c0, d0, b0, b1, b2, b3⟩ := HF0.out wR (HI.out.trans HXR.out); obtain ⟨x0, x1, _, _⟩ := cells2 (rowX HXR.out HBX.out); clear hrZ hwR hrR hxR hxZ hx7 hzw hw1 hw2)
          | (refine wpListIn_store_row (P := Tryz.prog) rfl 51 _ _ rfl w7.heap.size #[.int .i64 zw.1.kind, .int .i64 zw.1.v.kind, .float .f64 zw.1.v.x, .string zw.1.v.s, .bool zw.1.v.b, .int .i64 zw.1.v.f, .int .i64 zw.1.t.kind, .int .i64 zw.1.t.op, .float .f64 zw.1.t.x, .string zw.1.t.s, .bool zw.1.t.b, .int .i64 zw.1.t.f, .int .i64 zw.1.t.ref.a.1, .int .i64 zw.1.t.ref.a.2, .bool zw.1.t.ref.cf, .bool zw.1.t.ref.rf, .int .i64 zw.1.t.to.a.1, .int .i64 zw.1.t.to.a.2, .bool zw.1.t.to.cf, .bool zw.1.t.to.rf, .slice zw.2 zw.1.t.args.length zw.1.t.args.length] rfl rfl 51 _ HRZ.out (by kernel_rfl) rfl (by simp [Value.oneCell']) ?_; rw [HWR.out])
          | (gi_at_call 16; have hm0 := hm2; clear hm2 hm0; refine (callsIn_round (HCG.out _)).mono ?_; rintro e w9 ⟨rfl, hg9⟩; have HX9 : Hid (Xt W w9) := HXR.out.trans hg9.xt; replace HRW := Lib.hid (rowX hg9.xt HRW.out); obtain ⟨q5, q11, a0, a1, a2, a3, c0, d0, b0, b1, b2, b3⟩ := HF0.out w9 (HI.out.trans HX9.out); obtain ⟨x0, x1, _, _⟩ := cells2 (rowX HX9.out HBX.out); clear hg9))
        have HF2 : Hid (∀ V, w9.grownBy V (some w7.heap.size) → V.cell? ⟨K5, 0, none⟩ = some (.pointer (some ⟨gb, 0, none⟩)) ∧ V.cell? ⟨Bx, 0, none⟩ = some (.int .i64 c) ∧ V.cell? ⟨Bx, 1, none⟩ = some (.int .i64 d) ∧ V.cell? ⟨K6 + 1 + 1, 0, none⟩ = some (.int .i64 cc) ∧ V.cell? ⟨K6 + 1 + 1 + 1, 0, none⟩ = some (.int .i64 rr)) := Lib.hid fun V hV => by
          have k : ∀ b, b ≠ w7.heap.size → ∀ o u, w9.cell? ⟨b, o, none⟩ = some u → V.cell? ⟨b, o, none⟩ = some u := fun b hb o u hu => (World.cell?_of_block (w := w9) (a := ⟨b, o, none⟩) (hV.block b (World.block_lt_of_cell? w9 _ hu) (fun e => hb (by have := Option.some.inj e; omega)))).trans hu
          obtain ⟨q5, q11, a0, a1, a2, a3, c0, d0, b0, b1, b2, b3⟩ := HF0.out w9 (HI.out.trans HX9.out)
          obtain ⟨x0, x1, _, _⟩ := cells2 (rowX HX9.out HBX.out)
          exact ⟨k K5 (by omega) _ _ q5, k Bx (by omega) _ _ x0, k Bx (by omega) _ _ x1, k _ (by omega) _ _ c0, k _ (by omega) _ _ d0⟩
        clear q5 q11 a0 a1 a2 a3 b0 b1 b2 b3 x0 x1
        refine region_round (S := fun V => w9.grownBy V (some w7.heap.size)) (by kernel_rfl) (by kernel_rfl) (fun _ _ h => h) (⟨rfl, rfl, rfl, Nat.le_refl _, fun _ _ _ => rfl⟩ : w9.grownBy w9.drew _) (fun hHeld => ?_)
        refine tkH 0 ?_ ?_ ?_
        rotate_left
        · intro V hSw; obtain ⟨u0, u1, u2, u3, u4⟩ := HF2.out V hSw; go_simp; first | done | with_reducible rfl
        try simp only [Act.put, nm]
        refine tkH 1 ?_ ?_ ?_
        rotate_left
        · intro V hSw; obtain ⟨u0, u1, u2, u3, u4⟩ := HF2.out V hSw; go_simp; first | done | with_reducible rfl
        try simp only [Act.put, nm]
        refine tkH 2 ?_ ?_ ?_
        rotate_left
        · intro V hSw; obtain ⟨u0, u1, u2, u3, u4⟩ := HF2.out V hSw; go_simp; first | done | with_reducible rfl
        try simp only [Act.put, nm]
        refine tkH 3 ?_ ?_ ?_
        rotate_left
        · intro V hSw; obtain ⟨u0, u1, u2, u3, u4⟩ := HF2.out V hSw; go_simp; first | done | with_reducible rfl
        try simp only [Act.put, nm]
        refine tkH 4 ?_ ?_ ?_
        rotate_left
        · intro V hSw; obtain ⟨u0, u1, u2, u3, u4⟩ := HF2.out V hSw; go_simp; first | done | with_reducible rfl
        try simp only [Act.put, nm]
        refine tkH 5 ?_ ?_ ?_
        rotate_left
        · intro V hSw; obtain ⟨u0, u1, u2, u3, u4⟩ := HF2.out V hSw; go_simp; first | done | with_reducible rfl
        try simp only [Act.put, nm]
        refine rdH 6 (fun K hK => ?_)
        go_simp
        refine (HSH2.out _).mono ?_
        rintro e wn ⟨rfl, hgn⟩
        have HXN : Hid (Xt w9 wn) := (Xt.refl w9).drew.trans hgn
        refine hK.out _ _ (HXN.out.grown (some w7.heap.size)) (fun hHeldB => ?_)
        clear hK K hgn
        try simp only [Act.put, nm]
        refine rdH 7 (fun K hK => ?_)
        go_simp
        refine (gget_any gb mb M (c + -cc, d + -rr) _ (HGW.out.xt (HI.out.trans (HX9.out.trans HXN.out)))).mono ?_
        rintro e wg ⟨n10, a10, rfl, hA10, hx10⟩
        clear hA10
        rw [HU3.out]
        obtain ⟨zx, hx1, hx2⟩ : ∃ zx : CE, zx.1 = copyC u2 ∧ zx.2 = a10 := ⟨(copyC u2, a10), rfl, rfl⟩
        have hzx : copyCV u2 a10 = ceV zx := (by rw [← ceV_copy]; obtain ⟨z1, z2⟩ := zx; simp only at hx1 hx2; rw [hx1, hx2])
        rw [hzx]
        have HWX : Hid (zx.1 = copyC u2) := hx1
        have HXG : Hid (Xt w9 wg) := HXN.out.trans hx10
        refine hK.out _ _ (HXG.out.grown (some w7.heap.size)) (fun hHeldC => ?_)
        clear hK K hx10 hzx hx1 hx2
        try simp only [Act.put, nm]
        refine rdH 8 (fun K hK => ?_)
        rw [if_pos (by rfl)]
        refine wp_store_row (P := Tryz.prog) 51 _ _ rfl w7.heap.size #[.int .i64 zx.1.kind, .int .i64 zx.1.v.kind, .float .f64 zx.1.v.x, .string zx.1.v.s, .bool zx.1.v.b, .int .i64 zx.1.v.f, .int .i64 zx.1.t.kind, .int .i64 zx.1.t.op, .float .f64 zx.1.t.x, .string zx.1.t.s, .bool zx.1.t.b, .int .i64 zx.1.t.f, .int .i64 zx.1.t.ref.a.1, .int .i64 zx.1.t.ref.a.2, .bool zx.1.t.ref.cf, .bool zx.1.t.ref.rf, .int .i64 zx.1.t.to.a.1, .int .i64 zx.1.t.to.a.2, .bool zx.1.t.to.cf, .bool zx.1.t.to.rf, .slice zx.2 zx.1.t.args.length zx.1.t.args.length] rfl rfl 51 _ (rowX HXG.out HRW.out) (by kernel_rfl) rfl (by simp [Value.oneCell']) ?_
        obtain ⟨wS, hwS⟩ : ∃ wS, wg.setRow w7.heap.size #[.int .i64 zx.1.kind, .int .i64 zx.1.v.kind, .float .f64 zx.1.v.x, .string zx.1.v.s, .bool zx.1.v.b, .int .i64 zx.1.v.f, .int .i64 zx.1.t.kind, .int .i64 zx.1.t.op, .float .f64 zx.1.t.x, .string zx.1.t.s, .bool zx.1.t.b, .int .i64 zx.1.t.f, .int .i64 zx.1.t.ref.a.1, .int .i64 zx.1.t.ref.a.2, .bool zx.1.t.ref.cf, .bool zx.1.t.ref.rf, .int .i64 zx.1.t.to.a.1, .int .i64 zx.1.t.to.a.2, .bool zx.1.t.to.cf, .bool zx.1.t.to.rf, .slice zx.2 zx.1.t.args.length zx.1.t.args.length] = wS := ⟨_, rfl⟩
        have hrS : wS.heap[w7.heap.size]? = some (.cells #[.int .i64 zx.1.kind, .int .i64 zx.1.v.kind, .float .f64 zx.1.v.x, .string zx.1.v.s, .bool zx.1.v.b, .int .i64 zx.1.v.f, .int .i64 zx.1.t.kind, .int .i64 zx.1.t.op, .float .f64 zx.1.t.x, .string zx.1.t.s, .bool zx.1.t.b, .int .i64 zx.1.t.f, .int .i64 zx.1.t.ref.a.1, .int .i64 zx.1.t.ref.a.2, .bool zx.1.t.ref.cf, .bool zx.1.t.ref.rf, .int .i64 zx.1.t.to.a.1, .int .i64 zx.1.t.to.a.2, .bool zx.1.t.to.cf, .bool zx.1.t.to.rf, .slice zx.2 zx.1.t.args.length zx.1.t.args.length] 51 (0, 0)) := (by rw [← hwS]; exact setRow_heap _ _ _ _ _ _ (rowX HXG.out HRW.out))
        have HXS : Hid (Xt W wS) := (by unfold Hid; rw [← hwS]; exact (HX9.out.trans HXG.out).grownB (setRow_grown _ _ _) (fun m hm => by cases hm; exact hsz7))
        have hg9 : w9.grownBy wS (some w7.heap.size) := (by rw [← hwS]; exact grownBy_two (HXG.out.grown (some w7.heap.size)) (setRow_grown _ _ _))
        rw [hwS]
        replace HRW := Lib.hid hrS
        refine hK.out _ _ hg9 (fun hHeldD => ?_)
        clear hK K hwS hrS hg9 hHeld hHeldB hHeldC hHeldD
        refine wpAnyH_done (by kernel_rfl) ?_ _
        obtain ⟨q5, q11, a0, a1, a2, a3, c0, d0, b0, b1, b2, b3⟩ := HF0.out wS (HI.out.trans HXS.out)
        obtain ⟨x0, x1, _, _⟩ := cells2 (rowX HXS.out HBX.out)
        by_cases hk : u2.kind = 1
        · have HK := Lib.hid hk
          clear hk
          gi_wp2_with (first
            | (gi_at_call 15; refine (callsIn_round (gget_any ga ma Ma (c, d) _ (HGaW.out.xt (HI.out.trans HXS.out)))).mono ?_; rintro e w8 ⟨n8, a8, rfl, hA8, hx8⟩; clear hA8; rw [HV.out]; obtain ⟨zn, hn1, hn2⟩ : ∃ zn : CE, zn.1 = copyC v ∧ zn.2 = a8 := ⟨(copyC v, a8), rfl, rfl⟩; have hzn : copyCV v a8 = ceV zn := (by rw [← ceV_copy]; obtain ⟨z1, z2⟩ := zn; simp only at hn1 hn2; rw [hn1, hn2]); rw [hzn]; have HN : Hid (zn.1 = copyC v) := hn1; obtain ⟨wZ2, wR2, hwZ2, hwR2, hrZ2, hrR2, hxR2, hsR2, hxZ2, hsZ2⟩ := boxR w8 zn; have HXR2 : Hid (Xt W wR2) := (HXS.out.trans hx8).trans hxR2; have HRZ2 := Lib.hid hrZ2; have HRN2 := Lib.hid hrR2; have HWR2 := Lib.hid hwR2; have HRW2 := Lib.hid (rowX (hx8.trans hxR2) HRW.out); have kd : wR2.cell? ⟨w8.heap.size, 0, none⟩ = some (.int .i64 1) := (by have hh : zn.1.kind = 1 := (by rw [HN.out]; show v.kind = 1; rw [HLAW.out.1]; exact HK.out); rw [← hh]; simp [World.cell?, HRN2.out]); have kz : wR2.cell? ⟨w7.heap.size, 0, none⟩ = some (.int .i64 1) := (by have hh : zx.1.kind = 1 := (by rw [HWX.out]; exact HK.out); rw [← hh]; simp [World.cell?, HRW2.out]); clear hrZ2 hwR2 hrR2 hxR2 hxZ2 hx8 hzn hn1 hn2)
            | (refine wpListIn_store_row (P := Tryz.prog) rfl 51 _ _ rfl w8.heap.size #[.int .i64 zn.1.kind, .int .i64 zn.1.v.kind, .float .f64 zn.1.v.x, .string zn.1.v.s, .bool zn.1.v.b, .int .i64 zn.1.v.f, .int .i64 zn.1.t.kind, .int .i64 zn.1.t.op, .float .f64 zn.1.t.x, .string zn.1.t.s, .bool zn.1.t.b, .int .i64 zn.1.t.f, .int .i64 zn.1.t.ref.a.1, .int .i64 zn.1.t.ref.a.2, .bool zn.1.t.ref.cf, .bool zn.1.t.ref.rf, .int .i64 zn.1.t.to.a.1, .int .i64 zn.1.t.to.a.2, .bool zn.1.t.to.cf, .bool zn.1.t.to.rf, .slice zn.2 zn.1.t.args.length zn.1.t.args.length] rfl rfl 51 _ HRZ2.out (by kernel_rfl) rfl (by simp [Value.oneCell']) ?_; rw [HWR2.out])
            | (refine BigFrame.wpListIn_want (by rfl) (fun K hK => wpIn_load_row 51 _ rfl w8.heap.size rfl 51 _ (0, 0) _ HRN2.out Tryz.underlying51 rfl (by kernel_rfl) (hK _ _ ?_)); clear hK K)
            | (refine BigFrame.wpListIn_want (by rfl) (fun K hK => wpIn_load_row 51 _ rfl w7.heap.size rfl 51 _ (0, 0) _ HRW2.out Tryz.underlying51 rfl (by kernel_rfl) (hK _ _ ?_)); clear hK K)
            | (gi_at_call 17; refine (callsIn_round (gsame_any 1 zn.1 zx.1 zn.2 zx.2 zn.1.t.args.length zx.1.t.args.length wR2 (argsIn_nil _ _ _ (by rw [HN.out, HLAW.out.2 HK.out]; exact copy_args (HPA.out HK.out))) (argsIn_nil _ _ _ (by rw [HWX.out]; exact copy_args (HPA.out HK.out))))).mono ?_; rintro e w11 ⟨rfl, hg11⟩; rw [show sameCB zn.1 zx.1 = true by rw [HN.out, HWX.out, HLAW.out.2 HK.out]; exact sameCB_refl _]; have HX11 : Hid (Xt W w11) := HXR2.out.trans hg11.xt; clear hg11))
          have hx := HX11.out
          exact ⟨keepsFrom_xt hx _, KC.of_xt hx, HI.out.trans hx⟩
        · have HK := Lib.hid hk
          clear hk
          obtain ⟨ku, hku⟩ : ∃ ku, u2.kind = ku := ⟨_, rfl⟩
          have hk1 : (ku == (1 : Int)) = false := by have := HK.out; rw [hku] at this; simp [this]
          have HKU := Lib.hid hku
          clear hku
          gi_wp2_with (first
            | (gi_at_call 15; refine (callsIn_round (gget_any ga ma Ma (c, d) _ (HGaW.out.xt (HI.out.trans HXS.out)))).mono ?_; rintro e w8 ⟨n8, a8, rfl, hA8, hx8⟩; clear hA8; rw [HV.out]; obtain ⟨zn, hn1, hn2⟩ : ∃ zn : CE, zn.1 = copyC v ∧ zn.2 = a8 := ⟨(copyC v, a8), rfl, rfl⟩; have hzn : copyCV v a8 = ceV zn := (by rw [← ceV_copy]; obtain ⟨z1, z2⟩ := zn; simp only at hn1 hn2; rw [hn1, hn2]); rw [hzn]; have HN : Hid (zn.1 = copyC v) := hn1; obtain ⟨wZ2, wR2, hwZ2, hwR2, hrZ2, hrR2, hxR2, hsR2, hxZ2, hsZ2⟩ := boxR w8 zn; have HXR2 : Hid (Xt W wR2) := (HXS.out.trans hx8).trans hxR2; have HRZ2 := Lib.hid hrZ2; have HRN2 := Lib.hid hrR2; have HWR2 := Lib.hid hwR2; have HRW2 := Lib.hid (rowX (hx8.trans hxR2) HRW.out); have kd : wR2.cell? ⟨w8.heap.size, 0, none⟩ = some (.int .i64 ku) := (by have hh : zn.1.kind = ku := (by rw [HN.out]; show v.kind = ku; rw [HLAW.out.1]; exact HKU.out); rw [← hh]; simp [World.cell?, HRN2.out]); have kz : wR2.cell? ⟨w7.heap.size, 0, none⟩ = some (.int .i64 ku) := (by have hh : zx.1.kind = ku := (by rw [HWX.out]; exact HKU.out); rw [← hh]; simp [World.cell?, HRW2.out]); clear hrZ2 hwR2 hrR2 hxR2 hxZ2 hx8 hzn hn1 hn2)
            | (refine wpListIn_store_row (P := Tryz.prog) rfl 51 _ _ rfl w8.heap.size #[.int .i64 zn.1.kind, .int .i64 zn.1.v.kind, .float .f64 zn.1.v.x, .string zn.1.v.s, .bool zn.1.v.b, .int .i64 zn.1.v.f, .int .i64 zn.1.t.kind, .int .i64 zn.1.t.op, .float .f64 zn.1.t.x, .string zn.1.t.s, .bool zn.1.t.b, .int .i64 zn.1.t.f, .int .i64 zn.1.t.ref.a.1, .int .i64 zn.1.t.ref.a.2, .bool zn.1.t.ref.cf, .bool zn.1.t.ref.rf, .int .i64 zn.1.t.to.a.1, .int .i64 zn.1.t.to.a.2, .bool zn.1.t.to.cf, .bool zn.1.t.to.rf, .slice zn.2 zn.1.t.args.length zn.1.t.args.length] rfl rfl 51 _ HRZ2.out (by kernel_rfl) rfl (by simp [Value.oneCell']) ?_; rw [HWR2.out]))
          have hx := HXR2.out
          exact ⟨keepsFrom_xt hx _, KC.of_xt hx, HI.out.trans hx⟩
end Go.Proofs.YtdoeejhdenifpaaGreatDoor
/- A call (Step) as it comes in. -/
namespace Go.Proofs.YtdoeejhdenifpaaGreatDoor
open Go.ChangeShapes Go.WideShapes Go.ChangeAt Go.RowKit Go.Joins Go.Deep Go.Shelf

theorem Tryz.cellsArea : Tryz.prog.cellsOf 26 = 4 := by kernel_rfl
theorem Tryz.cellsStep : Tryz.prog.cellsOf 28 = 9 := by kernel_rfl
section
variable {H : Type} {enc : TypeId × Value → H} {W : World} {base : Nat} {spare : Nat → Bool} {held : Bool}
theorem open_i64 {n : Nat} {c : Value} {x : DataW H × List MemPlace} (h : DataW.trod enc Tryz.prog W base spare held n 3 [c] = some x) : ∃ k, c = .int .i64 k ∧ I64 k := by
  obtain ⟨m, e, _, hw⟩ := DataW.trod_int Tryz.underlying3 h
  simp at e
  exact ⟨m, e, bounds_i64 hw⟩
set_option maxRecDepth 100000 in
theorem open_adB {n : Nat} {c0 c1 : Value} {x : DataW H × List MemPlace} (h : DataW.trod enc Tryz.prog W base spare held n 24 [c0, c1] = some x) : ∃ a : Ad, c0 = .int .i64 a.1 ∧ c1 = .int .i64 a.2 ∧ I64 a.1 ∧ I64 a.2 := by
  obtain ⟨y0, y1, m, hx, hl, h0, h1⟩ := trod_struct2 Tryz.underlying24 h
  have g0 : DataW.trod enc Tryz.prog W base spare held m 3 [c0] = some y0 := by simpa [Tryz.cellsInt] using h0
  have g1 : DataW.trod enc Tryz.prog W base spare held m 3 [c1] = some y1 := by simpa [Tryz.cellsInt] using h1
  obtain ⟨a, e0, b0⟩ := open_i64 g0
  obtain ⟨b, e1, b1⟩ := open_i64 g1
  exact ⟨(a, b), e0, e1, b0, b1⟩
set_option maxRecDepth 100000 in
theorem open_areaB {n : Nat} {c0 c1 c2 c3 : Value} {x : DataW H × List MemPlace} (h : DataW.trod enc Tryz.prog W base spare held n 26 [c0, c1, c2, c3] = some x) : ∃ a : ArT, c0 = .int .i64 a.a ∧ c1 = .int .i64 a.b ∧ c2 = .int .i64 a.c ∧ c3 = .int .i64 a.d ∧ I64 a.a ∧ I64 a.b ∧ I64 a.c ∧ I64 a.d := by
  obtain ⟨y0, y1, m, hx, hl, h0, h1⟩ := trod_struct2 Tryz.underlying26 h
  have g0 : DataW.trod enc Tryz.prog W base spare held m 24 [c0, c1] = some y0 := by simpa [Tryz.cellsAddr] using h0
  have g1 : DataW.trod enc Tryz.prog W base spare held m 24 [c2, c3] = some y1 := by simpa [Tryz.cellsAddr] using h1
  obtain ⟨a, e0, e1, b0, b1⟩ := open_adB g0
  obtain ⟨b, e2, e3, b2, b3⟩ := open_adB g1
  exact ⟨⟨a.1, a.2, b.1, b.2⟩, e0, e1, e2, e3, b0, b1, b2, b3⟩
set_option maxRecDepth 100000 in
set_option maxHeartbeats 1000000 in
theorem open_step {n : Nat} {cs : List Value} {x : DataW H × List MemPlace} (h : DataW.trod enc Tryz.prog W base spare held n 28 cs = some x) :
    ∃ (kk aa nn : Int) (f : ArT) (g : Ad), cs = [.int .i64 kk, .int .i64 aa, .int .i64 nn, .int .i64 f.a, .int .i64 f.b, .int .i64 f.c, .int .i64 f.d, .int .i64 g.1, .int .i64 g.2] ∧ (I64 f.a ∧ I64 f.b ∧ I64 f.c ∧ I64 f.d ∧ I64 g.1 ∧ I64 g.2) ∧ I64 kk ∧ I64 aa ∧ I64 nn := by
  obtain ⟨xs, m, _, rfl, hl, hlen, hf⟩ := DataW.trod_struct Tryz.underlying28 h
  rw [Tryz.cellsStep] at hl
  match xs, hlen with
  | [y0, y1, y2, y3, y4], _ =>
    match cs, hl with
    | [c0, c1, c2, c3, c4, c5, c6, c7, c8], _ =>
      have g0 : DataW.trod enc Tryz.prog W base spare held m 3 [c0] = some y0 := by simpa [Tryz.cellsInt] using hf 0 _ rfl
      have g1 : DataW.trod enc Tryz.prog W base spare held m 3 [c1] = some y1 := by simpa [Tryz.cellsInt] using hf 1 _ rfl
      have g2 : DataW.trod enc Tryz.prog W base spare held m 3 [c2] = some y2 := by simpa [Tryz.cellsInt] using hf 2 _ rfl
      have g3 : DataW.trod enc Tryz.prog W base spare held m 26 [c3, c4, c5, c6] = some y3 := by simpa [Tryz.cellsArea] using hf 3 _ rfl
      have g4 : DataW.trod enc Tryz.prog W base spare held m 24 [c7, c8] = some y4 := by simpa [Tryz.cellsAddr] using hf 4 _ rfl
      obtain ⟨kk, rfl, b0⟩ := open_i64 g0
      obtain ⟨aa, rfl, b1⟩ := open_i64 g1
      obtain ⟨nn, rfl, b2⟩ := open_i64 g2
      obtain ⟨f, rfl, rfl, rfl, rfl, b3, b4, b5, b6⟩ := open_areaB g3
      obtain ⟨g, rfl, rfl, b7, b8⟩ := open_adB g4
      exact ⟨kk, aa, nn, f, g, rfl, ⟨b3, b4, b5, b6, b7, b8⟩, b0, b1, b2⟩
end
end Go.Proofs.YtdoeejhdenifpaaGreatDoor
