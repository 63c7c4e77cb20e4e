import Derived.Test.YtdoeejhdenifpaaGreatDoorA12
import Derived.Test.YtdoeejhdenifpaaGreatDoorR6
import Derived.Test.YtdoeejhdenifpaaGreatDoorA13
import Derived.Test.YtdoeejhdenifpaaGreatDoorA14
import Derived.RangeFuncNested
import Derived.Test.YtdoeejhdenifpaaGreatDoorA9
import Derived.Deep.MidRow
/- A loop over an iterator that writes rows of its own between its rounds. -/
namespace Go.Proofs.YtdoeejhdenifpaaGreatDoor
open Go.RowKit
def FarFrom {β : Type} (B : Nat) (J : β → World → Prop) : Prop := ∀ s W W', J s W → Below B W W' → J s W'
section
variable {α : Type} {n : Nat} {P : Program}
def SeqFar (n : Nat) (P : Program) (g : Nat) (lb : Array Value) (encs : α → Array Value) (Kp : World → World → Prop) (T : World → α → World → Prop) (S Sp : List α → Prop) (N : Nat) (w0 : World) : Prop :=
 ∀ (l : Nat) (J Jx : List α → World → Prop) (W : World), Below w0.heap.size w0 W → FarFrom W.heap.size J → FarFrom W.heap.size Jx →
  (∀ pre x W1, J pre W1 → (∃ V, J pre V ∧ T V x W1) → pre.length < N → YieldAt Fence.wide (n - 1) P l (encs x) W1 fun e W' => (e = .returned (.bool true) ∧ J (pre ++ [x]) W' ∧ Kp W1 W') ∨ (e = .returned (.bool false) ∧ Jx (pre ++ [x]) W')) →
  J [] W →
  CallsIn Fence.wide n P g (#[.func (.yield l) #[] #[]] ++ lb) W fun e W' => (∃ v, e = .returned v) ∧ ((∃ xs, S xs ∧ J xs W') ∨ (∃ pre, Sp pre ∧ Jx pre W'))
theorem FarFrom.alloc {β : Type} {B : Nat} {J : β → World → Prop} (h : FarFrom B J) {s : β} {W : World} (o : Obj) (hs : J s W) (hB : B ≤ W.heap.size) : J s (W.alloc o) := h s W _ hs ((Below.refl _ _).alloc hB o)
theorem FarFrom.putObj {β : Type} {B : Nat} {J : β → World → Prop} (h : FarFrom B J) {s : β} {W : World} {l : Nat} (o' : Obj) (hs : J s W) (hl : B ≤ l) : J s (W.putObj l o') :=
 h s W _ hs ⟨(grownBy_putObj' W l o').os, (grownBy_putObj' W l o').tape, (grownBy_putObj' W l o').output, (grownBy_putObj' W l o').size, fun k hk => World.putObj_heap_other (by omega)⟩
theorem Books.far {D : Nat} {L : Loop} {W W' : World} (h : Books D L W) (hb : Below (D + 2) W W') : Books D L W' := ⟨(hb.block _ (by omega)).trans h.loop, (hb.block _ (by omega)).trans h.late⟩
theorem rangeFunc_far {g : Operand} {ps : Array Tmp} {assign body : Code} {Q : Exit → Act → World → Prop} {a : Act} {w : World} (h1 : 1 ≤ n) {gf : Nat} {lb : Array Value} (hg : a.eval g = .func (.func gf) #[] lb) (eg : ∀ args w, (callFunc gf args).run P w = .ok (.enter gf args) w)
    {encs : α → Array Value} {Kp : World → World → Prop} {T : World → α → World → Prop} {S Sp : List α → Prop} {N : Nat} {w0 : World} (hseq : SeqFar (n - 1) P gf lb encs Kp T S Sp N w0)
    (hKt : ∀ {A B C : World}, Kp A B → Kp B C → Kp A C) (hKb : ∀ (W : World) (l : Nat) (o o' : Obj), w.heap.size ≤ l → W.heap[l]? = some o → o.isCells = false → o.isWalk = false → Kp W (W.putObj l o')) (hb0 : Below w0.heap.size w0 w) (hps : ∀ x, (encs x).size = ps.size)
    (I : List α → World → Prop) (Ix : Code → List α → World → Prop) (hI : FarFrom w.heap.size I) (hIx : ∀ c, FarFrom w.heap.size (Ix c)) (h0 : I [] w) (Ax : α → Act → World → Prop) (hAx : ∀ x a', OwnFrom w.heap.size (fun (_ : Unit) W => Ax x a' W))
    (hassign : ∀ (l : Nat) (pre : List α) (x : α) (W : World) (K : Act → World → Prop), I pre W → (∃ V, I pre V ∧ T V x W) → (∀ a' W', KeepsFrom w.heap.size W W' → Kp W W' → I pre W' → Ax x a' W' → K a' W') →
     assign.wpIn (Fence.wide.inRound l) (n - 1 - 1) P (Exit.then K (fun _ _ _ => False)) { tmps := (ps.zip (encs x)).foldl (fun t (p, v) => t.setIfInBounds p v) a.tmps, defers := [] } W)
    (hbody : ∀ (l : Nat) (pre : List α) (x : α) (a' : Act) (W : World), w.heap.size ≤ l → (∃ r, W.heap[l]? = some (.loop r)) → I pre W → Ax x a' W → pre.length < N → body.wpIn (Fence.wide.inRound l) (n - 1 - 1) P (ownPostG w.heap.size Kp I Ix (pre ++ [x]) W) a' W)
    (hdone : ∀ (D : Nat) (xs : List α) (W : World), w.heap.size ≤ D → S xs → I xs W → W.heap[D]? = some (.deferred (some [])) → Q .normal { a with defers := { target := .collected D, args := #[] } :: a.defers } W)
    (hstop : ∀ (D : Nat) (c : Code) (pre : List α) (W : World), w.heap.size ≤ D → Sp pre → Ix c pre W → W.heap[D]? = some (.deferred (some [])) → c.wpIn Fence.wide n P Q { a with defers := { target := .collected D, args := #[] } :: a.defers } W) :
    (Code.rangeFunc g ps assign body).wpIn Fence.wide n P Q a w := by
 refine wpIn_rangeFunc fun fn hfn => ?_
 let L : LoopState → Option Code → Loop := fun st pe => { state := st, pending := pe, fn, tmps := a.tmps, params := ps, assign, body, defers := w.heap.size }
 obtain ⟨V, hV⟩ : ∃ V, (w.alloc (.deferred (some []))).alloc (.loop (L .ready none)) = V := ⟨_, rfl⟩
 have hVB : Books w.heap.size (L .ready none) V := by
  rw [← hV]
  refine ⟨?_, (Below.heap_alloc _ _ _ (by simp)).trans (World.alloc_heap_new w _)⟩
  have := World.alloc_heap_new (w.alloc (.deferred (some []))) (.loop (L .ready none))
  rwa [World.size_alloc] at this
 have hVs : V.heap.size = w.heap.size + 2 := by rw [← hV]; simp
 have hVI : I [] V := by rw [← hV]; exact hI.alloc _ (hI.alloc _ h0 (Nat.le_refl _)) (by simp)
 have hVb : Below w0.heap.size w0 V := by rw [← hV]; exact hb0.trans ((((Below.refl _ w).alloc (Nat.le_refl _) _).alloc (by simp) _).mono hb0.size)
 refine ⟨w.heap.size + 1, [{ target := .collected w.heap.size, args := #[] }], V, { target := .fn (.func gf) lb, args := #[.func (.yield (w.heap.size + 1)) #[] #[]] }, V, gf, #[.func (.yield (w.heap.size + 1)) #[] #[]] ++ lb, V, ?_, ?_, fun _ _ => trivial, by simp [invoke, go_sem, eg], fun _ => h1, ?_⟩
 · rw [← hV]; exact run_enterLoop_outer _ _ _ _ _
 · simp only [resolve, hg]; simp [go_sem]
 refine (hseq (w.heap.size + 1) (fun pre W => I pre W ∧ Books w.heap.size (L .ready none) W) (fun pre W => ∃ c, Ix c pre W ∧ Books w.heap.size (L .done (some c)) W) V hVb
  (fun s A B hs hb => ⟨hI s A B hs.1 (hb.mono (by omega)), hs.2.far (hb.mono (by omega))⟩)
  (fun s A B hs hb => let ⟨c, hc, hk⟩ := hs; ⟨c, hIx c s A B hc (hb.mono (by omega)), hk.far (hb.mono (by omega))⟩) ?_ ⟨hVI, hVB⟩).mono ?_
 · rintro pre x W ⟨hi, hb⟩ ⟨V0, hV0, ht⟩ hlen
   have hy := run_yield (P := P) (args := encs x) hb.loop (hps x)
   refine ⟨fn, _, assign, body, hy, roundIn_of_wpIn hfn (hassign _ pre x W _ hi ⟨V0, hV0.1, ht⟩ ?_)⟩
   intro a' Wa hka hpa hia haa
   have hba := hb.keep hka
   refine ⟨_, run_beginRound hba.loop rfl, ?_⟩
   have hbb : Books w.heap.size { L .ready none with state := .busy } (Wa.putObj (w.heap.size + 1) (.loop { L .ready none with state := .busy })) := hba.turn
   have hpb : Kp Wa (Wa.putObj (w.heap.size + 1) (.loop { L .ready none with state := .busy })) := hKb _ _ _ _ (by omega) hba.loop rfl rfl
   refine wpIn_mono (hbody _ pre x a' _ (by omega) ⟨_, hbb.loop⟩ (hI.putObj _ hia (by omega)) ((hAx x a').putObj (s := ()) _ haa (by omega) hba.loop rfl) hlen) ?_
   have out : ∀ (jump : Option Code) (Wz : World), KeepsFrom w.heap.size (Wa.putObj (w.heap.size + 1) (.loop { L .ready none with state := .busy })) Wz →
       (Instr.endRound (w.heap.size + 1) jump).run P Wz = .ok (.bool jump.isNone) (Wz.putObj (w.heap.size + 1) (.loop (L (if jump.isNone then .ready else .done) jump))) ∧ Wz.heap[w.heap.size + 1]? = some (.loop { L .ready none with state := .busy }) ∧ Books w.heap.size (L (if jump.isNone then .ready else .done) jump) (Wz.putObj (w.heap.size + 1) (.loop (L (if jump.isNone then .ready else .done) jump))) := fun jump Wz hkz =>
    have hbz := hbb.keep hkz
    ⟨run_endRound (P := P) jump hbz.loop, hbz.loop, hbz.turn⟩
   have gone : ∀ (c : Code) (Wz : World), KeepsFrom w.heap.size (Wa.putObj (w.heap.size + 1) (.loop { L .ready none with state := .busy })) Wz → Ix c (pre ++ [x]) Wz →
       (Instr.endRound (w.heap.size + 1) (some c)).run P Wz = .ok (.bool false) (Wz.putObj (w.heap.size + 1) (.loop (L .done (some c)))) ∧ ∃ c', Ix c' (pre ++ [x]) (Wz.putObj (w.heap.size + 1) (.loop (L .done (some c)))) ∧ Books w.heap.size (L .done (some c')) (Wz.putObj (w.heap.size + 1) (.loop (L .done (some c)))) := fun c Wz hkz hiz => by
    obtain ⟨q1, q2, q3⟩ := out (some c) Wz hkz
    exact ⟨q1, c, (hIx c).putObj _ hiz (by omega), q3⟩
   rintro e az Wz hz
   cases e with
   | normal =>
    obtain ⟨hkz, hpz, hiz⟩ := hz
    obtain ⟨q1, q2, q3⟩ := out none Wz hkz
    exact ⟨_, _, q1, .inl ⟨rfl, ⟨hI.putObj _ hiz (by omega), q3⟩, hKt hpa (hKt (hKt hpb hpz) (hKb _ _ _ _ (by omega) q2 rfl rfl))⟩⟩
   | ret => obtain ⟨q1, q2⟩ := gone .ret Wz hz.1 hz.2; exact ⟨_, _, q1, .inr ⟨rfl, q2⟩⟩
   | exit id => obtain ⟨q1, q2⟩ := gone (.exit id) Wz hz.1 hz.2; exact ⟨_, _, q1, .inr ⟨rfl, q2⟩⟩
   | goto t => obtain ⟨q1, q2⟩ := gone (.goto t) Wz hz.1 hz.2; exact ⟨_, _, q1, .inr ⟨rfl, q2⟩⟩
   | panic ch => exact hz.elim
   | outgrown => exact hz.elim
 · rintro e Wz ⟨⟨v, rfl⟩, (⟨xs, hS, hi, hb⟩ | ⟨pre, hSp, c, hi, hb⟩)⟩
   · exact ⟨none, _, run_endLoop (P := P) hb.loop (by simp [L]), hdone _ xs _ (Nat.le_refl _) hS (hI.putObj _ hi (by omega)) ((World.putObj_heap_other (by omega)).trans hb.late)⟩
   · exact ⟨some c, _, run_endLoop (P := P) hb.loop (by simp [L]), hstop _ c pre _ (Nat.le_refl _) hSp ((hIx c).putObj _ hi (by omega)) ((World.putObj_heap_other (by omega)).trans hb.late)⟩
end
end Go.Proofs.YtdoeejhdenifpaaGreatDoor
/- addr.Cells' iterator: it tells cells of the area. -/
namespace Go.Proofs.YtdoeejhdenifpaaGreatDoor
open Go.RowKit Go.Sort Go.Maps Go.Shelf
attribute [local go_sem] Oper.semAt_some
structure KC (W W' : World) : Prop where
 size : W.heap.size ≤ W'.heap.size
 same : ∀ (k : Nat) (o : Obj), W.heap[k]? = some o → o.isCells = true → W'.heap[k]? = some o
theorem KC.refl (W : World) : KC W W := ⟨Nat.le_refl _, fun _ _ h _ => h⟩
theorem KC.trans {A B C : World} (h : KC A B) (k : KC B C) : KC A C := ⟨Nat.le_trans h.size k.size, fun b o e ho => k.same b o (h.same b o e ho) ho⟩
theorem KC.of_xt {W W' : World} (h : Xt W W') : KC W W' := ⟨h.size, fun k _ e _ => (h.block k (Array.getElem?_eq_some_iff.1 e).1).trans e⟩
theorem KC.putObj {W : World} {l : Nat} {o : Obj} (o' : Obj) (ho : W.heap[l]? = some o) (hc : o.isCells = false) : KC W (W.putObj l o') :=
 ⟨(grownBy_putObj' W l o').size, fun k ok hk hok => ((grownBy_putObj' W l o').block k (Array.getElem?_eq_some_iff.1 hk).1 (fun e => by have := Option.some.inj e; subst this; rw [ho] at hk; cases hk; rw [hc] at hok; cases hok)).trans hk⟩
def atOf (w : World) : Value → Ad
 | .pointer (some p) => (intOf ((w.cell? ⟨p.block, 0, none⟩).getD undef), intOf ((w.cell? ⟨p.block, 1, none⟩).getD undef))
 | _ => (0, 0)
theorem atOf_row {w : World} {k : Nat} {x y : Int} {T : TypeId} (h : w.heap[k]? = some (.cells #[.int .i64 x, .int .i64 y] T (0, 0))) : atOf w (.pointer (some ⟨k, 0, none⟩)) = (x, y) := by
 simp [atOf, World.cell?, h, intOf]
def leftN (f : ArT) (a : Ad) : Nat := ((f.d - a.2) * (f.c - f.a + 1) + (f.c - a.1)).toNat + 1
theorem inA_le {f : ArT} {a : Ad} (h : inA f a = true) : validA f.a f.b f.c f.d = true ∧ f.a ≤ a.1 ∧ a.1 ≤ f.c ∧ f.b ≤ a.2 ∧ a.2 ≤ f.d := by
 unfold inA inB at h
 simp only [Bool.and_eq_true, decide_eq_true_eq] at h
 exact ⟨h.1.1.1.1, h.1.1.1.2, h.1.1.2, h.1.2, h.2⟩
theorem inA_of {f : ArT} {a : Ad} (hv : validA f.a f.b f.c f.d = true) (h : f.a ≤ a.1 ∧ a.1 ≤ f.c ∧ f.b ≤ a.2 ∧ a.2 ≤ f.d) : inA f a = true := by
 unfold inA inB
 simp only [Bool.and_eq_true, decide_eq_true_eq]
 exact ⟨⟨⟨⟨hv, h.1⟩, h.2.1⟩, h.2.2.1⟩, h.2.2.2⟩
theorem left_one {f : ArT} {x y : Int} (h : inA f (x, y) = true) (hx : x < f.c) : leftN f (x + 1, y) + 1 = leftN f (x, y) := by
 obtain ⟨_, h1, h2, h3, h4⟩ := inA_le h
 unfold leftN
 have hp : 0 ≤ (f.d - y) * (f.c - f.a + 1) := Int.mul_nonneg (by simp only at h4; omega) (by simp only at h1 h2; omega)
 obtain ⟨p, hpe⟩ : ∃ p, (f.d - y) * (f.c - f.a + 1) = p := ⟨_, rfl⟩
 simp only
 rw [hpe] at hp ⊢
 omega
theorem left_row {f : ArT} {x y : Int} (h : inA f (x, y) = true) (hx : x = f.c) (hy : y < f.d) : leftN f (f.a, y + 1) + 1 = leftN f (x, y) := by
 obtain ⟨_, h1, h2, h3, h4⟩ := inA_le h
 unfold leftN
 simp only at h1 h2 h3 h4 ⊢
 have hp : 0 ≤ (f.d - (y + 1)) * (f.c - f.a + 1) := Int.mul_nonneg (by omega) (by omega)
 have e : (f.d - y) * (f.c - f.a + 1) = (f.d - (y + 1)) * (f.c - f.a + 1) + (f.c - f.a + 1) := by
  have : f.d - y = (f.d - (y + 1)) + 1 := by omega
  rw [this, Int.add_mul, Int.one_mul]
 rw [e]
 obtain ⟨p, hpe⟩ : ∃ p, (f.d - (y + 1)) * (f.c - f.a + 1) = p := ⟨_, rfl⟩
 rw [hpe] at hp ⊢
 omega
theorem left_pos (f : ArT) (a : Ad) : 0 < leftN f a := Nat.succ_pos _
theorem validA_le {a b c d : Int} (h : validA a b c d = true) : 1 ≤ a ∧ a ≤ c ∧ c ≤ 256 ∧ 1 ≤ b ∧ b ≤ d ∧ d ≤ 4096 := by
 unfold validA at h
 simp only [Bool.and_eq_true, decide_eq_true_eq] at h
 have h1 := validB_le h.1.1.1
 have h2 := validB_le h.1.1.2
 omega
def restL (f : ArT) : Nat → Int → Int → List Ad
 | 0, _, _ => []
 | n + 1, x, y => (x, y) :: (if x = f.c ∧ y = f.d then [] else if x < f.c then restL f n (x + 1) y else restL f n f.a (y + 1))
def cellsL (f : ArT) : List Ad := restL f (leftN f (f.a, f.b)) f.a f.b
theorem rest_end (f : ArT) : restL f (leftN f (f.c, f.d)) f.c f.d = [(f.c, f.d)] := by
 unfold leftN
 simp only [Int.sub_self, Int.zero_mul, Int.add_zero, Int.toNat_zero]
 rw [restL, if_pos ⟨rfl, rfl⟩]
theorem rest_row {f : ArT} {y : Int} (h : inA f (f.c, y) = true) (hy : y < f.d) : restL f (leftN f (f.c, y)) f.c y = (f.c, y) :: restL f (leftN f (f.a, y + 1)) f.a (y + 1) := by
 rw [← left_row h rfl hy, restL, if_neg (by omega), if_neg (by omega)]
theorem rest_one {f : ArT} {x y : Int} (h : inA f (x, y) = true) (hx : x < f.c) : restL f (leftN f (x, y)) x y = (x, y) :: restL f (leftN f (x + 1, y)) (x + 1) y := by
 rw [← left_one h hx, restL, if_neg (by omega), if_pos hx]
theorem pre_of {pre l k : List Ad} {z : Ad} (h : pre ++ z :: l = k) : pre ++ [z] <+: k := ⟨l, by rw [← h]; simp⟩
abbrev encA (x : Ad) : Array Value := #[adW x]
set_option maxRecDepth 100000 in
set_option maxHeartbeats 4000000 in
theorem cells1_told (n b : Nat) (f : ArT) (w0 : World) (hr : w0.heap[b]? = some (.cells #[.int .i64 f.a, .int .i64 f.b, .int .i64 f.c, .int .i64 f.d] 26 (0, 0))) (hv : validA f.a f.b f.c f.d = true) :
    SeqFar n Tryz.prog 79 #[.pointer (some ⟨b, 0, none⟩)] encA KC (fun _ x _ => inA f x = true) (fun xs => xs = cellsL f) (fun pre => pre <+: cellsL f) (leftN f (f.a, f.b)) w0 := fun l J Jx W hB hJ _ hY h0 => by
 have hx : Xt w0 W := hB
 have HR := Lib.hid (rowX hx hr)
 have HV := Lib.hid hv
 have hvb := validA_le hv
 have HY := Lib.hid (fun pre x W1 hj ht hl => yield_any (m' := 9 - 1) (hY pre x W1 hj ⟨W1, hj, ht⟩ hl))
 have HJ := Lib.hid (fun pre X Y (h : J pre X) (hx : Below W.heap.size X Y) => hJ pre X Y h hx)
 have HJ0 := Lib.hid h0
 have HVA := Lib.hid (fun V => validArea_any f.a f.b f.c f.d V)
 rw [hv] at HVA
 clear hY h0 hJ hr hx hB
 refine callsIn_wide.2 ((callsIn_wide (n := 9)).1 ?_)
 have hf : Fence.wide.fn 40 := trivial
 obtain ⟨⟨a0, a1, a2, a3⟩, _⟩ := cells4 HR.out
 refine callsIn_of_wp Tryz.func79 rfl trivial ?_ rfl
 simp only [Tryz.ntmps79, List.size_toArray, List.length_cons, List.length_nil, Nat.reduceAdd, Nat.reduceSub, Array.replicate_succ, Array.replicate_zero, List.push_toArray, List.append_toArray, List.nil_append, List.cons_append]
 gi_wp2_with (first
  | (gi_at_call 40; refine ((callsIn_wide (n := 9 - 1)).2 (HVA.out _)).mono ?_; rintro e w1 ⟨rfl, hg1⟩; have HX1 : Hid (Xt W w1) := hg1.xt; obtain ⟨⟨b0, b1, b2, b3⟩, _⟩ := cells4 (rowX HX1.out HR.out); clear hg1))
 obtain ⟨w2, hw2⟩ : ∃ w2, w1.alloc (.cells #[.int .i64 f.a, .int .i64 f.b] 24) = w2 := ⟨_, rfl⟩
 have HX2 : Hid (Xt W w2) := by unfold Hid; rw [← hw2]; exact HX1.out.alloc _
 have HK2 : Hid (w2.heap[w1.heap.size]? = some (.cells #[.int .i64 f.a, .int .i64 f.b] 24 (0, 0))) := by unfold Hid; rw [← hw2]; exact (MapKept.heap_alloc w1 _).1
 rw [hw2]
 clear hw2
 gi_loopw [3] (fun s3 wr => ∃ (k : Nat) (x y : Int) (pre : List Ad), s3 = .pointer (some ⟨k, 0, none⟩) ∧ Hid (KC W wr) ∧ Hid (J pre wr) ∧ Hid (wr.heap[k]? = some (.cells #[.int .i64 x, .int .i64 y] 24 (0, 0))) ∧ Hid (inA f (x, y) = true) ∧ Hid (pre.length + leftN f (x, y) = leftN f (f.a, f.b)) ∧ Hid (pre ++ restL f (leftN f (x, y)) x y = cellsL f) ∧ W.heap.size ≤ k) (fun s3 wr => leftN f (atOf wr s3))
 case atStart =>
  exact ⟨w1.heap.size, f.a, f.b, [], rfl, KC.of_xt HX2.out, HJ.out _ _ _ HJ0.out HX2.out, HK2, inA_of HV.out (by simp only; omega), (by unfold Hid; simp), rfl, HX1.out.size⟩
 case round =>
  obtain ⟨k, x, y, pre, rfl, HK, HJp, HRk, HIN, HLF, HRS, hkb⟩ := hrel
  have hin := inA_le HIN.out
  simp only at hin
  obtain ⟨k0, k1, kf0, kf1⟩ := cells2 HRk.out
  obtain ⟨⟨c0, c1, c2, c3⟩, _⟩ := cells4 (HK.out.same _ _ HR.out rfl)
  have hwx : IntKind.i64.wrap (x + 1) = x + 1 := wrap_idz (by omega) (by omega)
  have hwy : IntKind.i64.wrap (y + 1) = y + 1 := wrap_idz (by omega) (by omega)
  have hbk : k ≠ b := by have := (Array.getElem?_eq_some_iff.1 HR.out).1; omega
  have hbk' : b ≠ k := fun e => hbk e.symm
  obtain ⟨fn, tmps, assign, body, hy, hR⟩ := HY.out pre (x, y) wr HJp.out HIN.out (by have := HLF.out; have := left_pos f (x, y); omega)
  dsimp only [encA, adW] at hy
  by_cases hto : x = f.c ∧ y = f.d
  · obtain ⟨rfl, rfl⟩ := hto
    gi_wp2
    refine hR.mono ?_
    rintro e w3 (⟨rfl, hJ3, hk3⟩ | ⟨rfl, hJ3⟩)
    · have HJ3 := Lib.hid hJ3
      have HK3 := Lib.hid hk3
      obtain ⟨e0, e1, ef0, ef1⟩ := cells2 (hk3.same _ _ HRk.out rfl)
      obtain ⟨⟨g0, g1, g2, g3⟩, _⟩ := cells4 ((HK.out.trans hk3).same _ _ HR.out rfl)
      clear hk3 hJ3 hR hy
      gi_wp2
      refine bodyPost_ret (results_none rfl _ _ _) rfl ?_
      exact ⟨⟨_, rfl⟩, Or.inl ⟨_, by have := HRS.out; rw [rest_end] at this; exact this, HJ3.out⟩⟩
    · have HJ3 := Lib.hid hJ3
      clear hJ3 hR hy
      gi_wp2
      refine bodyPost_ret (results_none rfl _ _ _) rfl ?_
      exact ⟨⟨_, rfl⟩, Or.inr ⟨_, by have := HRS.out; rw [rest_end] at this; exact pre_of this, HJ3.out⟩⟩
  · by_cases hx : x = f.c
    · subst hx
      have hy1 : y < f.d := by omega
      have hgt : f.c < f.c + 1 := by omega
      have hne : ¬ y = f.d := by omega
      gi_wp2
      refine hR.mono ?_
      rintro e w3 (⟨rfl, hJ3, hk3⟩ | ⟨rfl, hJ3⟩)
      · have HJ3 := Lib.hid hJ3
        have HK3 := Lib.hid hk3
        obtain ⟨e0, e1, ef0, ef1⟩ := cells2 (hk3.same _ _ HRk.out rfl)
        obtain ⟨⟨g0, g1, g2, g3⟩, _⟩ := cells4 ((HK.out.trans hk3).same _ _ HR.out rfl)
        clear hk3 hJ3 hR hy
        gi_wp2
        have HKW := Lib.hid (HK.out.trans HK3.out)
        have hb : Below W.heap.size w3 (((w3.setCell ⟨k, 0, none⟩ (Value.int .i64 (f.c + 1))).setCell ⟨k, 0, none⟩ (Value.int .i64 f.a)).setCell ⟨k, 1, none⟩ (Value.int .i64 (y + 1))) := (((Below.refl _ w3).setCell hkb _).setCell hkb _).setCell hkb _
        have hbA := hb.alloc (by have := hb.size; have := HKW.out.size; omega) (Obj.cells #[Value.int .i64 f.a, Value.int .i64 (y + 1)] 24)
        go_roundw
        case rel =>
         refine ⟨_, f.a, y + 1, pre ++ [(f.c, y)], rfl, ⟨Nat.le_trans HKW.out.size hbA.size, fun k o hk ho => ((hbA.block k (Array.getElem?_eq_some_iff.1 hk).1).trans (HKW.out.same k o hk ho))⟩, HJ.out _ _ _ HJ3.out hbA, ?_, inA_of HV.out (by simp only; omega), ?_, ?_, ?_⟩
         · unfold Hid; exact (by simpa using (MapKept.heap_alloc (((w3.setCell ⟨k, 0, none⟩ (Value.int .i64 (f.c + 1))).setCell ⟨k, 0, none⟩ (Value.int .i64 f.a)).setCell ⟨k, 1, none⟩ (Value.int .i64 (y + 1))) (Obj.cells #[Value.int .i64 f.a, Value.int .i64 (y + 1)] 24)).1)
         · have h1 := HLF.out
           have h2 := left_row HIN.out rfl hy1
           unfold Hid
           rw [List.length_append, List.length_singleton]
           omega
         · have h1 := HRS.out
           rw [rest_row HIN.out hy1] at h1
           unfold Hid; rw [← h1]; simp
         · exact HKW.out.size
        case measure =>
         rw [atOf_row HRk.out, atOf_row (x := f.a) (y := y + 1) (T := 24) (by simpa using (MapKept.heap_alloc (((w3.setCell ⟨k, 0, none⟩ (Value.int .i64 (f.c + 1))).setCell ⟨k, 0, none⟩ (Value.int .i64 f.a)).setCell ⟨k, 1, none⟩ (Value.int .i64 (y + 1))) (Obj.cells #[Value.int .i64 f.a, Value.int .i64 (y + 1)] 24)).1)]
         have h2 := left_row HIN.out rfl hy1
         omega
      · have HJ3 := Lib.hid hJ3
        clear hJ3 hR hy
        gi_wp2
        refine bodyPost_ret (results_none rfl _ _ _) rfl ?_
        exact ⟨⟨_, rfl⟩, Or.inr ⟨_, by have := HRS.out; rw [rest_row HIN.out hy1] at this; exact pre_of this, HJ3.out⟩⟩
    · have hx1 : x < f.c := by omega
      have hgt : ¬ f.c < x + 1 := by omega
      gi_wp2
      refine hR.mono ?_
      rintro e w3 (⟨rfl, hJ3, hk3⟩ | ⟨rfl, hJ3⟩)
      · have HJ3 := Lib.hid hJ3
        have HK3 := Lib.hid hk3
        obtain ⟨e0, e1, ef0, ef1⟩ := cells2 (hk3.same _ _ HRk.out rfl)
        obtain ⟨⟨g0, g1, g2, g3⟩, _⟩ := cells4 ((HK.out.trans hk3).same _ _ HR.out rfl)
        clear hk3 hJ3 hR hy
        gi_wp2
        have HKW := Lib.hid (HK.out.trans HK3.out)
        have hb : Below W.heap.size w3 (w3.setCell ⟨k, 0, none⟩ (Value.int .i64 (x + 1))) := (Below.refl _ w3).setCell hkb _
        have hbA := hb.alloc (by have := hb.size; have := HKW.out.size; omega) (Obj.cells #[Value.int .i64 (x + 1), Value.int .i64 y] 24)
        go_roundw
        case rel =>
         refine ⟨_, x + 1, y, pre ++ [(x, y)], rfl, ⟨Nat.le_trans HKW.out.size hbA.size, fun k o hk ho => ((hbA.block k (Array.getElem?_eq_some_iff.1 hk).1).trans (HKW.out.same k o hk ho))⟩, HJ.out _ _ _ HJ3.out hbA, ?_, inA_of HV.out (by simp only; omega), ?_, ?_, ?_⟩
         · unfold Hid; exact (by simpa using (MapKept.heap_alloc (w3.setCell ⟨k, 0, none⟩ (Value.int .i64 (x + 1))) (Obj.cells #[Value.int .i64 (x + 1), Value.int .i64 y] 24)).1)
         · have h1 := HLF.out
           have h2 := left_one HIN.out hx1
           unfold Hid
           rw [List.length_append, List.length_singleton]
           omega
         · have h1 := HRS.out
           rw [rest_one HIN.out hx1] at h1
           unfold Hid; rw [← h1]; simp
         · exact HKW.out.size
        case measure =>
         rw [atOf_row HRk.out, atOf_row (x := x + 1) (y := y) (T := 24) (by simpa using (MapKept.heap_alloc (w3.setCell ⟨k, 0, none⟩ (Value.int .i64 (x + 1))) (Obj.cells #[Value.int .i64 (x + 1), Value.int .i64 y] 24)).1)]
         have h2 := left_one HIN.out hx1
         omega
      · have HJ3 := Lib.hid hJ3
        clear hJ3 hR hy
        gi_wp2
        refine bodyPost_ret (results_none rfl _ _ _) rfl ?_
        exact ⟨⟨_, rfl⟩, Or.inr ⟨_, by have := HRS.out; rw [rest_one HIN.out hx1] at this; exact pre_of this, HJ3.out⟩⟩
end Go.Proofs.YtdoeejhdenifpaaGreatDoor
/- addr.Meet; quadrillelaw22's cells (made by mkr8.py). -/
namespace Go.Proofs.YtdoeejhdenifpaaGreatDoor
open Go.RowKit Go.Sort Go.MapKept
attribute [local go_sem] Oper.semAt_some
def meetA (f x : ArT) : ArT := ⟨max f.a x.a, max f.b x.b, min f.c x.c, min f.d x.d⟩
def vaA (f : ArT) : Bool := validA f.a f.b f.c f.d
def meetB (f x : ArT) : Bool := vaA f && vaA x && vaA (meetA f x)
set_option maxRecDepth 100000 in
set_option maxHeartbeats 2000000 in
theorem cells22_any (f : ArT) (w : World) :
    Calls Tryz.prog 13 #[arT f] w fun e w' => ∃ b, e = .returned (.func (.func 79) #[] #[.pointer (some ⟨b, 0, none⟩)]) ∧ w'.heap[b]? = some (.cells #[.int .i64 f.a, .int .i64 f.b, .int .i64 f.c, .int .i64 f.d] 26 (0, 0)) ∧ Xt w w' := by
 have hqn := fun w f lb => run_eql_func_nil (P := Tryz.prog) w 39 _ _ _ (.func f) #[] lb Tryz.underlying39
 obtain ⟨w0, hw0⟩ : ∃ w0, w.alloc (.cells #[.int .i64 f.a, .int .i64 f.b, .int .i64 f.c, .int .i64 f.d] 26) = w0 := ⟨_, rfl⟩
 have HX0 : Hid (Xt w w0) := by unfold Hid; rw [← hw0]; exact (Xt.refl w).alloc _
 have HR0 : Hid (w0.heap[w.heap.size]? = some (.cells #[.int .i64 f.a, .int .i64 f.b, .int .i64 f.c, .int .i64 f.d] 26 (0, 0))) := by unfold Hid; rw [← hw0]; exact (MapKept.heap_alloc w _).1
 obtain ⟨⟨x0, x1, x2, x3⟩, _⟩ := cells4 HR0.out
 have HC : Hid (Calls Tryz.prog 39 #[arT f] w0 fun e w' => e = .returned (.func (.func 79) #[] #[.pointer (some ⟨w0.heap.size, 0, none⟩)]) ∧ w' = w0.alloc (.cells #[.int .i64 f.a, .int .i64 f.b, .int .i64 f.c, .int .i64 f.d] 26)) := by
  unfold Hid
  go_enter Tryz.func39, Tryz.ntmps39
  go_wp2
  go_ret
  exact ⟨rfl, rfl⟩
 have hW0 := Lib.hid hw0
 go_enter Tryz.func13, Tryz.ntmps13
 go_wp2_with (first
  | (go_at_call 39; refine (HC.out).mono ?_; rintro e w1 ⟨rfl, rfl⟩))
 go_ret
 exact ⟨w0.heap.size, rfl, (MapKept.heap_alloc w0 _).1, HX0.out.alloc _⟩
end Go.Proofs.YtdoeejhdenifpaaGreatDoor
/- quadrillelaw22's empty: has a grid nothing in an area, and does no formula name one of its cells (made by mkr9.py). -/
namespace Go.Proofs.YtdoeejhdenifpaaGreatDoor
open Go.RowKit Go.Sort Go.Maps Go.Shelf Go.MapKept
attribute [local go_sem] Oper.semAt_some
def hitN (f : ArT) (x : NodeT) : Bool := (decide (x.kind = 5) && inA f x.ref.a) || (decide (x.kind = 6) && meetB f (arOf x.ref x.to))
def hitT (f : ArT) (t : NodeT) : Bool := (flatT t).any (hitN f)
def busyP (f : ArT) (l : PG) : Bool := l.any fun x => inA f x.1 || hitT f x.2.t
end Go.Proofs.YtdoeejhdenifpaaGreatDoor
/- move, plain: MoveThere's law. -/
namespace Go.Proofs.YtdoeejhdenifpaaGreatDoor
open Go.RowKit Go.Sort
structure Mv (f gl : ArT) (cc rr : Int) : Prop where
 x0 : 1 ≤ f.a
 x1 : f.a ≤ f.c
 x2 : f.c ≤ 12
 y0 : 1 ≤ f.b
 y1 : f.b ≤ f.d
 y2 : f.d ≤ 12
 e : gl = ⟨f.a + cc, f.b + rr, f.c + cc, f.d + rr⟩
 u0 : 1 ≤ f.a + cc
 u1 : f.c + cc ≤ 12
 v0 : 1 ≤ f.b + rr
 v1 : f.d + rr ≤ 12
theorem Mv.back {f gl : ArT} {cc rr : Int} (h : Mv f gl cc rr) : Mv gl f (-cc) (-rr) := by
 obtain ⟨x0, x1, x2, y0, y1, y2, e, u0, u1, v0, v1⟩ := h
 subst e
 obtain ⟨a, b, c, d⟩ := f
 simp only at *
 refine ⟨by simp only; omega, by simp only; omega, by simp only; omega, by simp only; omega, by simp only; omega, by simp only; omega, ?_, by simp only; omega, by simp only; omega, by simp only; omega, by simp only; omega⟩
 have e1 : a + cc + -cc = a := by omega
 have e2 : b + rr + -rr = b := by omega
 have e3 : c + cc + -cc = c := by omega
 have e4 : d + rr + -rr = d := by omega
 simp only [e1, e2, e3, e4]
theorem w64 {x : Int} (h0 : -9223372036854775808 ≤ x) (h1 : x ≤ 9223372036854775807) : wrap64 x = x := by unfold wrap64; omega
theorem validB_o2 {a b : Int} (h : 1 ≤ a ∧ a ≤ 256 ∧ 1 ≤ b ∧ b ≤ 4096) : validB a b = true := by
 unfold validB
 simp only [Bool.and_eq_true, decide_eq_true_eq]
 exact ⟨⟨⟨h.1, h.2.1⟩, h.2.2.1⟩, h.2.2.2⟩
theorem vA_o2 {x : ArT} (h : (1 ≤ x.a ∧ x.a ≤ x.c ∧ x.c ≤ 256) ∧ (1 ≤ x.b ∧ x.b ≤ x.d ∧ x.d ≤ 4096)) : vA x = true := by
 unfold vA
 simp only [Bool.and_eq_true, decide_eq_true_eq]
 exact ⟨⟨⟨validB_o2 (by omega), validB_o2 (by omega)⟩, by omega⟩, by omega⟩
theorem Mv.vf {f gl : ArT} {cc rr : Int} (h : Mv f gl cc rr) : vA f = true := vA_o2 (by have := h.x0; have := h.x1; have := h.x2; have := h.y0; have := h.y1; have := h.y2; omega)
theorem Mv.inf {f gl : ArT} {cc rr : Int} (h : Mv f gl cc rr) (a : Ad) : inA f a = true ↔ f.a ≤ a.1 ∧ a.1 ≤ f.c ∧ f.b ≤ a.2 ∧ a.2 ≤ f.d :=
 ⟨fun e => (inA_le e).2, fun e => inA_of h.vf e⟩
theorem Mv.ing {f gl : ArT} {cc rr : Int} (h : Mv f gl cc rr) (a : Ad) : inA gl a = true ↔ f.a + cc ≤ a.1 ∧ a.1 ≤ f.c + cc ∧ f.b + rr ≤ a.2 ∧ a.2 ≤ f.d + rr := by
 have := h.back.inf a
 rw [this, h.e]
theorem Mv.far {f gl : ArT} {cc rr : Int} (h : Mv f gl cc rr) : -12 ≤ cc ∧ cc ≤ 12 ∧ -12 ≤ rr ∧ rr ≤ 12 := by
 have := h.x0; have := h.x1; have := h.x2; have := h.y0; have := h.y1; have := h.y2; have := h.u0; have := h.u1; have := h.v0; have := h.v1; omega
theorem Mv.mov {f gl : ArT} {cc rr : Int} (h : Mv f gl cc rr) {a : Ad} (ha : 1 ≤ a.1 ∧ a.1 ≤ 4096 ∧ 1 ≤ a.2 ∧ a.2 ≤ 4096) : movG cc rr a = (a.1 + cc, a.2 + rr) := by
 have := h.far
 unfold movG
 rw [w64 (by omega) (by omega), w64 (by omega) (by omega)]
theorem Mv.mov_in {f gl : ArT} {cc rr : Int} (h : Mv f gl cc rr) {a : Ad} (ha : inA f a = true) : movG cc rr a = (a.1 + cc, a.2 + rr) ∧ inA gl (a.1 + cc, a.2 + rr) = true := by
 have h1 := (h.inf a).1 ha
 have := h.x0; have := h.x2; have := h.y0; have := h.y2
 exact ⟨h.mov (by omega), (h.ing _).2 (by simp only; omega)⟩
theorem mvC_in {f gl : ArT} {cc rr : Int} {a : Ad} (ha : inA f a = true) : mvC f gl cc rr a = (movG cc rr a, true) := by unfold mvC; rw [if_pos ha]
theorem mvC_out {f gl : ArT} {cc rr : Int} {a : Ad} (ha : ¬ inA f a = true) : mvC f gl cc rr a = (a, !inA gl a) := by unfold mvC; rw [if_neg ha]
theorem Mv.road {f gl : ArT} {cc rr : Int} (h : Mv f gl cc rr) : RoadV (mvC f gl cc rr) (mvA f gl cc rr) := by
 constructor
 · intro a hv ho
   by_cases ha : inA f a = true
   · rw [mvC_in ha, (h.mov_in ha).1]
     have h2 := (h.ing _).1 (h.mov_in ha).2
     simp only at h2 ⊢
     have := h.u0; have := h.u1; have := h.v0; have := h.v1
     exact validB_o2 (by omega)
   · rw [mvC_out ha]; exact hv
 · intro x hv ho
   have v := vA_le hv
   unfold mvA
   by_cases hw : withinA x f = true
   · rw [if_pos hw]
     unfold withinA at hw
     simp only [Bool.and_eq_true] at hw
     obtain ⟨e1, i1⟩ := h.mov_in hw.1
     obtain ⟨e2, i2⟩ := h.mov_in hw.2
     have j1 := (h.ing _).1 i1
     have j2 := (h.ing _).1 i2
     have := h.u0; have := h.u1; have := h.v0; have := h.v1
     simp only [e1, e2] at *
     exact vA_o2 (by simp only; omega)
   · rw [if_neg hw]; exact hv
theorem Mv.inj {f gl : ArT} {cc rr : Int} (h : Mv f gl cc rr) {a b : Ad} (oa : (mvC f gl cc rr a).2 = true) (ob : (mvC f gl cc rr b).2 = true) (he : (mvC f gl cc rr a).1 = (mvC f gl cc rr b).1) : a = b := by
 by_cases ha : inA f a = true
 · by_cases hb : inA f b = true
   · rw [mvC_in ha, mvC_in hb] at he
     simp only [(h.mov_in ha).1, (h.mov_in hb).1, Prod.mk.injEq] at he
     exact Prod.ext (by omega) (by omega)
   · rw [mvC_out hb] at ob he
     rw [mvC_in ha] at he
     simp only [(h.mov_in ha).1] at he
     have := (h.mov_in ha).2
     rw [he] at this
     simp [this] at ob
 · by_cases hb : inA f b = true
   · rw [mvC_out ha] at oa he
     rw [mvC_in hb] at he
     simp only [(h.mov_in hb).1] at he
     have := (h.mov_in hb).2
     rw [← he] at this
     simp [this] at oa
   · rw [mvC_out ha, mvC_out hb] at he
     exact he
theorem goAll_allP (cG : Ad → Ad × Bool) (aG : ArT → ArT × Bool) (l : PG) : goAll cG aG l = allP [] (goP cG aG l) := by
 refine snoc_ind (P := fun l => goAll cG aG l = allP [] (goP cG aG l)) rfl (fun l x ih => ?_) l
 rw [goAll_snoc, ih, goP_snoc]
 unfold goStep
 split
 · rw [allP_snoc]
 · rfl
theorem perm_all : ∀ {l : List (Ad × ContT)}, (∀ x ∈ l, validB x.1.1 x.1.2 = true ∧ gvalidB x.2 = true ∧ (x.2.kind == 0) = false ∧ copyC x.2 = x.2 ∧ x.2.ok) → (l.map (·.1)).Nodup → l.length ≤ 4096 → SortedM (allP [] l) ∧ (allP [] l).Perm l := by
 intro l
 refine snoc_ind (P := fun l => (∀ x ∈ l, validB x.1.1 x.1.2 = true ∧ gvalidB x.2 = true ∧ (x.2.kind == 0) = false ∧ copyC x.2 = x.2 ∧ x.2.ok) → (l.map (·.1)).Nodup → l.length ≤ 4096 → SortedM (allP [] l) ∧ (allP [] l).Perm l) ?_ ?_ l
 · exact fun _ _ _ => ⟨List.Pairwise.nil, List.Perm.refl _⟩
 · intro l x ih hm hn hl
   rw [List.map_append, List.nodup_append] at hn
   obtain ⟨h1, h2⟩ := ih (fun y hy => hm y (List.mem_append_left _ hy)) hn.1 (by simp at hl; omega)
   have hno : lkM x.1 (allP [] l) = none := lkM_none.2 fun y hy e => hn.2.2 y.1 (List.mem_map.2 ⟨y, h2.mem_iff.1 hy, rfl⟩) x.1 (by simp) e
   have hlen : (allP [] l).length < 4096 := by have := h2.length_eq; simp at hl; omega
   obtain ⟨_, hp⟩ := put_new hno hlen (hm x (by simp))
   rw [allP_snoc, hp]
   exact ⟨sorted_setM _ _ h1, (setM_perm hno).trans ((h2.cons x).trans (List.perm_append_singleton x l).symm)⟩
section
variable {f gl : ArT} {cc rr : Int} {g : PG}
theorem Mv.each (h : Mv f gl cc rr) (hg : GOk g) : ∀ x ∈ goP (mvC f gl cc rr) (mvA f gl cc rr) g, validB x.1.1 x.1.2 = true ∧ gvalidB x.2 = true ∧ (x.2.kind == 0) = false ∧ copyC x.2 = x.2 ∧ x.2.ok := by
 intro y hy
 obtain ⟨z, hz, rfl⟩ := List.mem_map.1 hy
 obtain ⟨hz1, hz2⟩ := List.mem_filter.1 hz
 obtain ⟨v1, v2, v3, v4, v5⟩ := hg.each z hz1
 exact ⟨h.road.cell _ v1 hz2, contG_valid h.road v2, by rw [contG_kind]; exact v3, contG_copy _ _ z.2, contG_ok (okC_copy v5)⟩
theorem Mv.perm (h : Mv f gl cc rr) (hg : GOk g) : SortedM (goAll (mvC f gl cc rr) (mvA f gl cc rr) g) ∧ (goAll (mvC f gl cc rr) (mvA f gl cc rr) g).Perm (goP (mvC f gl cc rr) (mvA f gl cc rr) g) := by
 rw [goAll_allP]
 refine perm_all (h.each hg) ?_ ?_
 · unfold goP List.Nodup
   rw [List.map_map, List.pairwise_map, List.pairwise_filter]
   refine hg.sorted.imp_of_mem fun {a b} ha hb hl oa ob e => ?_
   have := h.inj oa ob e
   rw [this, adLt_irrefl] at hl; cases hl
 · have : (goP (mvC f gl cc rr) (mvA f gl cc rr) g).length ≤ g.length := by unfold goP; rw [List.length_map]; exact List.length_filter_le ..
   have := hg.many
   omega
theorem Mv.ok (h : Mv f gl cc rr) (hg : GOk g) : GOk (goAll (mvC f gl cc rr) (mvA f gl cc rr) g) := by
 obtain ⟨h1, h2⟩ := h.perm hg
 refine ⟨h1, ?_, fun x hx => h.each hg x (h2.mem_iff.1 hx)⟩
 have : (goP (mvC f gl cc rr) (mvA f gl cc rr) g).length ≤ g.length := by unfold goP; rw [List.length_map]; exact List.length_filter_le ..
 have := hg.many
 have := h2.length_eq
 omega
theorem lostP_perm {l k : PG} (h : l.Perm k) : lostP l = lostP k := by
 induction h with
 | nil => rfl
 | cons x _ ih => rw [lostP, lostP, ih]
 | swap x y l => rw [lostP, lostP, lostP, lostP]; omega
 | trans _ _ i1 i2 => exact i1.trans i2
theorem Mv.lost (h : Mv f gl cc rr) (hg : GOk g) (hl : (goAll (mvC f gl cc rr) (mvA f gl cc rr) g).length = g.length) : lostP g ≤ lostP (goAll (mvC f gl cc rr) (mvA f gl cc rr) g) := by
 have hp := (h.perm hg).2
 rw [lostP_perm hp]
 have hl2 : (goP (mvC f gl cc rr) (mvA f gl cc rr) g).length = g.length := hp.length_eq.symm.trans hl
 have ha : ∀ x ∈ g, (mvC f gl cc rr x.1).2 = true := by
  unfold goP at hl2
  rw [List.length_map] at hl2
  exact List.filter_eq_self.1 (List.filter_sublist.eq_of_length hl2)
 exact (lostP_goP (fun x hx => ⟨okCt_of hg x hx, ha x hx⟩)).1
theorem busy_not (hb : busyP gl g = false) : ∀ x ∈ g, ¬ inA gl x.1 = true ∧ ∀ y ∈ flatT x.2.t, hitN gl y = false := fun x hx => by
 unfold busyP at hb
 have h1 := List.any_eq_false.1 hb x hx
 simp only [Bool.or_eq_true, not_or] at h1
 refine ⟨h1.1, fun y hy => Bool.eq_false_iff.2 fun e => h1.2 ?_⟩
 exact List.any_eq_true.2 ⟨y, hy, e⟩
theorem Mv.cell_back (h : Mv f gl cc rr) {a : Ad} (hn : ¬ inA gl a = true) : (mvC f gl cc rr a).2 = true ∧ mvC gl f (-cc) (-rr) (mvC f gl cc rr a).1 = (a, true) := by
 by_cases ha : inA f a = true
 · rw [mvC_in ha, (h.mov_in ha).1]
   refine ⟨rfl, ?_⟩
   have hi := (h.mov_in ha).2
   rw [mvC_in hi, (h.back.mov_in hi).1]
   refine Prod.ext (Prod.ext ?_ ?_) rfl <;> (simp only; omega)
 · rw [mvC_out ha]
   refine ⟨by simp [hn], ?_⟩
   rw [mvC_out hn]
   simp [ha]
theorem within_meet {f x : ArT} (hv : vA x = true) (hw : withinA x f = true) : meetB f x = true := by
 unfold withinA at hw
 simp only [Bool.and_eq_true] at hw
 obtain ⟨vf, a1, a2, a3, a4⟩ := inA_le hw.1
 obtain ⟨_, b1, b2, b3, b4⟩ := inA_le hw.2
 simp only at a1 a2 a3 a4 b1 b2 b3 b4
 have e : meetA f x = x := by
  unfold meetA
  rw [Int.max_eq_right a1, Int.max_eq_right a3, Int.min_eq_right b2, Int.min_eq_right b4]
 unfold meetB
 rw [e, show vaA f = true from vf, show vaA x = true from hv]; rfl
theorem Mv.area_back (h : Mv f gl cc rr) {x : ArT} (hv : vA x = true) (hn : meetB gl x = false) : (mvA f gl cc rr x).2 = true ∧ mvA gl f (-cc) (-rr) (mvA f gl cc rr x).1 = (x, true) := by
 have hw2 : ¬ withinA x gl = true := fun e => by rw [within_meet hv e] at hn; cases hn
 by_cases hw : withinA x f = true
 · have hwe := hw
   unfold withinA at hwe
   simp only [Bool.and_eq_true] at hwe
   obtain ⟨e1, i1⟩ := h.mov_in hwe.1
   obtain ⟨e2, i2⟩ := h.mov_in hwe.2
   have ea : mvA f gl cc rr x = (⟨x.a + cc, x.b + rr, x.c + cc, x.d + rr⟩, true) := by unfold mvA; rw [if_pos hw, e1, e2]
   rw [ea]
   refine ⟨rfl, ?_⟩
   have hb : withinA ⟨x.a + cc, x.b + rr, x.c + cc, x.d + rr⟩ gl = true := by
    unfold withinA
    rw [i1, i2]; rfl
   unfold mvA
   rw [if_pos hb, (h.back.mov_in i1).1, (h.back.mov_in i2).1]
   obtain ⟨xa, xb, xc, xd⟩ := x
   have q1 : xa + cc + -cc = xa := by omega
   have q2 : xb + rr + -rr = xb := by omega
   have q3 : xc + cc + -cc = xc := by omega
   have q4 : xd + rr + -rr = xd := by omega
   simp only [q1, q2, q3, q4]
 · have ea : mvA f gl cc rr x = (x, true) := by unfold mvA; rw [if_neg hw]; simp [hw2]
   rw [ea]
   refine ⟨rfl, ?_⟩
   unfold mvA
   rw [if_neg hw2]
   simp [hw]
theorem Mv.there (h : Mv f gl cc rr) (hg : GOk g) (hb : busyP gl g = false) :
    goAll (mvC gl f (-cc) (-rr)) (mvA gl f (-cc) (-rr)) (goAll (mvC f gl cc rr) (mvA f gl cc rr) g) = g ∧ lostP (goAll (mvC f gl cc rr) (mvA f gl cc rr) g) = lostP g := by
 have hbn := busy_not hb
 have hX := h.ok hg
 obtain ⟨s1, p1⟩ := h.perm hg
 obtain ⟨s2, p2⟩ := h.back.perm hX
 have e := goP_comp (cG2 := mvC gl f (-cc) (-rr)) (aG2 := mvA gl f (-cc) (-rr)) (cG1 := mvC f gl cc rr) (aG1 := mvA f gl cc rr) (cG3 := cI) (aG3 := aI) (l := g) (fun x hx => ⟨fun ho => ⟨(h.cell_back (hbn x hx).1).2, contG_comp (okCt_of hg x hx) (fun hk y hy h56 => by
  have ok := flat_okN x.2.t false ((okCt_of hg x hx).fault hk) y hy
  have hh := (hbn x hx).2 y hy
  unfold hitN at hh
  simp only [Bool.or_eq_false_iff, Bool.and_eq_false_iff, decide_eq_false_iff_not] at hh
  refine head_comp h56 (fun e5 => ?_) (fun e6 => ?_)
  · have hn : ¬ inA gl y.ref.a = true := by rcases hh.1 with q | q; exact absurd e5 q; rw [q]; decide
    exact ⟨fun _ => (h.cell_back hn).2, fun hq => absurd (h.cell_back hn).1 hq⟩
  · have hn : meetB gl (arOf y.ref y.to) = false := by rcases hh.2 with q | q; exact absurd e6 q; exact q
    obtain ⟨a1, a2⟩ := h.area_back (ok.2 e6) hn
    exact ⟨fun _ => a2, fun hq => absurd a1 hq⟩)⟩, fun ho => absurd (h.cell_back (hbn x hx).1).1 ho⟩)
 rw [goP_id (okCt_of hg)] at e
 refine ⟨sortedM_perm s2 hg.sorted (p2.trans ?_), ?_⟩
 · have p3 : (goP (mvC gl f (-cc) (-rr)) (mvA gl f (-cc) (-rr)) (goAll (mvC f gl cc rr) (mvA f gl cc rr) g)).Perm (goP (mvC gl f (-cc) (-rr)) (mvA gl f (-cc) (-rr)) (goP (mvC f gl cc rr) (mvA f gl cc rr) g)) := by
    unfold goP
    exact (p1.filter _).map _
   rw [e] at p3
   exact p3
 · rw [lostP_perm p1]
   have : ∀ {l : PG}, (∀ x ∈ l, okCt x.2 ∧ (mvC f gl cc rr x.1).2 = true ∧ ∀ y ∈ flatT x.2.t, lostH (mvC f gl cc rr) (mvA f gl cc rr) y = false) → lostP (goP (mvC f gl cc rr) (mvA f gl cc rr) l) = lostP l := by
    intro l
    induction l with
    | nil => intro _; rfl
    | cons x l ih =>
     intro hl
     obtain ⟨h1, h2, h3⟩ := hl x List.mem_cons_self
     have e := contG_faults (cG := mvC f gl cc rr) (aG := mvA f gl cc rr) h1
     have z : lostC (mvC f gl cc rr) (mvA f gl cc rr) (flatT x.2.t) = 0 := by
      unfold lostC
      rw [List.filter_eq_nil_iff.2 (fun y hy => by rw [h3 y hy]; decide)]; rfl
     rw [goP_cons, if_pos h2, lostP, lostP, ih (fun y hy => hl y (List.mem_cons_of_mem _ hy))]
     simp only
     rw [h1.2.2, e, z]; omega
   refine this fun x hx => ⟨okCt_of hg x hx, (h.cell_back (hbn x hx).1).1, fun y hy => ?_⟩
   by_cases hk : x.2.kind = 2
   · have ok := flat_okN x.2.t false ((okCt_of hg x hx).fault hk) y hy
     have hh := (hbn x hx).2 y hy
     unfold hitN at hh
     simp only [Bool.or_eq_false_iff, Bool.and_eq_false_iff, decide_eq_false_iff_not] at hh
     unfold lostH
     simp only [Bool.or_eq_false_iff, Bool.and_eq_false_iff, decide_eq_false_iff_not, Bool.not_eq_false']
     constructor
     · by_cases e5 : y.kind = 5
       · have hn : ¬ inA gl y.ref.a = true := by rcases hh.1 with q | q; exact absurd e5 q; rw [q]; decide
         exact Or.inr (h.cell_back hn).1
       · exact Or.inl e5
     · by_cases e6 : y.kind = 6
       · have hn : meetB gl (arOf y.ref y.to) = false := by rcases hh.2 with q | q; exact absurd e6 q; exact q
         exact Or.inr (h.area_back (ok.2 e6) hn).1
       · exact Or.inl e6
   · obtain ⟨e1, e2⟩ := (okCt_of hg x hx).plain hk
     rw [e1] at hy
     rw [List.mem_singleton.1 hy]
     have hk2 : (leafN x.2.t).kind = x.2.t.kind := by cases x.2.t; rfl
     unfold lostH
     rw [hk2, e2]; rfl
end
end Go.Proofs.YtdoeejhdenifpaaGreatDoor
/- move, plain: areas that are copied, filled, cleared. -/
namespace Go.Proofs.YtdoeejhdenifpaaGreatDoor
open Go.RowKit Go.Sort
def clearP (f : ArT) (g : PG) : PG := g.filter fun x => !inA f x.1
def inP (f : ArT) (g : PG) : PG := g.filter fun x => inA f x.1
def cpStep (o : Option PG) (y : Ad) (c : ContT) : Option PG :=
 match o with
 | none => none
 | some P => if codeP P y c = 0 then some (putP P y c) else none
def cpAll (m : Ad → Ad) (cc rr : Int) (P : PG) (l : PG) : Option PG := l.foldl (fun o x => cpStep o (m x.1) (shC cc rr (copyC x.2))) (some P)
theorem cpAll_snoc (m : Ad → Ad) (cc rr : Int) (P l : PG) (x : Ad × ContT) : cpAll m cc rr P (l ++ [x]) = cpStep (cpAll m cc rr P l) (m x.1) (shC cc rr (copyC x.2)) := by simp [cpAll]
theorem cpAll_none (m : Ad → Ad) (cc rr : Int) (P l k : PG) (h : cpAll m cc rr P l = none) : cpAll m cc rr P (l ++ k) = none := by
 unfold cpAll at *
 rw [List.foldl_append, h]
 induction k with
 | nil => rfl
 | cons x k ih => exact ih
def flAll (fr : Ad) (c : ContT) (P : PG) (l : List Ad) : Option PG := l.foldl (fun o y => cpStep o y (shC (wrap64 (y.1 - fr.1)) (wrap64 (y.2 - fr.2)) (copyC c))) (some P)
theorem flAll_snoc (fr : Ad) (c : ContT) (P : PG) (l : List Ad) (y : Ad) : flAll fr c P (l ++ [y]) = cpStep (flAll fr c P l) y (shC (wrap64 (y.1 - fr.1)) (wrap64 (y.2 - fr.2)) (copyC c)) := by simp [flAll]
theorem flAll_none (fr : Ad) (c : ContT) (P : PG) (l k : List Ad) (h : flAll fr c P l = none) : flAll fr c P (l ++ k) = none := by
 unfold flAll at *
 rw [List.foldl_append, h]
 induction k with
 | nil => rfl
 | cons x k ih => exact ih
theorem cpStep_some {o : Option PG} {y : Ad} {c : ContT} {A : PG} (h : cpStep o y c = some A) : ∃ P, o = some P ∧ codeP P y c = 0 ∧ A = putP P y c := by
 cases o with
 | none => cases h
 | some P =>
  unfold cpStep at h
  simp only at h
  split at h
  · rename_i e; exact ⟨P, rfl, e, (Option.some.inj h).symm⟩
  · cases h
theorem cpStep_ok {P : PG} {y : Ad} {c : ContT} (h : codeP P y c = 0) : cpStep (some P) y c = some (putP P y c) := by unfold cpStep; simp only; rw [if_pos h]
theorem cpStep_no {P : PG} {y : Ad} {c : ContT} (h : codeP P y c ≠ 0) : cpStep (some P) y c = none := by unfold cpStep; simp only; rw [if_neg h]
theorem shC_valid (cc rr : Int) {c : ContT} (h : gvalidB c = true) : gvalidB (shC cc rr (copyC c)) = true := contH_valid (shH_head cc rr) h
theorem shC_kind (cc rr : Int) (c : ContT) : (shC cc rr c).kind = c.kind := contH_kind _ c
theorem shC_ok (cc rr : Int) {c : ContT} (h : c.ok) : (shC cc rr c).ok := contH_ok (shH_head cc rr) h
theorem shC_small (cc rr : Int) {c : ContT} (h : smallT c.t) : smallT (shC cc rr c).t := contH_small (shH_head cc rr) h
theorem shC_copy (cc rr : Int) (c : ContT) : copyC (shC cc rr (copyC c)) = shC cc rr (copyC c) := contH_copy (shH_head cc rr) c
theorem shC_zero {c : ContT} (h : okCt c) : shC 0 0 c = c := contH_same (shH_head 0 0) shH_zero h
theorem shC_1 (cc rr : Int) {c : ContT} (h : c.kind ≠ 2) : shC cc rr c = c := contH_1 h
theorem code_sh {P : PG} {y : Ad} {c : ContT} (cc rr : Int) (hv : validB y.1 y.2 = true) (h1 : gvalidB c = true) (h2 : (c.kind == 0) = false) : codeP P y (shC cc rr (copyC c)) = (if fullP P y = true then 41 else 0) ∧ (fullP P y = false → putP P y (shC cc rr (copyC c)) = setM y (shC cc rr (copyC c)) P) := by
 have hk : ((shC cc rr (copyC c)).kind == 0) = false := by rw [shC_kind]; exact h2
 unfold codeP putP
 rw [shC_valid cc rr h1, hv, hk]
 refine ⟨by simp, fun hf => ?_⟩
 rw [hf, shC_copy]; simp
theorem cpAll_get {m : Ad → Ad} {cc rr : Int} {P : PG} : ∀ {l A : PG}, (∀ x ∈ l, gvalidB x.2 = true ∧ (x.2.kind == 0) = false ∧ x.2.ok ∧ validB (m x.1).1 (m x.1).2 = true) → (l.map fun x => m x.1).Nodup → GOk P → cpAll m cc rr P l = some A →
    GOk A ∧ ∀ a, (∀ x ∈ l, m x.1 = a → lkM a A = some (shC cc rr (copyC x.2))) ∧ ((∀ x ∈ l, m x.1 ≠ a) → lkM a A = lkM a P) := by
 intro l
 refine snoc_ind (P := fun l => ∀ {A : PG}, (∀ x ∈ l, gvalidB x.2 = true ∧ (x.2.kind == 0) = false ∧ x.2.ok ∧ validB (m x.1).1 (m x.1).2 = true) → (l.map fun x => m x.1).Nodup → GOk P → cpAll m cc rr P l = some A →
  GOk A ∧ ∀ a, (∀ x ∈ l, m x.1 = a → lkM a A = some (shC cc rr (copyC x.2))) ∧ ((∀ x ∈ l, m x.1 ≠ a) → lkM a A = lkM a P)) ?_ ?_ l
 · intro A _ _ hP h
   have e : P = A := Option.some.inj h
   subst e
   exact ⟨hP, fun a => ⟨fun x hx => (by cases hx), fun _ => rfl⟩⟩
 · intro l x ih A hm hn hP h
   rw [cpAll_snoc] at h
   obtain ⟨Q, hQ, hc, rfl⟩ := cpStep_some h
   rw [List.map_append, List.nodup_append] at hn
   obtain ⟨q1, q2⟩ := ih (fun y hy => hm y (List.mem_append_left _ hy)) hn.1 hP hQ
   obtain ⟨v1, v2, v3, v4⟩ := hm x (by simp)
   obtain ⟨c1, c2⟩ := code_sh (P := Q) cc rr v4 v1 v2
   have hf : fullP Q (m x.1) = false := by
    cases hf : fullP Q (m x.1) with
    | false => rfl
    | true => rw [c1, hf] at hc; simp at hc
   refine ⟨q1.put _ (shC_ok cc rr (okC_copy v3)), fun a => ?_⟩
   rw [c2 hf, lkM_set]
   constructor
   · intro y hy e
     rcases List.mem_append.1 hy with hy | hy
     · have hne : ¬ m x.1 = a := fun e2 => hn.2.2 (m y.1) (List.mem_map.2 ⟨y, hy, rfl⟩) (m x.1) (by simp) (e.trans e2.symm)
       rw [if_neg hne]
       exact (q2 a).1 y hy e
     · rw [List.mem_singleton.1 hy] at e ⊢
       rw [if_pos e]
   · intro hno
     rw [if_neg (hno x (by simp))]
     exact (q2 a).2 fun y hy => hno y (List.mem_append_left _ hy)
theorem GOk.clear {g : PG} (h : GOk g) (f : ArT) : GOk (clearP f g) := ⟨h.sorted.filter _, Nat.le_trans (List.length_filter_le ..) h.many, fun x hx => h.each x (List.mem_filter.1 hx).1⟩
theorem lkM_filter {α : Type} (p : Ad → Bool) (a : Ad) : ∀ M : List (Ad × α), lkM a (M.filter fun x => p x.1) = if p a = true then lkM a M else none
 | [] => by simp [lkM]
 | x :: r => by
  have ih := lkM_filter p a r
  rw [List.filter_cons]
  by_cases hx : x.1 = a
  · subst hx
    by_cases hp : p x.1 = true
    · rw [if_pos hp, if_pos hp, lkM, if_pos rfl, lkM, if_pos rfl]
    · rw [if_neg hp, if_neg hp, ih, if_neg hp]
  · by_cases hp : p x.1 = true
    · rw [if_pos hp, lkM, if_neg hx, ih]
      split
      · rw [lkM, if_neg hx]
      · rfl
    · rw [if_neg hp, ih]
      split
      · rw [lkM, if_neg hx]
      · rfl
theorem lk_clear (f : ArT) (a : Ad) (g : PG) : lkM a (clearP f g) = if inA f a = true then none else lkM a g := by
 unfold clearP
 rw [lkM_filter (fun b => !inA f b) a g]
 cases inA f a <;> rfl
theorem clear_idem (f : ArT) (g : PG) : clearP f (clearP f g) = clearP f g := by
 unfold clearP
 rw [List.filter_filter]
 simp
section
variable {f gl : ArT} {cc rr : Int} {g : PG}
theorem Mv.copied (h : Mv f gl cc rr) (hg : GOk g) {A : PG} (hA : cpAll (movG cc rr) cc rr (clearP gl g) (inP f g) = some A) :
    GOk A ∧ ∀ a, lkM a A = if inA gl a = true then (lkM (a.1 + -cc, a.2 + -rr) g).map (shC cc rr) else lkM a g := by
 have hin : ∀ x ∈ inP f g, x ∈ g ∧ inA f x.1 = true := fun x hx => ⟨(List.mem_filter.1 hx).1, (List.mem_filter.1 hx).2⟩
 have hmv : ∀ x ∈ inP f g, movG cc rr x.1 = (x.1.1 + cc, x.1.2 + rr) ∧ inA gl (x.1.1 + cc, x.1.2 + rr) = true := fun x hx => h.mov_in (hin x hx).2
 obtain ⟨q1, q2⟩ := cpAll_get (m := movG cc rr) (P := clearP gl g) (l := inP f g) (A := A) (fun x hx => by
  obtain ⟨e1, e2⟩ := hmv x hx
  obtain ⟨v1, v2, v3, v4, v5⟩ := hg.each x (hin x hx).1
  rw [e1]
  exact ⟨v2, v3, v5, by have := (h.ing _).1 e2; simp only at this; have := h.u0; have := h.u1; have := h.v0; have := h.v1; exact validB_o2 (by omega)⟩) (by
  unfold List.Nodup
  rw [List.pairwise_map]
  have hs : (inP f g).Pairwise (fun x y => adLt x.1 y.1 = true) := hg.sorted.filter _
  refine hs.imp_of_mem fun {x y} hx hy hl e => ?_
  rw [(hmv x hx).1, (hmv y hy).1] at e
  have e1 := congrArg Prod.fst e
  have e2 := congrArg Prod.snd e
  simp only at e1 e2
  have : x.1 = y.1 := Prod.ext (by omega) (by omega)
  rw [this, adLt_irrefl] at hl; cases hl) (hg.clear gl) hA
 refine ⟨q1, fun a => ?_⟩
 by_cases i1 : inA gl a = true
 · rw [if_pos i1]
   have j1 := (h.ing a).1 i1
   have i2 : inA f (a.1 + -cc, a.2 + -rr) = true := (h.inf _).2 (by simp only; omega)
   cases hl : lkM (a.1 + -cc, a.2 + -rr) g with
   | some v =>
    have hm := lkM_mem hl
    have hx : ((a.1 + -cc, a.2 + -rr), v) ∈ inP f g := List.mem_filter.2 ⟨hm, i2⟩
    rw [(q2 a).1 _ hx (by rw [(hmv _ hx).1]; exact Prod.ext (by simp only; omega) (by simp only; omega))]
    rw [(hg.each _ hm).2.2.2.1]; rfl
   | none =>
    rw [(q2 a).2 (fun x hx e => by
     rw [(hmv x hx).1] at e
     have : x.1 = (a.1 + -cc, a.2 + -rr) := by rw [← e]; exact Prod.ext (by simp only; omega) (by simp only; omega)
     exact lkM_none.1 hl x (hin x hx).1 this), lk_clear, if_pos i1]; rfl
 · rw [if_neg i1, (q2 a).2 (fun x hx e => by
    rw [(hmv x hx).1] at e
    rw [← e] at i1
    exact i1 (hmv x hx).2), lk_clear, if_neg i1]
end
theorem movG_zero {a : Ad} (h : validB a.1 a.2 = true) : movG 0 0 a = a := by
 have := validB_le h
 unfold movG
 rw [w64 (by omega) (by omega), w64 (by omega) (by omega)]
 exact Prod.ext (by simp only; omega) (by simp only; omega)
theorem back_perm {P : PG} (hP : SortedM P) : ∀ {l : PG}, (∀ x ∈ l, validB x.1.1 x.1.2 = true ∧ gvalidB x.2 = true ∧ (x.2.kind == 0) = false ∧ copyC x.2 = x.2 ∧ x.2.ok) → ((P ++ l).map (·.1)).Nodup → (P ++ l).length ≤ 4096 →
    ∃ A, cpAll (movG 0 0) 0 0 P l = some A ∧ SortedM A ∧ A.Perm (P ++ l) := by
 intro l
 refine snoc_ind (P := fun l => (∀ x ∈ l, validB x.1.1 x.1.2 = true ∧ gvalidB x.2 = true ∧ (x.2.kind == 0) = false ∧ copyC x.2 = x.2 ∧ x.2.ok) → ((P ++ l).map (·.1)).Nodup → (P ++ l).length ≤ 4096 →
  ∃ A, cpAll (movG 0 0) 0 0 P l = some A ∧ SortedM A ∧ A.Perm (P ++ l)) ?_ ?_ l
 · intro _ _ _
   exact ⟨P, rfl, hP, by rw [List.append_nil]⟩
 · intro l x ih hm hn hl
   rw [← List.append_assoc] at hn hl ⊢
   rw [List.map_append, List.nodup_append] at hn
   obtain ⟨A, hA, hs, hp⟩ := ih (fun y hy => hm y (List.mem_append_left _ hy)) hn.1 (by simp at hl ⊢; omega)
   obtain ⟨v1, v2, v3, v4, v5⟩ := hm x (by simp)
   have hno : lkM x.1 A = none := lkM_none.2 fun y hy e => hn.2.2 y.1 (List.mem_map.2 ⟨y, hp.mem_iff.1 hy, rfl⟩) x.1 (by simp) e
   have hlen : A.length < 4096 := by have := hp.length_eq; simp at hl this; omega
   have hz : shC 0 0 (copyC x.2) = x.2 := by rw [v4]; exact shC_zero ⟨v2, v3, v4⟩
   obtain ⟨h1, h2⟩ := put_new hno hlen ⟨v1, v2, v3, v4, v5⟩
   refine ⟨setM x.1 x.2 A, ?_, sorted_setM _ _ hs, (setM_perm hno).trans ((hp.cons x).trans (List.perm_append_singleton x (P ++ l)).symm)⟩
   rw [cpAll_snoc, hA, movG_zero v1, hz, cpStep_ok h1, h2]
theorem copy_self {f : ArT} {g : PG} (hg : GOk g) : cpAll (movG 0 0) 0 0 (clearP f g) (inP f g) = some g := by
 have hp : (clearP f g ++ inP f g).Perm g := by
  have := List.filter_append_perm (fun x : Ad × ContT => inA f x.1) g
  exact List.perm_append_comm.trans this
 obtain ⟨A, hA, hs, hq⟩ := back_perm (P := clearP f g) (hg.clear f).sorted (l := inP f g) (fun x hx => hg.each x (List.mem_filter.1 hx).1) ((hp.map _).nodup_iff.2 (nodup_keys hg.sorted)) (by have := hp.length_eq; have := hg.many; omega)
 rw [hA]
 exact congrArg some (sortedM_perm hs hg.sorted (hq.trans hp))
theorem in_one {a b : Int} (hv : validB a b = true) (x : Ad) : inA ⟨a, b, a, b⟩ x = true ↔ x = (a, b) := by
 constructor
 · intro h
   have := (inA_le h).2
   exact Prod.ext (by simp only at this ⊢; omega) (by simp only at this ⊢; omega)
 · rintro rfl
   have := validB_le hv
   exact inA_of (vA_o2 (by simp only; omega)) (by simp only; omega)
theorem inP_one {a b : Int} (hv : validB a b = true) : ∀ {g : PG}, SortedM g → inP ⟨a, b, a, b⟩ g = match lkM (a, b) g with | some c => [((a, b), c)] | none => []
 | [], _ => rfl
 | x :: r, hs => by
  have hs' := List.pairwise_cons.1 hs
  unfold inP
  rw [List.filter_cons, lkM]
  by_cases e : x.1 = (a, b)
  · rw [if_pos ((in_one hv x.1).2 e), if_pos e]
    have hr : r.filter (fun y => inA ⟨a, b, a, b⟩ y.1) = [] := by
     rw [List.filter_eq_nil_iff]
     intro y hy h
     have h1 := hs'.1 y hy
     rw [e, (in_one hv y.1).1 h, adLt_irrefl] at h1; cases h1
    rw [hr]
    simp only [← e]
  · rw [if_neg (fun h => e ((in_one hv x.1).1 h)), if_neg e]
    exact inP_one hv hs'.2
theorem cells_one (a b : Int) : cellsL ⟨a, b, a, b⟩ = [(a, b)] := rest_end ⟨a, b, a, b⟩
def fillP (fr : Ad) (t : ArT) (g : PG) : Option PG := if ((lkM fr g).getD zeroC).kind = 0 then some (clearP t g) else flAll fr ((lkM fr g).getD zeroC) (clearP t g) (cellsL t)
theorem fill_one {fr tg : Ad} {g : PG} (hg : GOk g) (hf : validB fr.1 fr.2 = true) (ht : validB tg.1 tg.2 = true) :
    cpAll (movG (wrap64 (tg.1 - fr.1)) (wrap64 (tg.2 - fr.2))) (wrap64 (tg.1 - fr.1)) (wrap64 (tg.2 - fr.2)) (clearP ⟨tg.1, tg.2, tg.1, tg.2⟩ g) (inP ⟨fr.1, fr.2, fr.1, fr.2⟩ g) = fillP fr ⟨tg.1, tg.2, tg.1, tg.2⟩ g := by
 have b1 := validB_le hf
 have b2 := validB_le ht
 unfold fillP
 rw [inP_one hf hg.sorted, cells_one]
 cases hl : lkM (fr.1, fr.2) g with
 | none => rfl
 | some c =>
  have hk := (hg.each _ (lkM_mem hl)).2.2.1
  have hk' : ¬ c.kind = 0 := by simpa using hk
  show cpAll _ _ _ _ [((fr.1, fr.2), c)] = _
  rw [if_neg (show ¬ ((some c : Option ContT).getD zeroC).kind = 0 from hk')]
  have e : movG (wrap64 (tg.1 - fr.1)) (wrap64 (tg.2 - fr.2)) (fr.1, fr.2) = tg := by
   rw [w64 (by omega) (by omega), w64 (by omega) (by omega)]
   unfold movG
   rw [w64 (by simp only; omega) (by simp only; omega), w64 (by simp only; omega) (by simp only; omega)]
   exact Prod.ext (by simp only; omega) (by simp only; omega)
  unfold cpAll flAll
  simp only [List.foldl_cons, List.foldl_nil, e]
  rfl
end Go.Proofs.YtdoeejhdenifpaaGreatDoor
/- move.laid (made by mkt3.py). -/
namespace Go.Proofs.YtdoeejhdenifpaaGreatDoor
open Go.RowKit Go.Sort
theorem check_of {c : ContT} (h : gvalidB c = true) (hk : c.kind = 2) : checkT c.t = 0 := by
 unfold gvalidB at h
 simp only [hk, Int.reduceBEq, Bool.false_eq_true, if_false, if_true, Bool.and_eq_true] at h
 simpa using h.2
def byG (fr tg : Ad) : Int × Int := (wrap64 (tg.1 - fr.1), wrap64 (tg.2 - fr.2))
set_option maxRecDepth 100000 in
set_option maxHeartbeats 4000000 in
theorem laid_any (n : Nat) (gb mb : Nat) (M : GM) (c : ContT) (a : Option Addr) (cap : Nat) (fr tg : Ad) (w : World) (hG : GridIs w gb mb M) (hT : Tabs w) (hok : c.ok) (hsm : smallT c.t) (hin : ArgsIn w n (.slice a c.t.args.length cap) c.t.args) (hv : gvalidB c = true) :
    Calls Tryz.prog 70 #[.pointer (some ⟨gb, 0, none⟩), contV c a c.t.args.length cap, .agg #[.int .i64 fr.1, .int .i64 fr.2], .agg #[.int .i64 tg.1, .int .i64 tg.2]] w (PutR w gb mb M tg (shC (byG fr tg).1 (byG fr tg).2 c)) := by
 obtain ⟨B, hB⟩ : ∃ B, w.heap.size = B := ⟨_, rfl⟩
 have HBw := Lib.hid hB
 obtain ⟨w0, hw0⟩ : ∃ w0, w.alloc (.cells #[.int .i64 c.kind, .int .i64 c.v.kind, .float .f64 c.v.x, .string c.v.s, .bool c.v.b, .int .i64 c.v.f, .int .i64 c.t.kind, .int .i64 c.t.op, .float .f64 c.t.x, .string c.t.s, .bool c.t.b, .int .i64 c.t.f, .int .i64 c.t.ref.a.1, .int .i64 c.t.ref.a.2, .bool c.t.ref.cf, .bool c.t.ref.rf, .int .i64 c.t.to.a.1, .int .i64 c.t.to.a.2, .bool c.t.to.cf, .bool c.t.to.rf, .slice a c.t.args.length cap] 51) = w0 := ⟨_, rfl⟩
 have hs0 : w0.heap.size = B + 1 := by rw [← hw0, ← hB]; simp
 obtain ⟨w1, hw1⟩ : ∃ w1, w0.alloc (.cells #[.int .i64 fr.1, .int .i64 fr.2] 24) = w1 := ⟨_, rfl⟩
 have hs1 : w1.heap.size = B + 1 + 1 := by rw [← hw1]; simp [hs0]
 obtain ⟨wS, hwS⟩ : ∃ wS, w1.alloc (.cells #[.int .i64 tg.1, .int .i64 tg.2] 24) = wS := ⟨_, rfl⟩
 have hx0 : Xt w0 wS := by rw [← hwS, ← hw1]; exact ((Xt.refl _).alloc _).alloc _
 have hx1 : Xt w1 wS := by rw [← hwS]; exact (Xt.refl _).alloc _
 have hx : Xt w wS := Xt.trans (by rw [← hw0]; exact (Xt.refl _).alloc _) hx0
 have r0 : wS.heap[B]? = some (.cells #[.int .i64 c.kind, .int .i64 c.v.kind, .float .f64 c.v.x, .string c.v.s, .bool c.v.b, .int .i64 c.v.f, .int .i64 c.t.kind, .int .i64 c.t.op, .float .f64 c.t.x, .string c.t.s, .bool c.t.b, .int .i64 c.t.f, .int .i64 c.t.ref.a.1, .int .i64 c.t.ref.a.2, .bool c.t.ref.cf, .bool c.t.ref.rf, .int .i64 c.t.to.a.1, .int .i64 c.t.to.a.2, .bool c.t.to.cf, .bool c.t.to.rf, .slice a c.t.args.length cap] 51 (0, 0)) := rowX hx0 (by rw [← hw0, ← hB]; exact (MapKept.heap_alloc w _).1)
 have r1 : wS.heap[B + 1]? = some (.cells #[.int .i64 fr.1, .int .i64 fr.2] 24 (0, 0)) := rowX hx1 (by rw [← hw1, ← hs0]; exact (MapKept.heap_alloc w0 _).1)
 have r2 : wS.heap[B + 1 + 1]? = some (.cells #[.int .i64 tg.1, .int .i64 tg.2] 24 (0, 0)) := by rw [← hwS, ← hs1]; exact (MapKept.heap_alloc w1 _).1
 have HR0 := Lib.hid r0
 have HR1 := Lib.hid r1
 have HR2 := Lib.hid r2
 have HX := Lib.hid hx
 have HG : Hid (GridIs w gb mb M) := hG
 have HT := Lib.hid hT
 have HOK := Lib.hid hok
 have HSM := Lib.hid hsm
 have HIN := Lib.hid hin
 have HV := Lib.hid hv
 have c0 : wS.cell? ⟨B, 0, none⟩ = some (.int .i64 c.kind) := by simp [World.cell?, r0]
 obtain ⟨f0, f1, _, _⟩ := cells2 r1
 obtain ⟨t0, t1, _, _⟩ := cells2 r2
 have hRng : wS.rangeAt B 6 (nodeC c.t (.slice a c.t.args.length cap)) := fun j v hv => by
  have := World.rangeAt_of_block r0 6 15 j v (by simpa [nodeC] using hv)
  exact this
 have HRng := Lib.hid hRng
 clear r0 r1 r2 hx hx0 hx1 hG hT hok hsm hin hv hRng
 go_enter Tryz.func70, Tryz.ntmps70
 by_cases hk : c.kind = 2
 · have hkb : (c.kind == 2) = true := by simpa using hk
   obtain ⟨dx, hdx⟩ : ∃ dx, wrap64 (tg.1 - fr.1) = dx := ⟨_, rfl⟩
   obtain ⟨dy, hdy⟩ : ∃ dy, wrap64 (tg.2 - fr.2) = dy := ⟨_, rfl⟩
   have HBY := Lib.hid (by_any fr tg wS)
   rw [hdx, hdy] at HBY
   have HC := Lib.hid (fun V (hV : Xt wS V) => wShift_any dx dy n c.t a cap V HOK.out.2.1 (HT.out.xt (HX.out.trans hV)) HSM.out (HIN.out.xt (HX.out.trans hV)) (check_of HV.out hk))
   obtain ⟨tt, htt⟩ : ∃ tt, upT (shH dx dy) (copyT c.t) = tt := ⟨_, rfl⟩
   rw [htt] at HC
   have HGC : Hid (shC (byG fr tg).1 (byG fr tg).2 c = ⟨c.kind, c.v, tt⟩) := by
    unfold Hid byG shC contH
    rw [if_pos hk]
    simp only [hdx, hdy, htt]
   have HOK2 : Hid ((⟨c.kind, c.v, tt⟩ : ContT).ok) := by unfold Hid; rw [← HGC.out]; exact shC_ok _ _ HOK.out
   have HSM2 : Hid (smallT tt) := by
    unfold Hid
    have := shC_small (byG fr tg).1 (byG fr tg).2 HSM.out
    rw [HGC.out] at this
    exact this
   clear hk htt hdx hdy
   have hm1 : True := trivial
   go_wp2_with (first
    | (go_at_call 42; refine (HBY.out).mono ?_; rintro e w3 ⟨rfl, hg3⟩; have HX3 : Hid (Xt wS w3) := hg3.xt; clear hg3)
    | (refine wpList_load_mid (P := Tryz.prog) rfl 49 _ rfl B 6 rfl (nodeC c.t (.slice a c.t.args.length cap)) _ (fun j v hv => ((HX3.out.cells).1 _ _ (World.block_lt_of_cell? wS _ (HRng.out j v hv))).trans (HRng.out j v hv)) Tryz.underlying49 rfl (by kernel_rfl) ?_)
    | (go_at_call 112; refine (HC.out w3 HX3.out).mono ?_; rintro e w5 ⟨a2, c2, rfl, hS5, hx5⟩; have HX5 : Hid (Xt wS w5) := HX3.out.trans hx5; have HS5 := Lib.hid hS5; have hsz35 : B + 1 + 1 < w3.heap.size := (by have h1 := HX3.out.size; have h2 := (Array.getElem?_eq_some_iff.1 HR2.out).1; omega); have hb5 := rowX HX5.out HR0.out; have HTH := Lib.hid (there_row hb5 6 15 (by simp)); obtain ⟨w6, hw6⟩ : ∃ w6, w5.setCells B 6 (#[.int .i64 tt.kind, .int .i64 tt.op, .float .f64 tt.x, .string tt.s, .bool tt.b, .int .i64 tt.f, .int .i64 tt.ref.a.1, .int .i64 tt.ref.a.2, .bool tt.ref.cf, .bool tt.ref.rf, .int .i64 tt.to.a.1, .int .i64 tt.to.a.2, .bool tt.to.cf, .bool tt.to.rf, .slice a2 tt.args.length c2]).toList = w6 := ⟨_, rfl⟩; have HB6 : Hid (w6.heap[B]? = some (.cells #[.int .i64 c.kind, .int .i64 c.v.kind, .float .f64 c.v.x, .string c.v.s, .bool c.v.b, .int .i64 c.v.f, .int .i64 tt.kind, .int .i64 tt.op, .float .f64 tt.x, .string tt.s, .bool tt.b, .int .i64 tt.f, .int .i64 tt.ref.a.1, .int .i64 tt.ref.a.2, .bool tt.ref.cf, .bool tt.ref.rf, .int .i64 tt.to.a.1, .int .i64 tt.to.a.2, .bool tt.to.cf, .bool tt.to.rf, .slice a2 tt.args.length c2] 51 (0, 0))) := (by unfold Hid; rw [← hw6]; exact fill15at6 hb5); have HG6 : Hid (w5.grownBy w6 (some B)) := (by unfold Hid; rw [← hw6]; exact setCells_grown B _ 6 w5); have h2r := rowX HX5.out HR2.out; obtain ⟨t0, t1, _, _⟩ := cells2 (b := B + 1 + 1) (w := w6) (by rw [HG6.out.block (B + 1 + 1) (Array.getElem?_eq_some_iff.1 h2r).1 (fun e => by have := Option.some.inj e; omega)]; exact h2r); clear hx5 hS5 hb5 h2r)
    | (refine wpList_store_mid (P := Tryz.prog) rfl 49 _ _ rfl B 6 #[.int .i64 tt.kind, .int .i64 tt.op, .float .f64 tt.x, .string tt.s, .bool tt.b, .int .i64 tt.f, .int .i64 tt.ref.a.1, .int .i64 tt.ref.a.2, .bool tt.ref.cf, .bool tt.ref.rf, .int .i64 tt.to.a.1, .int .i64 tt.to.a.2, .bool tt.to.cf, .bool tt.to.rf, .slice a2 tt.args.length c2] rfl rfl HTH.out (by kernel_rfl) (all_oneCell_toArray (nodeC_one tt (.slice a2 tt.args.length c2) rfl)) ?_; rw [hw6])
    | (refine wpList_load_row (P := Tryz.prog) rfl 51 _ rfl B rfl 51 #[.int .i64 c.kind, .int .i64 c.v.kind, .float .f64 c.v.x, .string c.v.s, .bool c.v.b, .int .i64 c.v.f, .int .i64 tt.kind, .int .i64 tt.op, .float .f64 tt.x, .string tt.s, .bool tt.b, .int .i64 tt.f, .int .i64 tt.ref.a.1, .int .i64 tt.ref.a.2, .bool tt.ref.cf, .bool tt.ref.rf, .int .i64 tt.to.a.1, .int .i64 tt.to.a.2, .bool tt.to.cf, .bool tt.to.rf, .slice a2 tt.args.length c2] (0, 0) _ HB6.out Tryz.underlying51 rfl (by kernel_rfl) ?_)
    | (go_at_call 25; have hx6 : Xt w w6 := (HX.out.trans HX5.out).grownB HG6.out (fun q hq => by cases hq; have := HBw.out; omega); have HX6 := Lib.hid hx6; have hA6 : ArgsIn w6 n (.slice a2 tt.args.length c2) tt.args := (HS5.out.keep (fun b hb hlt => HG6.out.block b hlt (fun e => by have := Option.some.inj e; have := hb.1; omega))).own.args; have HP := Lib.hid (gput_any n gb mb M tg ⟨c.kind, c.v, tt⟩ a2 c2 w6 (HG.out.xt hx6) HOK2.out (HT.out.xt hx6) HSM2.out hA6); refine (HP.out).mono ?_; rintro e w7 ⟨zz, rfl, hG7, hg7⟩; have HG7 := Lib.hid hG7; have Hg7 := Lib.hid hg7; clear hx6 hA6 hG7 hg7))
   go_ret
   rw [HGC.out]
   exact ⟨zz, rfl, HG7.out, grownBy_two (HX6.out.grown (some mb)) Hg7.out⟩
 · have hkb : (c.kind == 2) = false := by simpa using hk
   have HGC : Hid (shC (byG fr tg).1 (byG fr tg).2 c = c) := shC_1 _ _ hk
   clear hk
   have HP := Lib.hid (gput_any n gb mb M tg c a cap wS (HG.out.xt HX.out) HOK.out (HT.out.xt HX.out) HSM.out (HIN.out.xt HX.out))
   go_wp2_with (first
    | (refine wpList_load_row (P := Tryz.prog) rfl 51 _ rfl B rfl 51 _ (0, 0) _ HR0.out Tryz.underlying51 rfl (by kernel_rfl) ?_)
    | (go_at_call 25; refine (HP.out).mono ?_; rintro e w7 ⟨zz, rfl, hG7, hg7⟩; have HG7 := Lib.hid hG7; have Hg7 := Lib.hid hg7; clear hG7 hg7))
   go_ret
   rw [HGC.out]
   exact ⟨zz, rfl, HG7.out, grownBy_two (HX.out.grown (some mb)) Hg7.out⟩
end Go.Proofs.YtdoeejhdenifpaaGreatDoor
/- In, as a range. -/
namespace Go.Proofs.YtdoeejhdenifpaaGreatDoor
open Go.RowKit Go.Sort Go.Maps Go.Shelf
theorem gin_in (n : Nat) (hn : 2 ≤ n) (p : Option Addr) (x : Ar) (w : World) :
    CallsIn Fence.wide n Tryz.prog 69 #[.pointer p, .agg #[.int .i64 x.1.1, .int .i64 x.1.2, .int .i64 x.2.1, .int .i64 x.2.2]] w fun e w' => e = .returned (.func (.func 116) #[] #[.pointer (some ⟨w.heap.size + 1, 0, none⟩), .pointer (some ⟨w.heap.size + 2, 0, none⟩)]) ∧
     w' = ((w.alloc (.cells #[.int .i64 x.1.1, .int .i64 x.1.2, .int .i64 x.2.1, .int .i64 x.2.2] 26)).alloc (.cells #[.pointer p] 29)).alloc (.cells #[.func (.func 111) #[] #[.pointer (some ⟨w.heap.size, 0, none⟩)]] 99) := by
 have h1 : 1 ≤ n := by omega
 have hf : Fence.wide.fn 74 := trivial
 refine callsIn_of_wp Tryz.func69 rfl trivial ?_ rfl
 simp only [Tryz.ntmps69, List.size_toArray, List.length_cons, List.length_nil, Nat.reduceAdd, Nat.reduceSub, Array.replicate_succ, Array.replicate_zero, List.push_toArray, List.append_toArray, List.nil_append, List.cons_append]
 gi_wp2_with (gi_at_call 74; refine (some_in (n - 1) p _ ⟨_, _, rfl⟩ _).mono ?_; rintro e w' ⟨rfl, rfl⟩)
 go_ret
 exact ⟨by simp, by simp⟩
end Go.Proofs.YtdoeejhdenifpaaGreatDoor
