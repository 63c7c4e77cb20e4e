import Derived.Test.YtdoeejhdenifpaaGreatDoorZ1
import Derived.RangeFuncNested
import Derived.Test.YtdoeejhdenifpaaGreatDoorW30
import Derived.Deep.RegionHeld
import Derived.RangeFuncCalls
import Derived.Test.YtdoeejhdenifpaaGreatDoorM5
import Derived.Test.YtdoeejhdenifpaaGreatDoorA9
import Derived.Test.YtdoeejhdenifpaaGreatDoorA7
import Derived.Test.YtdoeejhdenifpaaGreatDoorA10
import Derived.RangeFuncWrites
import Derived.StillTailTactics
import Derived.Deep.CutBlock
import Derived.Sort.CutIn
/- A loop over an iterator that tells its rounds something of what it hands them. -/
namespace Go.Proofs.YtdoeejhdenifpaaGreatDoor
open Go.RowKit
section
variable {α : Type} {n : Nat} {P : Program}
def SeqTold (n : Nat) (P : Program) (g : Nat) (lb : Array Value) (encs : α → Array Value) (Kp : World → World → Prop) (T : World → α → World → Prop) (S Sp : List α → Prop) (N : Nat) (w0 : World) : Prop :=
 ∀ (l : Nat) (J Jx : List α → World → Prop) (W : World), Below w0.heap.size w0 W → AbidesFrom W.heap.size J → AbidesFrom W.heap.size Jx →
  (∀ pre x W1, J pre W1 → (∃ V, J pre V ∧ T V x W1) → pre.length < N → YieldAt Fence.wide (n - 1) P l (encs x) W1 fun e W' => (e = .returned (.bool true) ∧ J (pre ++ [x]) W' ∧ Kp W1 W') ∨ (e = .returned (.bool false) ∧ Jx (pre ++ [x]) W')) →
  J [] W →
  CallsIn Fence.wide n P g (#[.func (.yield l) #[] #[]] ++ lb) W fun e W' => (∃ v, e = .returned v) ∧ ((∃ xs, S xs ∧ J xs W') ∨ (∃ pre, Sp pre ∧ Jx pre W'))
structure Books (D : Nat) (L : Loop) (W : World) : Prop where
 loop : W.heap[D + 1]? = some (.loop L)
 late : W.heap[D]? = some (.deferred (some []))
theorem Books.lt {D : Nat} {L : Loop} {W : World} (h : Books D L W) : D + 1 < W.heap.size := (Array.getElem?_eq_some_iff.1 h.loop).1
theorem Books.keep {D : Nat} {L : Loop} {W W' : World} (h : Books D L W) (k : KeepsFrom D W W') : Books D L W' := ⟨k.same _ _ (by omega) h.loop rfl, k.same _ _ (Nat.le_refl _) h.late rfl⟩
theorem Books.turn {D : Nat} {L L' : Loop} {W : World} (h : Books D L W) : Books D L' (W.putObj (D + 1) (.loop L')) := ⟨World.putObj_heap_same h.lt, (World.putObj_heap_other (by omega)).trans h.late⟩
theorem Books.abide {D : Nat} {L : Loop} {W W' : World} {row : Option Nat} (h : Books D L W) (hg : W.grownBy W' row) (hr : ∀ r, row = some r → ∃ o : Obj, W.heap[r]? = some o ∧ o.isWalk = true) : Books D L W' := by
 have key : ∀ (k : Nat) (o : Obj), W.heap[k]? = some o → o.isWalk = false → W'.heap[k]? = some o := fun k o hk ho => by
  refine (hg.block k (Array.getElem?_eq_some_iff.1 hk).1 (fun e => ?_)).trans hk
  obtain ⟨o', ho', hw⟩ := hr k e.symm
  rw [hk] at ho'; cases ho'; rw [ho] at hw; cases hw
 exact ⟨key _ _ h.loop rfl, key _ _ h.late rfl⟩
theorem rangeFunc_told {g : Operand} {ps : Array Tmp} {assign body : Code} {Q : Exit → Act → World → Prop} {a : Act} {w : World} (h1 : 1 ≤ n) {gf : Nat} {lb : Array Value} (hg : a.eval g = .func (.func gf) #[] lb) (eg : ∀ args w, (callFunc gf args).run P w = .ok (.enter gf args) w)
    {encs : α → Array Value} {Kp : World → World → Prop} {T : World → α → World → Prop} {S Sp : List α → Prop} {N : Nat} {w0 : World} (hseq : SeqTold (n - 1) P gf lb encs Kp T S Sp N w0)
    (hKt : ∀ {A B C : World}, Kp A B → Kp B C → Kp A C) (hKb : ∀ (W : World) (l : Nat) (o o' : Obj), w.heap.size ≤ l → W.heap[l]? = some o → o.isCells = false → o.isWalk = false → Kp W (W.putObj l o')) (hb0 : Below w0.heap.size w0 w) (hps : ∀ x, (encs x).size = ps.size)
    (I : List α → World → Prop) (Ix : Code → List α → World → Prop) (hI : OwnFrom w.heap.size I) (hIx : ∀ c, OwnFrom w.heap.size (Ix c)) (h0 : I [] w) (Ax : α → Act → World → Prop) (hAx : ∀ x a', OwnFrom w.heap.size (fun (_ : Unit) W => Ax x a' W))
    (hassign : ∀ (l : Nat) (pre : List α) (x : α) (W : World) (K : Act → World → Prop), I pre W → (∃ V, I pre V ∧ T V x W) → (∀ a' W', KeepsFrom w.heap.size W W' → Kp W W' → I pre W' → Ax x a' W' → K a' W') →
     assign.wpIn (Fence.wide.inRound l) (n - 1 - 1) P (Exit.then K (fun _ _ _ => False)) { tmps := (ps.zip (encs x)).foldl (fun t (p, v) => t.setIfInBounds p v) a.tmps, defers := [] } W)
    (hbody : ∀ (l : Nat) (pre : List α) (x : α) (a' : Act) (W : World), w.heap.size ≤ l → (∃ r, W.heap[l]? = some (.loop r)) → I pre W → Ax x a' W → pre.length < N → body.wpIn (Fence.wide.inRound l) (n - 1 - 1) P (ownPostG w.heap.size Kp I Ix (pre ++ [x]) W) a' W)
    (hdone : ∀ (D : Nat) (xs : List α) (W : World), w.heap.size ≤ D → S xs → I xs W → W.heap[D]? = some (.deferred (some [])) → Q .normal { a with defers := { target := .collected D, args := #[] } :: a.defers } W)
    (hstop : ∀ (D : Nat) (c : Code) (pre : List α) (W : World), w.heap.size ≤ D → Sp pre → Ix c pre W → W.heap[D]? = some (.deferred (some [])) → c.wpIn Fence.wide n P Q { a with defers := { target := .collected D, args := #[] } :: a.defers } W) :
    (Code.rangeFunc g ps assign body).wpIn Fence.wide n P Q a w := by
 refine wpIn_rangeFunc fun fn hfn => ?_
 let L : LoopState → Option Code → Loop := fun st pe => { state := st, pending := pe, fn, tmps := a.tmps, params := ps, assign, body, defers := w.heap.size }
 obtain ⟨V, hV⟩ : ∃ V, (w.alloc (.deferred (some []))).alloc (.loop (L .ready none)) = V := ⟨_, rfl⟩
 have hVB : Books w.heap.size (L .ready none) V := by
  rw [← hV]
  refine ⟨?_, (Below.heap_alloc _ _ _ (by simp)).trans (World.alloc_heap_new w _)⟩
  have := World.alloc_heap_new (w.alloc (.deferred (some []))) (.loop (L .ready none))
  rwa [World.size_alloc] at this
 have hVs : V.heap.size = w.heap.size + 2 := by rw [← hV]; simp
 have hVI : I [] V := by rw [← hV]; exact hI.alloc _ (hI.alloc _ h0)
 have hVb : Below w0.heap.size w0 V := by rw [← hV]; exact hb0.trans ((((Below.refl _ w).alloc (Nat.le_refl _) _).alloc (by simp) _).mono hb0.size)
 refine ⟨w.heap.size + 1, [{ target := .collected w.heap.size, args := #[] }], V, { target := .fn (.func gf) lb, args := #[.func (.yield (w.heap.size + 1)) #[] #[]] }, V, gf, #[.func (.yield (w.heap.size + 1)) #[] #[]] ++ lb, V, ?_, ?_, fun _ _ => trivial, by simp [invoke, go_sem, eg], fun _ => h1, ?_⟩
 · rw [← hV]; exact run_enterLoop_outer _ _ _ _ _
 · simp only [resolve, hg]; simp [go_sem]
 have far : ∀ {A : World} {row : Option Nat}, (∀ r, row = some r → V.heap.size ≤ r ∧ ∃ o : Obj, A.heap[r]? = some o ∧ o.isWalk = true) → ∀ r, row = some r → w.heap.size ≤ r ∧ ∃ o : Obj, A.heap[r]? = some o ∧ o.isCells = false := fun hr r e => by
  obtain ⟨hB, o, ho, hw⟩ := hr r e
  exact ⟨by omega, o, ho, Obj.not_cells_of_walk hw⟩
 refine (hseq (w.heap.size + 1) (fun pre W => I pre W ∧ Books w.heap.size (L .ready none) W) (fun pre W => ∃ c, Ix c pre W ∧ Books w.heap.size (L .done (some c)) W) V hVb
  (fun s A B row hs hg' hr => ⟨hI s A B row hs.1 hg' (far hr), hs.2.abide hg' fun r e => (hr r e).2⟩)
  (fun s A B row hs hg' hr => let ⟨c, hc, hb⟩ := hs; ⟨c, hIx c s A B row hc hg' (far hr), hb.abide hg' fun r e => (hr r e).2⟩) ?_ ⟨hVI, hVB⟩).mono ?_
 · rintro pre x W ⟨hi, hb⟩ ⟨V0, hV0, ht⟩ hlen
   have hy := run_yield (P := P) (args := encs x) hb.loop (hps x)
   refine ⟨fn, _, assign, body, hy, roundIn_of_wpIn hfn (hassign _ pre x W _ hi ⟨V0, hV0.1, ht⟩ ?_)⟩
   intro a' Wa hka hpa hia haa
   have hba := hb.keep hka
   refine ⟨_, run_beginRound hba.loop rfl, ?_⟩
   have hbb : Books w.heap.size { L .ready none with state := .busy } (Wa.putObj (w.heap.size + 1) (.loop { L .ready none with state := .busy })) := hba.turn
   have hpb : Kp Wa (Wa.putObj (w.heap.size + 1) (.loop { L .ready none with state := .busy })) := hKb _ _ _ _ (by omega) hba.loop rfl rfl
   refine wpIn_mono (hbody _ pre x a' _ (by omega) ⟨_, hbb.loop⟩ (hI.putObj _ hia (by omega) hba.loop rfl) ((hAx x a').putObj (s := ()) _ haa (by omega) hba.loop rfl) hlen) ?_
   have out : ∀ (jump : Option Code) (Wz : World), KeepsFrom w.heap.size (Wa.putObj (w.heap.size + 1) (.loop { L .ready none with state := .busy })) Wz →
       (Instr.endRound (w.heap.size + 1) jump).run P Wz = .ok (.bool jump.isNone) (Wz.putObj (w.heap.size + 1) (.loop (L (if jump.isNone then .ready else .done) jump))) ∧ Wz.heap[w.heap.size + 1]? = some (.loop { L .ready none with state := .busy }) ∧ Books w.heap.size (L (if jump.isNone then .ready else .done) jump) (Wz.putObj (w.heap.size + 1) (.loop (L (if jump.isNone then .ready else .done) jump))) := fun jump Wz hkz =>
    have hbz := hbb.keep hkz
    ⟨run_endRound (P := P) jump hbz.loop, hbz.loop, hbz.turn⟩
   have gone : ∀ (c : Code) (Wz : World), KeepsFrom w.heap.size (Wa.putObj (w.heap.size + 1) (.loop { L .ready none with state := .busy })) Wz → Ix c (pre ++ [x]) Wz →
       (Instr.endRound (w.heap.size + 1) (some c)).run P Wz = .ok (.bool false) (Wz.putObj (w.heap.size + 1) (.loop (L .done (some c)))) ∧ ∃ c', Ix c' (pre ++ [x]) (Wz.putObj (w.heap.size + 1) (.loop (L .done (some c)))) ∧ Books w.heap.size (L .done (some c')) (Wz.putObj (w.heap.size + 1) (.loop (L .done (some c)))) := fun c Wz hkz hiz => by
    obtain ⟨q1, q2, q3⟩ := out (some c) Wz hkz
    exact ⟨q1, c, (hIx c).putObj _ hiz (by omega) q2 rfl, q3⟩
   rintro e az Wz hz
   cases e with
   | normal =>
    obtain ⟨hkz, hpz, hiz⟩ := hz
    obtain ⟨q1, q2, q3⟩ := out none Wz hkz
    exact ⟨_, _, q1, .inl ⟨rfl, ⟨hI.putObj _ hiz (by omega) q2 rfl, q3⟩, hKt hpa (hKt (hKt hpb hpz) (hKb _ _ _ _ (by omega) q2 rfl rfl))⟩⟩
   | ret => obtain ⟨q1, q2⟩ := gone .ret Wz hz.1 hz.2; exact ⟨_, _, q1, .inr ⟨rfl, q2⟩⟩
   | exit id => obtain ⟨q1, q2⟩ := gone (.exit id) Wz hz.1 hz.2; exact ⟨_, _, q1, .inr ⟨rfl, q2⟩⟩
   | goto t => obtain ⟨q1, q2⟩ := gone (.goto t) Wz hz.1 hz.2; exact ⟨_, _, q1, .inr ⟨rfl, q2⟩⟩
   | panic ch => exact hz.elim
   | outgrown => exact hz.elim
 · rintro e Wz ⟨⟨v, rfl⟩, (⟨xs, hS, hi, hb⟩ | ⟨pre, hSp, c, hi, hb⟩)⟩
   · exact ⟨none, _, run_endLoop (P := P) hb.loop (by simp [L]), hdone _ xs _ (Nat.le_refl _) hS (hI.putObj _ hi (by omega) hb.loop rfl) ((World.putObj_heap_other (by omega)).trans hb.late)⟩
   · exact ⟨some c, _, run_endLoop (P := P) hb.loop (by simp [L]), hstop _ c pre _ (Nat.le_refl _) hSp ((hIx c).putObj _ hi (by omega) hb.loop rfl) ((World.putObj_heap_other (by omega)).trans hb.late)⟩
end
def noPanic (Q : Exit → Act → World → Prop) : Exit → Act → World → Prop
 | .panic _, _, _ => False
 | e, a, w => Q e a w
theorem noPanic_le {Q : Exit → Act → World → Prop} : ∀ e a w, noPanic Q e a w → Q e a w := fun e a w h => by
 cases e <;> first | exact h | exact h.elim
end Go.Proofs.YtdoeejhdenifpaaGreatDoor
namespace Go.Proofs.YtdoeejhdenifpaaGreatDoor
open Go.RowKit Go.Sort Go.Maps Go.Shelf
attribute [local go_sem] Oper.semAt_some
theorem all1_any (a : Ad) (w : World) : Calls Tryz.prog 75 #[adW a] w fun e w' => e = .returned (.bool true) ∧ Gr w w' := by
 go_enter Tryz.func75, Tryz.ntmps75
 go_wp2
 go_ret
 exact ⟨rfl, (Gr.refl _).alloc _⟩
set_option maxRecDepth 100000 in
theorem some_in (n : Nat) (p : Option Addr) (wv : Value) (hv : ∃ f lb, wv = .func (.func f) #[] lb) (w : World) :
    CallsIn Fence.wide n Tryz.prog 74 #[.pointer p, wv] w fun e w' => e = .returned (.func (.func 116) #[] #[.pointer (some ⟨w.heap.size, 0, none⟩), .pointer (some ⟨w.heap.size + 1, 0, none⟩)]) ∧ w' = (w.alloc (.cells #[.pointer p] 29)).alloc (.cells #[wv] 99) := by
 obtain ⟨f, lb, rfl⟩ := hv
 refine callsIn_of_wp Tryz.func74 rfl trivial ?_ rfl
 simp only [Tryz.ntmps74, List.size_toArray, List.length_cons, List.length_nil, Nat.reduceAdd, Nat.reduceSub, Array.replicate_succ, Array.replicate_zero, List.push_toArray, List.append_toArray, List.nil_append, List.cons_append]
 gi_wp2
 go_ret
 exact ⟨rfl, rfl⟩
set_option maxRecDepth 100000 in
theorem all_in (n : Nat) (hn : 2 ≤ n) (p : Option Addr) (w : World) :
    CallsIn Fence.wide n Tryz.prog 37 #[.pointer p] w fun e w' => e = .returned (.func (.func 116) #[] #[.pointer (some ⟨w.heap.size, 0, none⟩), .pointer (some ⟨w.heap.size + 1, 0, none⟩)]) ∧ w' = (w.alloc (.cells #[.pointer p] 29)).alloc (.cells #[.func (.func 75) #[] #[]] 99) := by
 have h1 : 1 ≤ n := by omega
 have hf : Fence.wide.fn 74 := trivial
 refine callsIn_of_wp Tryz.func37 rfl trivial ?_ rfl
 simp only [Tryz.ntmps37, List.size_toArray, List.length_cons, List.length_nil, Nat.reduceAdd, Nat.reduceSub, Array.replicate_succ, Array.replicate_zero, List.push_toArray, List.append_toArray, List.nil_append, List.cons_append]
 gi_wp2_with (gi_at_call 74; refine (some_in (n - 1) p _ ⟨_, _, rfl⟩ w).mono ?_; rintro e w' ⟨rfl, rfl⟩)
 go_ret
 exact ⟨rfl, rfl⟩
theorem some1_told (A : Nat → Bool) (wf : Nat) (wl : Array Value) (ew : ∀ args w, (callFunc wf args).run Tryz.prog w = .ok (.enter wf args) w) (wb : Ad → Bool) (n₀ : Nat) (w0 : World) (hn0 : n₀ = w0.heap.size) (Wk : World → Prop) (hWk : ∀ W W', Wk W → Below n₀ W W' → KeepsT A W W' → Wk W') (hwant : ∀ (a : Ad) (W : World), Wk W → Calls Tryz.prog wf (#[adW a] ++ wl) W fun e W' => e = .returned (.bool (wb a)) ∧ Gr W W')
    (n : Nat) (hn : 8 ≤ n) (Bg Bw gb mb : Nat) (M : GM) (hG : GridIs w0 gb mb M) (w : World) (hW : Below n₀ w0 w) (hWkW : Wk w) (hBg : Bg < w.heap.size) (hcg : w.cell? ⟨Bg, 0, none⟩ = some (.pointer (some ⟨gb, 0, none⟩))) (hcw : w.heap[Bw]? = some (.cells #[.func (.func wf) #[] wl] 99 (0, 0))) (hA0 : ∀ k, w.heap.size ≤ k → A (2 * k + 1) = false := by intros; rfl) :
    SeqTold n Tryz.prog 116 #[.pointer (some ⟨Bg, 0, none⟩), .pointer (some ⟨Bw, 0, none⟩)] teV (fun W W' => Below n₀ W W' ∧ KeepsT A W W') (toldM M) (toldS M wb) (fun pre => ∃ i, toldS (M.take i) wb pre) M.length w := fun l J Jx W hB hJ _ hY h0 =>
 some1_in A wf wl ew wb n₀ w0 hn0 Wk hWk hwant n hn l Bg Bw gb mb M hG J Jx W (hA0 _ hB.size) (hW.trans (hB.mono (by have := hW.size; omega))) (hWk _ _ hWkW (hB.mono (by have := hW.size; omega)) (KeepsT.of_xt hB)) hJ
  ((hB.cell (p := ⟨Bg, 0, none⟩) hBg).trans hcg) ((hB.block _ (Array.getElem?_eq_some_iff.1 hcw).1).trans hcw) hY h0
end Go.Proofs.YtdoeejhdenifpaaGreatDoor
/- A region that draws its order, in a round of a loop over an iterator: walked as outside of one. -/
namespace Go.Proofs.YtdoeejhdenifpaaGreatDoor
open Go.RowKit
theorem callsIn_round {l n : Nat} {P : Program} {f : FuncId} {args : Array Value} {w : World} {R : Ending → World → Prop} (h : Calls P f args w R) : CallsIn (Fence.wide.inRound l) n P f args w R := CallsIn.inRound l (callsIn_wide.2 h)
theorem rowsIn_round {l n : Nat} {P : Program} {row : String} {args : Array Value} {w : World} {R : Value → World → Prop} (h : Rows P row args w R) : RowsIn (Fence.wide.inRound l) n P row args w R :=
 fun c cs _ => let ⟨v, w', r, s⟩ := h c cs; ⟨v, w', r, stepsIn_wide.2 s⟩
theorem upon_round {l n : Nat} {P : Program} {o : Oper} {a : Act} {K K' : Act → World → Prop} {Q : Exit → Act → World → Prop} (hK : ∀ a w, K a w → K' a w) (r : Result Next) (h : o.upon P a K Q r) : o.uponIn (Fence.wide.inRound l) n P a K' Q r := by
 cases r with
 | ok x w' =>
  cases x with
  | value v => exact hK _ _ h
  | skip => exact hK _ _ h
  | defer d => exact hK _ _ h
  | enter f args =>
   refine ⟨(by intro e; cases e), callsIn_round (Calls.mono h ?_)⟩
   intro e w2 h2
   cases e with
   | returned v => exact hK _ _ h2
   | panicked c => exact h2
   | outgrown => exact h2
  | row row args => exact ⟨(by intro e; cases e), rowsIn_round (Rows.mono h fun _ _ h2 => hK _ _ h2)⟩
  | _ => exact h.elim
 | halt x w' => cases x <;> first | exact h | exact h.elim
theorem opIn_round {l n : Nat} {P : Program} {o : Oper} {a : Act} {w : World} {K K' : Act → World → Prop} {Q : Exit → Act → World → Prop} (hd : ∀ c, o.op ≠ .defer c) (hK : ∀ a w, K a w → K' a w) (h : o.wp P a w K Q) : o.wpIn (Fence.wide.inRound l) n P a w K' Q := by
 refine ⟨fun _ _ => trivial, ?_⟩
 rw [Oper.semAt_eq _ _ _ hd]
 exact upon_round hK _ h
theorem opsIn_round {l n : Nat} {P : Program} {ops : Array Oper} {Q : Exit → Act → World → Prop} (hd : ∀ (i : Nat) (o : Oper), ops[i]? = some o → ∀ c, o.op ≠ .defer c) (hQ : ∀ a w, ¬ Q .outgrown a w) : ∀ (is : List Nat) (a : Act) (w : World), wpOps P ops Q is a w → wpOpsIn (Fence.wide.inRound l) n P ops Q is a w
 | [], _, _, h => h
 | i :: rest, a, w, h => by
  unfold wpOpsIn
  unfold wpOps at h
  split
  · rename_i e; rw [e] at h; exact opsIn_round hd hQ rest a w h
  · rename_i o e
    rw [e] at h
    simp only at h
    split
    · rename_i hw
      rw [if_pos hw] at h
      rcases h with h | ⟨_, a', w', h⟩
      · exact opIn_round (hd i o e) (fun a w h => opsIn_round hd hQ rest a w h) h
      · exact absurd h (hQ a' w')
    · rename_i hw
      rw [if_neg hw] at h
      exact ⟨fun _ _ => trivial, opsIn_round hd hQ rest _ w h⟩
def noDefer (ops : Array Oper) : Bool := ops.all fun o => match o.op with | .defer _ => false | _ => true
theorem noDefer_spec {ops : Array Oper} (h : noDefer ops = true) : ∀ (i : Nat) (o : Oper), ops[i]? = some o → ∀ c, o.op ≠ .defer c := fun i o hi c e => by
 have := Array.all_eq_true_iff_forall_mem.1 h o (Array.mem_of_getElem? hi)
 rw [e] at this
 cases this
theorem region_round {l n id : Nat} {P : Program} {ops : Array Oper} {Q : Exit → Act → World → Prop} {S : World → Prop} {a : Act} {w : World} (hm : P.follows .mixedOrders = true) (hd : noDefer ops = true) (hQ : ∀ a w, ¬ Q .outgrown a w) (hS : S w.drew)
    (h : S w.drew → wpAnyH P .any ops Q S ops.size (Array.replicate ops.size false) a w.drew) : (Code.region id ops true).wpIn (Fence.wide.inRound l) n P Q a w :=
 wpIn_region_draw fun t => by
  simp only [Region.schedule, hm, Bool.true_or, if_true]
  exact opsIn_round (noDefer_spec hd) hQ _ _ _ (wpAny_sound ops.size t _ a _ (wpAny_of_held _ _ _ _ (h hS)))
end Go.Proofs.YtdoeejhdenifpaaGreatDoor
/- move: a grid whose lines are put in or taken out (made by mkm9.py). -/
namespace Go.Proofs.YtdoeejhdenifpaaGreatDoor
open Go.RowKit Go.Sort Go.Maps Go.Shelf Go.MapKept
attribute [local go_sem] Oper.semAt_some
theorem results_two {fn : Func} {p q : Tmp} {t1 t2 : TypeId} (h : fn.results = #[.cell p t1, .cell q t2]) (tmps : Array Value) (w : World) (b1 b2 : Nat) (u v : Value) (hp : tmps.getD p undef = .pointer (some ⟨b1, 0, none⟩)) (hq : tmps.getD q undef = .pointer (some ⟨b2, 0, none⟩))
    (l1 : (loadVar t1 ⟨b1, 0, none⟩).run Tryz.prog w = .ok u w) (l2 : (loadVar t2 ⟨b2, 0, none⟩).run Tryz.prog w = .ok v w) : (results fn tmps).run Tryz.prog w = .ok (.tuple #[u, v]) w := by
 have hp' : tmps[p]?.getD undef = .pointer (some ⟨b1, 0, none⟩) := by simpa using hp
 have hq' : tmps[q]?.getD undef = .pointer (some ⟨b2, 0, none⟩) := by simpa using hq
 simp [results, h, hp', hq', asAddr, l1, l2, Sem.run_bind]
theorem load_pgrid (w : World) (b : Nat) (u : Value) (h : w.cell? ⟨b, 0, none⟩ = some u) : (loadVar 29 ⟨b, 0, none⟩).run Tryz.prog w = .ok u w := by go_simp
theorem load_err (w : World) (b : Nat) (u : Value) (h : w.cell? ⟨b, 0, none⟩ = some u) : (loadVar 35 ⟨b, 0, none⟩).run Tryz.prog w = .ok u w := by go_simp
def manyL (cols : Bool) : Int := if cols then 256 else 4096
theorem lmade_any (cols : Bool) (a n : Int) (w : World) :
    Calls Tryz.prog 114 #[.bool cols, .int .i64 a, .int .i64 n] w fun e w' => e = .returned (.tuple #[linV (madeL (manyL cols) a n).1, .bool (madeL (manyL cols) a n).2]) ∧ Xt w w' := by
 cases cols
 · exact madeL_false a n w
 · exact madeL_true a n w
theorem one_row {w : World} {b : Nat} {u : Value} {T : TypeId} (h : w.heap[b]? = some (.cells #[u] T (0, 0))) : w.cell? ⟨b, 0, none⟩ = some u ∧ w.frozen? ⟨b, 0, none⟩ = false := by simp [World.cell?, World.frozen?, h]
def BrR (cols : Bool) (a n : Int) (M : GM) (w : World) (e : Ending) (w' : World) : Prop :=
 Xt w w' ∧ ((madeL (manyL cols) a n).2 = false ∧ e = .returned (.tuple #[.pointer none, .int .i64 1]) ∨
  (madeL (manyL cols) a n).2 = true ∧ (goStop (cellF cols ⟨a, n, manyL cols⟩) n (er M) = true ∧ e = .returned (.tuple #[.pointer none, .int .i64 20]) ∨
   goStop (cellF cols ⟨a, n, manyL cols⟩) n (er M) = false ∧ ∃ go mo Mo, e = .returned (.tuple #[.pointer (some ⟨go, 0, none⟩), .int .i64 0]) ∧ GridIs w' go mo Mo ∧ er Mo = goAll (cellF cols ⟨a, n, manyL cols⟩) (areaF cols ⟨a, n, manyL cols⟩) (er M) ∧ w.heap.size ≤ mo ∧ w.heap.size ≤ go))
theorem LinAt.kept {w w' : World} {pc pl m : Nat} {cols : Bool} {l : LinT} (h : LinAt w pc pl cols l) (hk : ∀ b, b < m → w'.heap[b]? = w.heap[b]?) (hm : pc < m ∧ pl < m) : LinAt w' pc pl cols l :=
 ⟨(World.cell?_of_block (w := w) (a := ⟨pc, 0, none⟩) (hk _ hm.1)).trans h.c, (World.cell?_of_block (w := w) (a := ⟨pl, 0, none⟩) (hk _ hm.2)).trans h.c0, (World.cell?_of_block (w := w) (a := ⟨pl, 1, none⟩) (hk _ hm.2)).trans h.c1, (World.cell?_of_block (w := w) (a := ⟨pl, 2, none⟩) (hk _ hm.2)).trans h.c2⟩
def tpT (x : TE) : Ad × ContT := (x.1, x.2.1)
theorem lines_road {m : Nat} (cols : Bool) (l : LinT) (pc pl : Nat) (h : pc < m ∧ pl < m) : RoadIs (fun W => LinAt W pc pl cols l ∧ m ≤ W.heap.size) m 146 148 #[.pointer (some ⟨pc, 0, none⟩), .pointer (some ⟨pl, 0, none⟩)] #[.pointer (some ⟨pc, 0, none⟩), .pointer (some ⟨pl, 0, none⟩)] (cellF cols l) (areaF cols l) ArT.ok :=
 ⟨fun w w' hE hs hk => ⟨hE.1.kept hk h, by have := hE.2; omega⟩, fun w hE => hE.2, enters_of Tryz.func146 (by kernel_rfl) rfl, enters_of Tryz.func148 (by kernel_rfl) rfl, fun a w hE => road1_any cols l a pc pl w hE.1, fun x w ho hE => road2_any cols l x ho pc pl w hE.1⟩
theorem one_cell {w : World} {b o : Nat} {u v : Value} {T : TypeId} (h : w.heap[b]? = some (.cells #[u] T (0, 0))) (hv : w.cell? ⟨b, o, none⟩ = some v) : o = 0 := by
 have h2 : (#[u] : Array Value)[o]? = some v := by simpa [World.cell?, h] using hv
 have := (Array.getElem?_eq_some_iff.1 h2).1
 simp at this; omega
theorem ArgsIn.far {w w' : World} {P : Nat → Prop} (hk : ∀ b, ¬ P b → w'.heap[b]? = w.heap[b]?) (hP : ∀ b, P b → ∀ o u, w.cell? ⟨b, o, none⟩ = some u → o = 0) : ∀ {n : Nat} {av : Value} {l : List NodeT}, ArgsIn w n av l → ArgsIn w' n av l
 | 0, _, _, h => h
 | n + 1, _, _, h => by
  obtain ⟨a, cap, rfl, h1, h2, h3⟩ := h
  refine ⟨a, cap, rfl, h1, h2, fun hne => ?_⟩
  obtain ⟨b, off, rfl, hc⟩ := h3 hne
  refine ⟨b, off, rfl, fun k t ht => ?_⟩
  obtain ⟨av', hcell, hin⟩ := hc k t ht
  have hb : ¬ P b := fun e => by
   have e1 := hP b e _ _ (hcell 1 _ rfl)
   omega
  exact ⟨av', fun i u hu => (World.cell?_of_block (w := w) (a := ⟨b, off + k * 15 + i, none⟩) (hk b hb)).trans (hcell i u hu), hin.far hk hP⟩
theorem GridIs.far {w w' : World} {P : Nat → Prop} {gb mb : Nat} {M : GM} (h : GridIs w gb mb M) (hk : ∀ b, ¬ P b → w'.heap[b]? = w.heap[b]?) (hP : ∀ b, P b → ∀ o u, w.cell? ⟨b, o, none⟩ = some u → o = 0) (hg : ¬ P gb) (hm : ¬ P mb) : GridIs w' gb mb M :=
 ⟨(World.cell?_of_block (w := w) (a := ⟨gb, 0, none⟩) (hk _ hg)).trans h.cell, let ⟨E, q1, q2⟩ := h.map; ⟨E, q1.of_heap (hk _ hm), q2⟩, h.sorted, fun x hx => ⟨(h.args x hx).1, let ⟨n, hn⟩ := (h.args x hx).2; ⟨n, hn.far hk hP⟩⟩, h.many⟩
theorem told_all {M : GM} {xs : List TE} (h : toldS M (fun _ => true) xs) : xs.map tpT = er M := by
 unfold toldS at h
 rw [List.filter_eq_self.2 (fun _ _ => rfl)] at h
 exact h
theorem goStop_pre {cG : Ad → Ad × Bool} {n : Int} {M : GM} {i : Nat} {pre : List TE} (h : toldS (M.take i) (fun _ => true) pre) (hg : goStop cG n (pre.map tpT) = true) : goStop cG n (er M) = true := by
 rw [told_all h] at hg
 unfold goStop at *
 rw [List.any_eq_true] at *
 obtain ⟨x, hx, h2⟩ := hg
 refine ⟨x, ?_, h2⟩
 unfold er at *
 rw [List.map_take] at hx
 exact List.mem_of_mem_take hx
structure BI (W0 : World) (go mo : Nat) (cG : Ad → Ad × Bool) (aG : ArT → ArT × Bool) (n : Int) (pre : List TE) (W : World) : Prop where
 grown : W0.grownBy W (some mo)
 out : ∃ Mo, GridIs W go mo Mo ∧ er Mo = goAll cG aG (pre.map tpT)
 go : goStop cG n (pre.map tpT) = false
theorem grownBy_far {a b c : World} {m : Nat} {row : Option Nat} (h : a.grownBy b (some m)) (k : b.grownBy c row) (hr : ∀ r, row = some r → a.heap.size ≤ r) : a.grownBy c (some m) :=
 ⟨k.os.trans h.os, k.tape.trans h.tape, k.output.trans h.output, Nat.le_trans h.size k.size, fun i hi hn => (k.block i (Nat.lt_of_lt_of_le hi h.size) (fun e => by have := hr i e.symm; omega)).trans (h.block i hi hn)⟩
theorem grownBy_two {a b c : World} {m : Nat} (h : a.grownBy b (some m)) (k : b.grownBy c (some m)) : a.grownBy c (some m) :=
 ⟨k.os.trans h.os, k.tape.trans h.tape, k.output.trans h.output, Nat.le_trans h.size k.size, fun i hi hn => (k.block i (Nat.lt_of_lt_of_le hi h.size) hn).trans (h.block i hi hn)⟩
theorem BI.own {W0 : World} {go mo : Nat} {cG : Ad → Ad × Bool} {aG : ArT → ArT × Bool} {n : Int} (hm : mo < W0.heap.size) : OwnFrom W0.heap.size (fun pre W => BI W0 go mo cG aG n pre W) := fun s X Y row hs hg hr => by
 obtain ⟨h1, ⟨Mo, h2, h3⟩, h4⟩ := hs
 exact ⟨grownBy_far h1 hg (fun r e => (hr r e).1), ⟨Mo, h2.kept (cellsIn_walk hg (fun r e => (hr r e).2)) (hg.block mo (by have := h1.size; omega) (fun e => by have := (hr mo e.symm).1; omega)), h3⟩, h4⟩
theorem BI.start {W0 : World} {go mo : Nat} {cG : Ad → Ad × Bool} {aG : ArT → ArT × Bool} {n : Int} (h : GridIs W0 go mo []) : BI W0 go mo cG aG n [] W0 := ⟨⟨rfl, rfl, rfl, Nat.le_refl _, fun _ _ _ => rfl⟩, ⟨[], h, rfl⟩, rfl⟩
theorem BI.xt {W0 W W' : World} {go mo : Nat} {cG : Ad → Ad × Bool} {aG : ArT → ArT × Bool} {n : Int} {pre : List TE} (h : BI W0 go mo cG aG n pre W) (hx : Xt W W') : BI W0 go mo cG aG n pre W' :=
 ⟨grownBy_far h.grown hx.grownN (fun r e => by cases e), let ⟨Mo, h2, h3⟩ := h.out; ⟨Mo, h2.xt hx, h3⟩, h.go⟩
set_option maxRecDepth 100000 in
set_option maxHeartbeats 4000000 in
theorem brought_any (cols : Bool) (at_ n : Int) (gb mb : Nat) (M : GM) (w : World) (hG : GridIs w gb mb M) (hT : Tabs w) (hO : GOk (er M)) :
    Calls Tryz.prog 73 #[.pointer (some ⟨gb, 0, none⟩), .bool cols, .int .i64 at_, .int .i64 n] w (BrR cols at_ n M w) := by
 have HG := Lib.hid hG
 have HT := Lib.hid hT
 have HO := Lib.hid hO
 obtain ⟨B, hB⟩ : ∃ B, w.heap.size = B := ⟨_, rfl⟩
 have HBw := Lib.hid hB
 obtain ⟨ok, hok⟩ : ∃ ok, (madeL (manyL cols) at_ n).2 = ok := ⟨_, rfl⟩
 have HM := Lib.hid (lmade_any cols at_ n)
 simp only [hok] at HM
 have HL : Hid ((madeL (manyL cols) at_ n).1 = ⟨at_, n, manyL cols⟩) := rfl
 rw [HL.out] at HM
 have HOK := Lib.hid hok
 obtain ⟨N, hN⟩ : ∃ N, manyL cols = N := ⟨_, rfl⟩
 rw [hN] at HM
 have HN := Lib.hid hN
 obtain ⟨wa, hwa⟩ : ∃ wa, w.alloc (.cells #[.int .i64 n] 3) = wa := ⟨_, rfl⟩
 have hsa : wa.heap.size = B + 1 := by rw [← hwa, ← hB]; simp
 obtain ⟨wb, hwb⟩ : ∃ wb, wa.alloc (.cells #[.pointer none] 29) = wb := ⟨_, rfl⟩
 have hsb : wb.heap.size = B + 1 + 1 := by rw [← hwb]; simp [hsa]
 obtain ⟨w0, hw0⟩ : ∃ w0, wb.alloc (.cells #[.int .i64 0] 35) = w0 := ⟨_, rfl⟩
 have hs0 : w0.heap.size = B + 1 + 1 + 1 := by rw [← hw0]; simp [hsb]
 have hx0 : Xt w w0 := by rw [← hw0, ← hwb, ← hwa]; exact (((Xt.refl _).alloc _).alloc _).alloc _
 have hr0 : w0.heap[B]? = some (.cells #[.int .i64 n] 3 (0, 0)) := rowX (w := wa) (by rw [← hw0, ← hwb]; exact ((Xt.refl _).alloc _).alloc _) (by rw [← hwa, ← hB]; exact (MapKept.heap_alloc w _).1)
 have hr1 : w0.heap[B + 1]? = some (.cells #[.pointer none] 29 (0, 0)) := rowX (w := wb) (by rw [← hw0]; exact (Xt.refl _).alloc _) (by rw [← hwb, ← hsa]; exact (MapKept.heap_alloc wa _).1)
 have hr2 : w0.heap[B + 1 + 1]? = some (.cells #[.int .i64 0] 35 (0, 0)) := by rw [← hw0, ← hsb]; exact (MapKept.heap_alloc wb _).1
 have hc0 : w0.cell? ⟨B, 0, none⟩ = some (.int .i64 n) := by simp [World.cell?, hr0]
 have HX0 := Lib.hid hx0
 have HR0 := Lib.hid hr0
 have HR1 := Lib.hid hr1
 have HR2 := Lib.hid hr2
 clear hG hT hO hok hN HL hr0 hr1 hr2 hx0
 refine (callsIn_wide (n := 25)).1 ?_
 refine callsIn_of_wp_marks Tryz.func73 rfl trivial ?_ rfl
 simp only [Tryz.ntmps73, List.size_toArray, List.length_cons, List.length_nil, Nat.reduceAdd, Nat.reduceSub, Array.replicate_succ, Array.replicate_zero, List.push_toArray, List.append_toArray, List.nil_append, List.cons_append]
 refine wpIn_wide.2 ?_
 refine wp_mono (Q := noPanic (bodyPostM Fence.wide 25 Tryz.prog Tryz.f73 (BrR cols at_ n M w))) ?_ noPanic_le
 cases ok
 · go_wp2_with (first
    | (go_at_call 114; refine (HM.out _).mono ?_; rintro e w1 ⟨rfl, hx1⟩; obtain ⟨wA, hwA⟩ : ∃ wA, w1.alloc (.cells #[.int .i64 at_, .int .i64 n, .int .i64 N] 147) = wA := ⟨_, rfl⟩; have HXA : Hid (Xt w0 wA) := (by unfold Hid; rw [← hwA]; exact hx1.alloc _); obtain ⟨c1, f1⟩ := one_row (rowX HXA.out HR1.out); obtain ⟨c2, f2⟩ := one_row (rowX HXA.out HR2.out); clear hx1))
   obtain ⟨W', hW'⟩ : ∃ W', (wA.setCell ⟨B + 1, 0, none⟩ (.pointer none)).setCell ⟨B + 1 + 1, 0, none⟩ (.int .i64 1) = W' := ⟨_, rfl⟩
   have k1 : W'.cell? ⟨B + 1, 0, none⟩ = some (.pointer none) := by rw [← hW', World.cell?_setCell_other _ _ _ _ (by simp)]; exact World.cell?_setCell_same _ _ _ c1
   have k2 : W'.cell? ⟨B + 1 + 1, 0, none⟩ = some (.int .i64 1) := by rw [← hW']; exact World.cell?_setCell_same _ _ _ ((World.cell?_setCell_other _ _ _ _ (by simp)).trans c2)
   have hxW : Xt w W' := by rw [← hW']; exact ((HX0.out.trans HXA.out).grownB (setCell_grown _ _ _ _) (fun q hq => by cases hq; rw [hB]; omega)).grownB (setCell_grown _ _ _ _) (fun q hq => by cases hq; rw [hB]; omega)
   rw [hW']
   exact ⟨_, results_two rfl _ _ (B + 1) (B + 1 + 1) (.pointer none) (.int .i64 1) rfl rfl (load_pgrid _ _ _ k1) (load_err _ _ _ k2), hxW, Or.inl ⟨HOK.out, rfl⟩⟩
 · go_wp2_with (first
    | (go_at_call 114; refine (HM.out _).mono ?_; rintro e w1 ⟨rfl, hx1⟩)
    | (go_at_call 115; refine (road_any cols ⟨at_, n, N⟩ _).mono ?_; rintro e w2 ⟨pc, pl, rfl, hLA, hx2⟩)
    | (go_at_call 35; refine (gnew_any _).mono ?_; rintro e w3 ⟨rfl, hGo, hg3⟩)
    | (go_at_call 37; refine ((callsIn_wide (n := 20)).1 (all_in 20 (by omega) _ _)).mono ?_; rintro e w' ⟨rfl, rfl⟩))
   simp only [World.size_alloc] at hGo
   have hx02 : Xt w0 w2 := (hx1.alloc _).trans hx2
   have hx23 : Xt w2 w3 := ((Xt.refl w2).alloc _).trans hg3.xt
   have hRR := rowX hg3.xt (MapKept.heap_alloc w2 _).1
   obtain ⟨R, hR⟩ : ∃ R, w2.heap.size = R := ⟨_, rfl⟩
   obtain ⟨G, hGs⟩ : ∃ G, w3.heap.size = G := ⟨_, rfl⟩
   obtain ⟨W0, hW0⟩ : ∃ W0, ((w3.alloc (.cells #[.pointer (some ⟨R + 1 + 1, 0, none⟩)] 29)).alloc (.cells #[.pointer (some ⟨gb, 0, none⟩)] 29)).alloc (.cells #[.func (.func 75) #[] #[]] 99) = W0 := ⟨_, rfl⟩
   simp only [hR, hGs, hW0] at hGo hRR ⊢
   have hx3W : Xt w3 W0 := by rw [← hW0]; exact (((Xt.refl w3).alloc _).alloc _).alloc _
   have hsW : W0.heap.size = G + 3 := by rw [← hW0]; simp [hGs]
   have rG : W0.heap[G]? = some (.cells #[.pointer (some ⟨R + 1 + 1, 0, none⟩)] 29 (0, 0)) := by
    rw [← hW0, ← hGs]
    exact rowX (((Xt.refl _).alloc _).alloc _) (MapKept.heap_alloc w3 _).1
   have rBg : W0.heap[G + 1]? = some (.cells #[.pointer (some ⟨gb, 0, none⟩)] 29 (0, 0)) := by
    rw [← hW0, ← hGs]
    have := rowX ((Xt.refl _).alloc (.cells #[.func (.func 75) #[] #[]] 99)) (MapKept.heap_alloc (w3.alloc (.cells #[.pointer (some ⟨R + 1 + 1, 0, none⟩)] 29)) (.cells #[.pointer (some ⟨gb, 0, none⟩)] 29)).1
    simpa using this
   have rBw : W0.heap[G + 2]? = some (.cells #[.func (.func 75) #[] #[]] 99 (0, 0)) := by
    rw [← hW0, ← hGs]
    have := (MapKept.heap_alloc ((w3.alloc (.cells #[.pointer (some ⟨R + 1 + 1, 0, none⟩)] 29)).alloc (.cells #[.pointer (some ⟨gb, 0, none⟩)] 29)) (.cells #[.func (.func 75) #[] #[]] 99)).1
    simpa using this
   have hx2W : Xt w2 W0 := hx23.trans hx3W
   have hx0W : Xt w0 W0 := hx02.trans hx2W
   have HX0W := Lib.hid hx0W
   have HXW : Hid (Xt w W0) := HX0.out.trans hx0W
   have HLAW : Hid (LinAt W0 pc pl cols ⟨at_, n, N⟩) := hLA.xt hx2W
   have HGoW : Hid (GridIs W0 (R + 1 + 1) (R + 1) []) := hGo.xt hx3W
   have HRRW := Lib.hid (rowX hx3W hRR)
   have HRG := Lib.hid rG
   have hRlt := hGo.lt.1
   have hBR : B + 1 + 1 < R := by have := hx02.size; omega
   have hwR : w.heap.size ≤ R := by have := HX0.out.size; have := hx02.size; omega
   have hplt : pc < R ∧ pl < R := ⟨by rw [← hR]; exact World.block_lt_of_cell? w2 _ hLA.c, by rw [← hR]; exact World.block_lt_of_cell? w2 _ hLA.c0⟩
   have hGR : R + 1 + 1 < G := by omega
   obtain ⟨cG, hcG⟩ : ∃ cG, cellF cols ⟨at_, n, N⟩ = cG := ⟨_, rfl⟩
   obtain ⟨aG, haG⟩ : ∃ aG, areaF cols ⟨at_, n, N⟩ = aG := ⟨_, rfl⟩
   have HCG := Lib.hid hcG
   have HAG := Lib.hid haG
   have HcgW : W0.cell? ⟨G + 1, 0, none⟩ = some (.pointer (some ⟨gb, 0, none⟩)) := by simp [World.cell?, rBg]
   clear hW0 hcG haG rG rBg hx0W hx2W hx3W hRR hx23 hx02 hGo hLA hx1 hx2 hg3 hwa hwb hw0 hc0 hGs hR
   generalize hA0 : Act.mk _ _ = a0
   refine (wpIn_wide (n := 25)).1 ?_
   refine rangeFunc_told (n := 25) (by omega) (gf := 116) (lb := #[.pointer (some ⟨G + 1, 0, none⟩), .pointer (some ⟨G + 2, 0, none⟩)]) (by subst hA0; rfl) (enters_of Tryz.func116 (by kernel_rfl) rfl)
    (some1_told (fun x => x == 2 * (R + 1) + 1) 75 #[] (enters_of Tryz.func75 (by kernel_rfl) rfl) (fun _ => true) w.heap.size w rfl (fun _ => True) (fun _ _ _ _ _ => trivial) (fun a W _ => all1_any a W) (25 - 1) (by omega) (G + 1) (G + 2) gb mb M HG.out W0 HXW.out trivial (by omega) HcgW rBw (fun k hk => by simp; omega))
    (fun h k => ⟨h.1.trans k.1, h.2.trans k.2⟩) (fun W l o o' hl ho hc hw => ⟨belowK_b (w := W0) (by omega) W l o o' hl ho hc hw, KeepsT.of_grown (grownBy_putObj' W l o') (fun j o2 e h2 => by cases e; rw [ho] at h2; cases h2; cases o <;> simp_all [keptO, Obj.isCells, Obj.isWalk])⟩) (Below.refl _ _) (fun _ => rfl)
    (fun pre W => BI W0 (R + 1 + 1) (R + 1) cG aG n pre W)
    (fun c pre W => c = .ret ∧ Xt w W ∧ W.heap[B + 1]? = some (.cells #[.pointer none] 29 (0, 0)) ∧ W.heap[B + 1 + 1]? = some (.cells #[.int .i64 20] 35 (0, 0)) ∧ goStop cG n (pre.map tpT) = true)
    (BI.own (by omega))
    (fun c s X Y row hs hg hr => ⟨hs.1, hs.2.1.grownB hg (fun q hq => by have := (hr q hq).1; omega), rowCells_own hs.2.2.1 hg (fun r e => (hr r e).2), rowCells_own hs.2.2.2.1 hg (fun r e => (hr r e).2), hs.2.2.2.2⟩)
    (BI.start HGoW.out)
    (fun x a' W => ∃ (z : CE) (Bx By nT : Nat), z.1 = copyC x.2.1 ∧ z.2 = x.2.2 ∧ W.heap[Bx]? = some (.cells #[.int .i64 x.1.1, .int .i64 x.1.2] 24 (0, 0)) ∧ W.heap[By]? = some (.cells #[.int .i64 z.1.kind, .int .i64 z.1.v.kind, .float .f64 z.1.v.x, .string z.1.v.s, .bool z.1.v.b, .int .i64 z.1.v.f, .int .i64 z.1.t.kind, .int .i64 z.1.t.op, .float .f64 z.1.t.x, .string z.1.t.s, .bool z.1.t.b, .int .i64 z.1.t.f, .int .i64 z.1.t.ref.a.1, .int .i64 z.1.t.ref.a.2, .bool z.1.t.ref.cf, .bool z.1.t.ref.rf, .int .i64 z.1.t.to.a.1, .int .i64 z.1.t.to.a.2, .bool z.1.t.to.cf, .bool z.1.t.to.rf, .slice z.2 z.1.t.args.length z.1.t.args.length] 51 (0, 0)) ∧ smallT z.1.t ∧ ArgsIn W nT (.slice z.2 z.1.t.args.length z.1.t.args.length) z.1.t.args ∧ (x.1, x.2.1) ∈ er M ∧
     a' = { tmps := (((a0.tmps.setIfInBounds 37 (adW x.1)).setIfInBounds 38 (ceV z)).setIfInBounds 14 (.pointer (some ⟨Bx, 0, none⟩))).setIfInBounds 15 (.pointer (some ⟨By, 0, none⟩)), defers := [] })
    (fun x a' _ X Y row hs hg hr => by
     obtain ⟨z, Bx, By, nT, e1, e2, h1, h2, h3, h4, h5⟩ := hs
     exact ⟨z, Bx, By, nT, e1, e2, rowCells_own h1 hg (fun r e => (hr r e).2), rowCells_own h2 hg (fun r e => (hr r e).2), h3, h4.kept (cellsIn_walk hg (fun r e => (hr r e).2)), h5⟩)
    ?assign ?body ?done ?stop
   case stop =>
    rintro D c pre W hD ⟨i, hS⟩ ⟨rfl, hxW, k1, k2, hgo⟩ hK
    subst hA0
    refine (wpIn_wide (n := 25)).2 ?_
    go_wp2_with fail
    refine ⟨by simp, .inl ⟨_, _, rfl, run_takeDeferred hK, ?_⟩⟩
    have k1' : (W.putObj D (.deferred none)).heap[B + 1]? = some (.cells #[.pointer none] 29 (0, 0)) := (World.putObj_heap_other (by omega)).trans k1
    have k2' : (W.putObj D (.deferred none)).heap[B + 1 + 1]? = some (.cells #[.int .i64 20] 35 (0, 0)) := (World.putObj_heap_other (by omega)).trans k2
    have hxE : Xt w (W.putObj D (.deferred none)) := hxW.grownB (grownBy_putObj' W D _) (fun q hq => by cases hq; have := HXW.out.size; omega)
    refine ⟨_, results_two rfl _ _ (B + 1) (B + 1 + 1) (.pointer none) (.int .i64 20) rfl rfl (load_pgrid _ _ _ (one_row k1').1) (load_err _ _ _ (one_row k2').1), hxE, Or.inr ⟨HOK.out, Or.inl ⟨?_, rfl⟩⟩⟩
    rw [HN.out, HCG.out]
    exact goStop_pre hS hgo
   case done =>
    rintro D xs W hD hS hI hK
    subst hA0
    obtain ⟨hgr, ⟨Mo, hGo, hEo⟩, hNS⟩ := hI
    have HGo := Lib.hid hGo
    have HEo := Lib.hid hEo
    have HNS := Lib.hid hNS
    have HSS := Lib.hid (told_all hS)
    have r1 := (hgr.block (B + 1) (by omega) (fun e => by have := Option.some.inj e; omega)).trans (rowX HX0W.out HR1.out)
    have r2 := (hgr.block (B + 1 + 1) (by omega) (fun e => by have := Option.some.inj e; omega)).trans (rowX HX0W.out HR2.out)
    have rG := (hgr.block G (by omega) (fun e => by have := Option.some.inj e; omega)).trans HRG.out
    obtain ⟨c1, f1⟩ := one_row r1
    obtain ⟨c2, f2⟩ := one_row r2
    obtain ⟨cGG, _⟩ := one_row rG
    have HxW : Hid (Xt w W) := HXW.out.grownB hgr (fun q hq => by cases hq; omega)
    have HK := Lib.hid hK
    have HC1c := Lib.hid r1
    have HC2c := Lib.hid r2
    clear hGo hEo hNS hS hgr r1 r2 rG hK
    go_wp2_with fail
    obtain ⟨W', hW'⟩ : ∃ W', (W.setCell ⟨B + 1, 0, none⟩ (.pointer (some ⟨R + 1 + 1, 0, none⟩))).setCell ⟨B + 1 + 1, 0, none⟩ (.int .i64 0) = W' := ⟨_, rfl⟩
    have k1 : W'.cell? ⟨B + 1, 0, none⟩ = some (.pointer (some ⟨R + 1 + 1, 0, none⟩)) := by rw [← hW', World.cell?_setCell_other _ _ _ _ (by simp)]; exact World.cell?_setCell_same _ _ _ c1
    have k2 : W'.cell? ⟨B + 1 + 1, 0, none⟩ = some (.int .i64 0) := by rw [← hW']; exact World.cell?_setCell_same _ _ _ ((World.cell?_setCell_other _ _ _ _ (by simp)).trans c2)
    have hgW : Wr (fun b => b = B + 1 ∨ b = B + 1 + 1) W W' := by rw [← hW']; exact (Wr.cell _ (Or.inl rfl)).trans (Wr.cell _ (Or.inr rfl))
    have hKW : W'.heap[D]? = some (.deferred (some [])) := (hgW.block D (Array.getElem?_eq_some_iff.1 HK.out).1 (fun e => by omega)).trans HK.out
    have hGW : GridIs (W'.putObj D (.deferred none)) (R + 1 + 1) (R + 1) Mo := by
     have hk : ∀ b, b ≠ B + 1 → b ≠ B + 1 + 1 → b ≠ D → (W'.putObj D (.deferred none)).heap[b]? = W.heap[b]? := fun b h1 h2 h3 => (World.putObj_heap_other h3).trans (by rw [← hW']; exact (Below.heap_setCell _ _ _ _ h2).trans (Below.heap_setCell _ _ _ _ h1))
     exact HGo.out.far (P := fun b => b = B + 1 ∨ b = B + 1 + 1 ∨ b = D) (fun b hb => hk b (fun e => hb (Or.inl e)) (fun e => hb (Or.inr (Or.inl e))) (fun e => hb (Or.inr (Or.inr e))))
      (fun b hb o u hu => by
       rcases hb with rfl | rfl | rfl
       · exact one_cell HC1c.out hu
       · exact one_cell HC2c.out hu
       · rw [World.cell?, HK.out] at hu; cases hu) (by omega) (by omega)
    rw [hW']
    refine ⟨by simp, .inl ⟨_, _, rfl, run_takeDeferred hKW, ?_⟩⟩
    have hcell : ∀ b, b ≠ D → ∀ u, W'.cell? ⟨b, 0, none⟩ = some u → (W'.putObj D (.deferred none)).cell? ⟨b, 0, none⟩ = some u := fun b hb u hu => (World.cell?_of_block (w := W') (a := ⟨b, 0, none⟩) (World.putObj_heap_other (by exact hb))).trans hu
    have hxE : Xt w (W'.putObj D (.deferred none)) := by
     have h1 : Xt w W' := hgW.xt HxW.out (fun b hb => by rcases hb with e | e <;> omega)
     exact h1.grownB (grownBy_putObj' W' D _) (fun q hq => by cases hq; have := HXW.out.size; omega)
    refine ⟨_, results_two rfl _ _ (B + 1) (B + 1 + 1) (.pointer (some ⟨R + 1 + 1, 0, none⟩)) (.int .i64 0) rfl rfl (load_pgrid _ _ _ (hcell _ (by omega) _ k1)) (load_err _ _ _ (hcell _ (by omega) _ k2)), hxE, Or.inr ⟨HOK.out, Or.inr ⟨?_, R + 1 + 1, R + 1, Mo, rfl, ?_, ?_, by omega, by omega⟩⟩⟩
    · rw [HN.out, HCG.out, ← HSS.out]; exact HNS.out
    · exact hGW
    · rw [HN.out, HCG.out, HAG.out, ← HSS.out]; exact HEo.out
   case assign =>
    rintro l0 pre x W K hI ⟨V, hIV, ⟨hxV, hsm, nT, hA⟩, hmem⟩ hK
    subst hA0
    obtain ⟨⟨c, d⟩, tc, tp⟩ := x
    obtain ⟨z, hz1, hz2⟩ : ∃ z : CE, z.1 = copyC tc ∧ z.2 = tp := ⟨(copyC tc, tp), rfl, rfl⟩
    have hzv : copyCV tc tp = ceV z := by rw [← ceV_copy]; obtain ⟨z1, z2⟩ := z; simp only at hz1 hz2; rw [hz1, hz2]
    have hzA : smallT z.1.t ∧ ArgsIn W nT (.slice z.2 z.1.t.args.length z.1.t.args.length) z.1.t.args := by
     rw [hz1, hz2]
     refine ⟨smallT_copy _ hsm, ?_⟩
     show ArgsIn _ _ (.slice tp (copyT tc.t).args.length (copyT tc.t).args.length) (copyT tc.t).args
     rw [copyT_len, copyT_args]
     exact hA.args
    have HZ := Lib.hid (show z.1 = copyC tc ∧ z.2 = tp from ⟨hz1, hz2⟩)
    have HZA := Lib.hid hzA
    simp only [teV, hzv]
    clear hz1 hz2 hzv hzA hA hsm hIV hxV
    obtain ⟨wA, hwA, hbA, hsA, kA0, kA1⟩ := box1 W c d 24
    obtain ⟨wZ, wR, hwZ, hwR, hrZ, hrR, hxR, hsR, hxZ, hsZ⟩ := boxR wA z
    rw [hsA] at hrZ hwR hrR
    have hrA : wA.heap[W.heap.size]? = some (.cells #[.int .i64 c, .int .i64 d] 24 (0, 0)) := by rw [← hwA]; exact World.alloc_heap_new W _
    have hxWR := Lib.hid (Xt.trans hbA hxR)
    have HRA := Lib.hid ((hxR.block _ (by omega)).trans hrA)
    have HRZ := Lib.hid hrZ
    have HRR := Lib.hid hrR
    have HWR := Lib.hid hwR
    clear hrZ hwR hrR hrA kA0 kA1 hbA hxZ hxR
    gi_wp2_with (first | (refine wpListIn_store_row (P := Tryz.prog) rfl 51 _ _ rfl (W.heap.size + 1) #[.int .i64 z.1.kind, .int .i64 z.1.v.kind, .float .f64 z.1.v.x, .string z.1.v.s, .bool z.1.v.b, .int .i64 z.1.v.f, .int .i64 z.1.t.kind, .int .i64 z.1.t.op, .float .f64 z.1.t.x, .string z.1.t.s, .bool z.1.t.b, .int .i64 z.1.t.f, .int .i64 z.1.t.ref.a.1, .int .i64 z.1.t.ref.a.2, .bool z.1.t.ref.cf, .bool z.1.t.ref.rf, .int .i64 z.1.t.to.a.1, .int .i64 z.1.t.to.a.2, .bool z.1.t.to.cf, .bool z.1.t.to.rf, .slice z.2 z.1.t.args.length z.1.t.args.length] rfl rfl 51 _ HRZ.out (by kernel_rfl) rfl (by simp [Value.oneCell']) ?_; rw [HWR.out]))
    have hx := hxWR.out
    refine hK _ _ (keepsFrom_xt hx _) ⟨hx.mono (by have := hI.grown.size; have := HXW.out.size; omega), KeepsT.of_xt hx⟩ (hI.xt hx) ?_
    refine ⟨z, W.heap.size, W.heap.size + 1, nT, HZ.out.1, HZ.out.2, HRA.out, HRR.out, HZA.out.1, HZA.out.2.xt hx, hmem, ?_⟩
    simp only [List.setIfInBounds_toArray, List.set_cons_zero, List.set_cons_succ]
   case body =>
    rintro l0 pre x a' W hl0 ⟨r, hr⟩ hI ⟨z, Bx, By, nT, hz1, hz2, hBx, hBy, hzs, hzA, hmem, rfl⟩ hlt
    subst hA0
    obtain ⟨⟨c, d⟩, tc, tp⟩ := x
    simp only at hBx hz1 hz2
    obtain ⟨hgr, ⟨Mo, hGo, hEo⟩, hNS⟩ := hI
    have HGo := Lib.hid hGo
    have HEo := Lib.hid hEo
    have HNS := Lib.hid hNS
    have HGr := Lib.hid hgr
    have hgs := hgr.size
    have rB := (hgr.block B (by omega) (fun e => by have := Option.some.inj e; omega)).trans (rowX HX0W.out HR0.out)
    have r1 := (hgr.block (B + 1) (by omega) (fun e => by have := Option.some.inj e; omega)).trans (rowX HX0W.out HR1.out)
    have r2 := (hgr.block (B + 1 + 1) (by omega) (fun e => by have := Option.some.inj e; omega)).trans (rowX HX0W.out HR2.out)
    have rG := (hgr.block G (by omega) (fun e => by have := Option.some.inj e; omega)).trans HRG.out
    have rR := (hgr.block R (by omega) (fun e => by have := Option.some.inj e; omega)).trans HRRW.out
    have HLW : Hid (LinAt W pc pl cols ⟨at_, n, N⟩) := HLAW.out.kept (m := R) (fun b hb => hgr.block b (by omega) (fun e => by have := Option.some.inj e; omega)) hplt
    have hf45 : Fence.wide.fn 146 := trivial
    have HC1 := Lib.hid (road1_any cols ⟨at_, n, N⟩ (c, d) pc pl W HLW.out)
    rw [HCG.out] at HC1
    obtain ⟨q, hq⟩ : ∃ q, cG (c, d) = q := ⟨_, rfl⟩
    rw [hq] at HC1
    have HQ := Lib.hid hq
    obtain ⟨⟨q1, q2⟩, qo⟩ := q
    obtain ⟨x0, x1, _, _⟩ := cells2 hBx
    obtain ⟨y0, y1, _, _⟩ := cells2 rR
    obtain ⟨cB, _⟩ := one_row rB
    have HBY := Lib.hid hBy
    have HR1W := Lib.hid r1
    have HR2W := Lib.hid r2
    have HRGW := Lib.hid rG
    have HRRW2 := Lib.hid rR
    have HXWW : Hid (Xt w W) := HXW.out.grownB hgr (fun q hq => by have := Option.some.inj hq; omega)
    have hByl := (Array.getElem?_eq_some_iff.1 hBy).1
    have HZ := Lib.hid (show z.1 = copyC tc ∧ z.2 = tp from ⟨hz1, hz2⟩)
    have HZA := Lib.hid (show smallT z.1.t ∧ ArgsIn W nT (.slice z.2 z.1.t.args.length z.1.t.args.length) z.1.t.args from ⟨hzs, hzA⟩)
    have hBm : By ≠ R + 1 := fun e => by
     obtain ⟨E, hm, _⟩ := HGo.out.map
     have h1 := hm.nocell 0
     rw [← e] at h1
     simp [World.cell?, hBy] at h1
    obtain ⟨v1, v2, v3, v4, v5⟩ := HO.out.each _ hmem
    have HVZ : Hid (gvalidB z.1 = true) := by unfold Hid; rw [hz1, gvalidB_copy]; exact v2
    have HOZ : Hid z.1.ok := by unfold Hid; rw [hz1]; exact okC_copy v5
    have HZC : Hid (copyC tc = z.1) := hz1.symm
    clear v1 v2 v3 v4 v5 hmem
    clear hGo hEo hNS hgr rB r1 r2 rG rR hBx hBy hz1 hz2 hq hzs hzA hr hlt
    simp only [List.setIfInBounds_toArray, List.set_cons_zero, List.set_cons_succ]
    cases qo
    · by_cases hn : 0 < n
      · gi_wp2_with (first
         | (gi_at_call 146; refine (callsIn_round HC1.out).mono ?_; rintro e w5 ⟨rfl, hx5⟩; obtain ⟨w6, hw6⟩ : ∃ w6, w5.alloc (.cells #[.int .i64 q1, .int .i64 q2] 24) = w6 := ⟨_, rfl⟩; have HX6 : Hid (Xt W w6) := (by unfold Hid; rw [← hw6]; exact hx5.alloc _); have cB6 := HX6.out.cellsIn _ _ _ cB; obtain ⟨c1, f1⟩ := one_row (rowX HX6.out HR1W.out); obtain ⟨c2, f2⟩ := one_row (rowX HX6.out HR2W.out); clear hx5))
        have hgW : Wr (fun b => b = B + 1 ∨ b = B + 1 + 1) W ((w6.setCell ⟨B + 1, 0, none⟩ (.pointer none)).setCell ⟨B + 1 + 1, 0, none⟩ (.int .i64 20)) := (Wr.of_xt HX6.out).trans ((Wr.cell _ (Or.inl rfl)).trans (Wr.cell _ (Or.inr rfl)))
        refine ⟨⟨hgW.size, fun k o hB hk _ => (hgW.block k (Array.getElem?_eq_some_iff.1 hk).1 (fun e => by omega)).trans hk⟩, rfl, hgW.xt HXWW.out (fun b hb => by rcases hb with e | e <;> omega), (Below.heap_setCell _ _ _ _ (by simp)).trans (setCell_row (rowX HX6.out HR1W.out) 0 _), setCell_row ((Below.heap_setCell _ _ _ _ (by simp)).trans (rowX HX6.out HR2W.out)) 0 _, ?_⟩
        rw [List.map_append, List.map_cons, List.map_nil, goStop_snoc]
        simp [tpT, HQ.out, hn]
      · gi_wp2_with (first
         | (gi_at_call 146; refine (callsIn_round HC1.out).mono ?_; rintro e w5 ⟨rfl, hx5⟩; obtain ⟨w6, hw6⟩ : ∃ w6, w5.alloc (.cells #[.int .i64 q1, .int .i64 q2] 24) = w6 := ⟨_, rfl⟩; have HX6 : Hid (Xt W w6) := (by unfold Hid; rw [← hw6]; exact hx5.alloc _); have cB6 := HX6.out.cellsIn _ _ _ cB; clear hx5))
        have hx6 := HX6.out
        refine ⟨keepsFrom_xt hx6 _, ⟨hx6.mono (by omega), KeepsT.of_xt hx6⟩, ?_⟩
        refine ⟨grownBy_far HGr.out hx6.grownN (fun r e => by cases e), ⟨Mo, HGo.out.xt hx6, ?_⟩, ?_⟩
        · rw [List.map_append, List.map_cons, List.map_nil, goAll_snoc, HEo.out]
          simp [tpT, goStep, HQ.out]
        · rw [List.map_append, List.map_cons, List.map_nil, goStop_snoc, HNS.out]
          simp [tpT, hn]
    · gi_wp2_with (first
          | (gi_at_call 146; refine (callsIn_round HC1.out).mono ?_; rintro e w5 ⟨rfl, hx5⟩; obtain ⟨w6, hw6⟩ : ∃ w6, w5.alloc (.cells #[.int .i64 q1, .int .i64 q2] 24) = w6 := ⟨_, rfl⟩; have HX6 : Hid (Xt W w6) := (by unfold Hid; rw [← hw6]; exact hx5.alloc _); obtain ⟨n0, n1, _, _⟩ := cells2 (w := w6) (b := w5.heap.size) (by rw [← hw6]; exact (MapKept.heap_alloc w5 _).1); clear hx5))
      have HGW6 : Hid (GridIs w6 (R + 1 + 1) (R + 1) Mo) := HGo.out.xt HX6.out
      have hs56 : w5.heap.size ≠ R + 1 := by
       intro e
       obtain ⟨E, hm, _⟩ := HGW6.out.map
       have h1 := hm.nocell 0
       rw [← e, n0] at h1
       cases h1
      have HF : Hid (∀ V, w6.grownBy V (some (R + 1)) → V.cell? ⟨G, 0, none⟩ = some (.pointer (some ⟨R + 1 + 1, 0, none⟩)) ∧ V.cell? ⟨w5.heap.size, 0, none⟩ = some (.int .i64 q1) ∧ V.cell? ⟨w5.heap.size, 1, none⟩ = some (.int .i64 q2) ∧ V.cell? ⟨R, 0, none⟩ = some (.func (.func 146) #[] #[.pointer (some ⟨pc, 0, none⟩), .pointer (some ⟨pl, 0, none⟩)]) ∧ V.cell? ⟨R, 1, none⟩ = some (.func (.func 148) #[] #[.pointer (some ⟨pc, 0, none⟩), .pointer (some ⟨pl, 0, none⟩)]) ∧ V.heap[By]? = some (.cells #[.int .i64 z.1.kind, .int .i64 z.1.v.kind, .float .f64 z.1.v.x, .string z.1.v.s, .bool z.1.v.b, .int .i64 z.1.v.f, .int .i64 z.1.t.kind, .int .i64 z.1.t.op, .float .f64 z.1.t.x, .string z.1.t.s, .bool z.1.t.b, .int .i64 z.1.t.f, .int .i64 z.1.t.ref.a.1, .int .i64 z.1.t.ref.a.2, .bool z.1.t.ref.cf, .bool z.1.t.ref.rf, .int .i64 z.1.t.to.a.1, .int .i64 z.1.t.to.a.2, .bool z.1.t.to.cf, .bool z.1.t.to.rf, .slice z.2 z.1.t.args.length z.1.t.args.length] 51 (0, 0))) := Lib.hid fun V hV => by
       have k : ∀ b, b ≠ R + 1 → ∀ o u, w6.cell? ⟨b, o, none⟩ = some u → V.cell? ⟨b, o, none⟩ = some u := fun b hb o u hu => (World.cell?_of_block (w := w6) (a := ⟨b, o, none⟩) (hV.block b (World.block_lt_of_cell? w6 _ hu) (fun e => hb (by have := Option.some.inj e; omega)))).trans hu
       obtain ⟨y0', y1', _, _⟩ := cells2 (rowX HX6.out HRRW2.out)
       have hb6 := rowX HX6.out HBY.out
       exact ⟨k G (by omega) 0 _ (one_row (rowX HX6.out HRGW.out)).1, k _ hs56 0 _ n0, k _ hs56 1 _ n1, k R (by omega) 0 _ y0', k R (by omega) 1 _ y1', (hV.block By (Array.getElem?_eq_some_iff.1 hb6).1 (fun e => hBm (by have := Option.some.inj e; omega))).trans hb6⟩
      have HCT := Lib.hid (content_any (lines_road (m := R) cols ⟨at_, n, N⟩ pc pl hplt) nT z.1 z.2 z.1.t.args.length w6.drew ⟨HLW.out.xt (HX6.out.trans (Xt.refl w6).drew), by have := HX6.out.size; show R ≤ w6.heap.size; omega⟩ HZA.out.1 (HZA.out.2.xt (HX6.out.trans (Xt.refl w6).drew)) (gvalid_okAs HVZ.out))
      rw [HCG.out, HAG.out] at HCT
      clear n0 n1 x0 x1 y0 y1 cB
      refine region_round (S := fun V => w6.grownBy V (some (R + 1))) (by kernel_rfl) (by kernel_rfl) (fun _ _ h => h) (⟨rfl, rfl, rfl, Nat.le_refl _, fun _ _ _ => rfl⟩ : w6.grownBy w6.drew _) (fun hHeld => ?_)
      refine tkH 0 ?_ ?_ ?_
      rotate_left
      · intro V hSw; obtain ⟨u0, u1, u2, u3, u4, u5⟩ := HF.out V hSw; clear u5; go_simp; first | done | with_reducible rfl
      try simp only [Act.put, nm]
      refine tkH 1 ?_ ?_ ?_
      rotate_left
      · intro V hSw; obtain ⟨u0, u1, u2, u3, u4, u5⟩ := HF.out V hSw; clear u5; go_simp; first | done | with_reducible rfl
      try simp only [Act.put, nm]
      refine tkH 2 ?_ ?_ ?_
      rotate_left
      · intro V hSw; obtain ⟨u0, u1, u2, u3, u4, u5⟩ := HF.out V hSw; clear u5; go_simp; first | done | with_reducible rfl
      try simp only [Act.put, nm]
      refine tkH 3 (.agg #[.int .i64 z.1.kind, .int .i64 z.1.v.kind, .float .f64 z.1.v.x, .string z.1.v.s, .bool z.1.v.b, .int .i64 z.1.v.f, .int .i64 z.1.t.kind, .int .i64 z.1.t.op, .float .f64 z.1.t.x, .string z.1.t.s, .bool z.1.t.b, .int .i64 z.1.t.f, .int .i64 z.1.t.ref.a.1, .int .i64 z.1.t.ref.a.2, .bool z.1.t.ref.cf, .bool z.1.t.ref.rf, .int .i64 z.1.t.to.a.1, .int .i64 z.1.t.to.a.2, .bool z.1.t.to.cf, .bool z.1.t.to.rf, .slice z.2 z.1.t.args.length z.1.t.args.length]) ?_ ?_
      · intro V hSw; exact exec_load_row 51 _ (by rfl) By (by rfl) 51 _ _ _ (HF.out V hSw).2.2.2.2.2 Tryz.underlying51 rfl (by kernel_rfl)
      try simp only [Act.put, nm]
      refine rdH 4 (fun K hK => ?_)
      go_simp
      refine (HCT.out).mono ?_
      rintro e w7 ⟨a2, c2, rfl, hA7, hx7⟩
      have HX7 : Hid (Xt W w7) := (HX6.out.trans (Xt.refl w6).drew).trans hx7
      have HP := Lib.hid (gput_any nT (R + 1 + 1) (R + 1) Mo (q1, q2) (contG cG aG z.1) a2 c2 w7 (HGo.out.xt HX7.out) (contG_ok HOZ.out) (HT.out.xt (HXWW.out.trans HX7.out)) (contG_small HZA.out.1) hA7)
      refine hK.out _ _ (grownBy_two hHeld (hx7.grown (some (R + 1)))) (fun hHeld2 => ?_)
      clear hK K hA7 hx7
      try simp only [Act.put, nm]
      refine rdH 5 (fun K hK => ?_)
      go_simp
      refine (HP.out).mono ?_
      rintro e w8 ⟨zz, rfl, hG8, hg8⟩
      refine hK.out _ _ (grownBy_two hHeld2 hg8) (fun hHeld3 => ?_)
      clear hK K
      refine wpAnyH_done (by kernel_rfl) ?_ _
      have hgW : W.grownBy w8 (some (R + 1)) := grownBy_two (HX7.out.grown (some (R + 1))) hg8
      clear hHeld hHeld2 hHeld3
      gi_wp2_with fail
      refine ⟨⟨hgW.size, fun k o hB hk _ => (hgW.block k (Array.getElem?_eq_some_iff.1 hk).1 (fun e => by have := Option.some.inj e; omega)).trans hk⟩, ⟨⟨hgW.os, hgW.tape, hgW.output, hgW.size, fun k hk => hgW.block k (by omega) (fun e => by have := Option.some.inj e; omega)⟩, KeepsT.of_grown hgW (fun j o e ho => ?_)⟩, ⟨grownBy_two HGr.out hgW, ⟨putTo Mo (q1, q2) (contG cG aG z.1) zz, hG8, ?_⟩, ?_⟩⟩
      · obtain ⟨E, hm, _⟩ := HGo.out.map
        obtain ⟨es, clk, h1, _⟩ := hm
        have e1 := Option.some.inj e
        rw [← e1, h1] at ho
        cases ho
        simp [keptO, ← e1]
      · rw [er_put, List.map_append, List.map_cons, List.map_nil, goAll_snoc, HEo.out]
        simp [tpT, goStep, HQ.out, HZC.out]
      · rw [List.map_append, List.map_cons, List.map_nil, goStop_snoc, HNS.out]
        simp [tpT, HQ.out]
end Go.Proofs.YtdoeejhdenifpaaGreatDoor
/- move, plain: where lines put in or taken out bring cells and areas; a grid that goes such a road. -/
namespace Go.Proofs.YtdoeejhdenifpaaGreatDoor
open Go.RowKit Go.Sort
def vA (x : ArT) : Bool := validB x.a x.b && validB x.c x.d && decide (x.a ≤ x.c) && decide (x.b ≤ x.d)
theorem vA_le {x : ArT} (h : vA x = true) : (1 ≤ x.a ∧ x.a ≤ x.c ∧ x.c ≤ 256) ∧ (1 ≤ x.b ∧ x.b ≤ x.d ∧ x.d ≤ 4096) := by
 unfold vA at h
 simp only [Bool.and_eq_true, decide_eq_true_eq] at h
 have v1 := validB_le h.1.1.1
 have v2 := validB_le h.1.1.2
 omega
theorem validB_of {a b : Int} (h : 1 ≤ a ∧ a ≤ 256 ∧ 1 ≤ b ∧ b ≤ 4096) : validB a b = true := by
 unfold validB; simp; omega
structure RoadV (cG : Ad → Ad × Bool) (aG : ArT → ArT × Bool) : Prop where
 cell : ∀ a, validB a.1 a.2 = true → (cG a).2 = true → validB (cG a).1.1 (cG a).1.2 = true
 area : ∀ x, vA x = true → (aG x).2 = true → vA (aG x).1 = true
end Go.Proofs.YtdoeejhdenifpaaGreatDoor
/- move, plain: formulas and contents that go a road stay valid; what a grid that goes a road has. -/
namespace Go.Proofs.YtdoeejhdenifpaaGreatDoor
open Go.RowKit Go.Sort
theorem refB_self (r : RefT) : refB r r = true := by unfold refB; simp
theorem fault_lost (ins : Bool) : faultT lostT ins = 0 := by cases ins <;> kernel_rfl
theorem made_ref {o : Int} {x : Nat} {s : ByteArray} {b : Bool} {f : Int} {r q r' : RefT} {l : List NodeT} (h : madeB (.mk 5 o x s b f r q l) = true) : l = [] ∧ madeB (.mk 5 o x s b f r' q l) = true := by
 simp only [madeB, Int.reduceEq, if_false, if_true] at *
 simp only [Bool.and_eq_true, alikeB, NodeT.kind, NodeT.op, NodeT.x, NodeT.s, NodeT.b, NodeT.f, NodeT.ref, NodeT.to] at *
 refine ⟨List.length_eq_zero_iff.1 (by have := h.1.2; simp at this; omega), ⟨h.1, ?_⟩⟩
 exact ⟨⟨h.2.1.1, refB_self _⟩, h.2.2⟩
theorem made_area {o : Int} {x : Nat} {s : ByteArray} {b : Bool} {f : Int} {r q r' q' : RefT} {l : List NodeT} (h : madeB (.mk 6 o x s b f r q l) = true) : l = [] ∧ madeB (.mk 6 o x s b f r' q' l) = true := by
 simp only [madeB, Int.reduceEq, if_false, if_true] at *
 simp only [Bool.and_eq_true, alikeB, NodeT.kind, NodeT.op, NodeT.x, NodeT.s, NodeT.b, NodeT.f, NodeT.ref, NodeT.to] at *
 refine ⟨List.length_eq_zero_iff.1 (by have := h.1.2; simp at this; omega), ⟨h.1, ?_⟩⟩
 exact ⟨⟨h.2.1.1, refB_self _⟩, refB_self _⟩
theorem made_args {k o : Int} {x : Nat} {s : ByteArray} {b : Bool} {f : Int} {r q : RefT} {l l' : List NodeT} (hl : l'.length = l.length) (h : madeB (.mk k o x s b f r q l) = true) : madeB (.mk k o x s b f r q l') = true := by
 unfold madeB at *
 simp only [alikeB, NodeT.kind, NodeT.op, NodeT.x, NodeT.s, NodeT.b, NodeT.f, NodeT.ref, NodeT.to, hl] at *
 exact h
mutual
theorem turnT_fault {cG : Ad → Ad × Bool} {aG : ArT → ArT × Bool} (H : RoadV cG aG) : ∀ (t : NodeT) (ins : Bool), faultT t ins = 0 → faultT (turnT cG aG t) ins = 0 ∧ measT (turnT cG aG t) = measT t
 | .mk k o x s b f r q l, ins, h => by
  rw [faultT] at h
  by_cases hm : madeB (.mk k o x s b f r q l) = true
  · rw [if_pos hm] at h
    rw [turnT, turnH]
    by_cases h5 : k = 5
    · subst h5
      rw [if_pos (by rfl)] at h
      obtain ⟨rfl, hm'⟩ := made_ref (r' := ⟨(cG r.a).1, r.cf, r.rf⟩) hm
      rw [if_pos rfl, turnL]
      by_cases ho : (cG r.a).2 = true
      · rw [if_pos ho]
        have hv : validB r.a.1 r.a.2 = true := by
         by_cases hv : validB r.a.1 r.a.2 = true
         · exact hv
         · rw [if_neg hv] at h; omega
        refine ⟨?_, rfl⟩
        rw [faultT, if_pos hm', if_pos (by rfl), if_pos (H.cell _ hv ho), faultL]
      · rw [if_neg ho]
        exact ⟨fault_lost ins, rfl⟩
    · rw [if_neg (by simpa using h5)] at h
      rw [if_neg h5]
      by_cases h6 : k = 6
      · subst h6
        rw [if_pos (by rfl)] at h
        obtain ⟨rfl, hm'⟩ := made_area (r' := ⟨((aG (arOf r q)).1.a, (aG (arOf r q)).1.b), r.cf, r.rf⟩) (q' := ⟨((aG (arOf r q)).1.c, (aG (arOf r q)).1.d), q.cf, q.rf⟩) hm
        rw [if_pos rfl, turnL]
        by_cases ho : (aG (arOf r q)).2 = true
        · rw [if_pos ho]
          have hv : (validB r.a.1 r.a.2 && validB q.a.1 q.a.2 && decide (r.a.1 ≤ q.a.1) && decide (r.a.2 ≤ q.a.2)) = true := by
           by_cases hv : (validB r.a.1 r.a.2 && validB q.a.1 q.a.2 && decide (r.a.1 ≤ q.a.1) && decide (r.a.2 ≤ q.a.2)) = true
           · exact hv
           · rw [if_neg hv] at h; omega
          rw [if_pos hv] at h
          refine ⟨?_, rfl⟩
          have hv' := H.area (arOf r q) hv ho
          rw [faultT, if_pos hm', if_neg (by decide), if_pos (by rfl), if_pos (show (validB _ _ && validB _ _ && decide _ && decide _) = true from hv')]
          cases ins
          · exact h
          · rfl
        · rw [if_neg ho]
          exact ⟨fault_lost ins, rfl⟩
      · rw [if_neg (by simpa using h6)] at h
        rw [if_neg h6]
        have hlen : (turnL cG aG l).length = l.length := turnL_len cG aG l
        have hm' := made_args (l' := turnL cG aG l) hlen hm
        have hL : faultL l (k == 9) = 0 := by
         split at h
         · split at h
           · split at h
             · omega
             · split at h
               · omega
               · exact h
           · omega
         · exact h
        obtain ⟨q1, q2⟩ := turnL_fault H l (k == 9) hL
        constructor
        · rw [faultT, if_pos hm', if_neg (by simpa using h5), if_neg (by simpa using h6), hlen, q1]
          rw [hL] at h
          exact h
        · rw [measT, measT, q2]
  · rw [if_neg hm] at h; omega
theorem turnL_fault {cG : Ad → Ad × Bool} {aG : ArT → ArT × Bool} (H : RoadV cG aG) : ∀ (l : List NodeT) (c : Bool), faultL l c = 0 → faultL (turnL cG aG l) c = 0 ∧ ∀ n d, measL (turnL cG aG l) n d = measL l n d
 | [], _, _ => ⟨by rw [turnL, faultL], fun n d => by rw [turnL]⟩
 | t :: l, c, h => by
  rw [faultL] at h
  split at h
  · rename_i e
    obtain ⟨q1, q2⟩ := turnT_fault H t c e
    obtain ⟨q3, q4⟩ := turnL_fault H l c h
    constructor
    · rw [turnL, faultL, if_pos q1]; exact q3
    · intro n d
      rw [turnL, measL, measL, q2]; exact q4 _ _
  · rename_i e; exact absurd h e
end
theorem turn_check {cG : Ad → Ad × Bool} {aG : ArT → ArT × Bool} (H : RoadV cG aG) {t : NodeT} (h : checkT t = 0) : checkT (turnT cG aG t) = 0 := by
 obtain ⟨q1, q2⟩ := turnT_fault H t false (checkT_zero h)
 unfold checkT at *
 rw [q2, q1]
 split at h
 · omega
 · rename_i e1
   rw [if_neg e1]
   split at h
   · omega
   · rename_i e2
     rw [if_neg e2]
theorem contG_valid {cG : Ad → Ad × Bool} {aG : ArT → ArT × Bool} (H : RoadV cG aG) {c : ContT} (h : gvalidB c = true) : gvalidB (contG cG aG (copyC c)) = true := by
 have h2 : gvalidB (copyC c) = true := (gvalidB_copy c).trans h
 unfold contG
 split
 · rename_i hk
   unfold gvalidB at h2 ⊢
   simp only [hk, Int.reduceBEq, Bool.false_eq_true, if_false, if_true, Bool.and_eq_true] at h2 ⊢
   refine ⟨h2.1, ?_⟩
   have h3 : checkT (copyC c).t = 0 := by simpa using h2.2
   have h4 : checkT (copyT (copyC c).t) = 0 := by
    have : copyT (copyC c).t = (copyC c).t := copyT_idem c.t
    rw [this]; exact h3
   simpa using turn_check H h4
 · exact h2
theorem contG_kind (cG : Ad → Ad × Bool) (aG : ArT → ArT × Bool) (c : ContT) : (contG cG aG c).kind = c.kind := by unfold contG; split <;> rfl
theorem contG_copy (cG : Ad → Ad × Bool) (aG : ArT → ArT × Bool) (c : ContT) : copyC (contG cG aG (copyC c)) = contG cG aG (copyC c) := by
 unfold contG
 split
 · show ContT.mk _ _ _ = ContT.mk _ _ _
   have e1 : copyT (turnT cG aG (copyT (copyC c).t)) = turnT cG aG (copyT (copyC c).t) := by
    rw [← turn_copy, copyT_idem]
   have e2 : ({ (copyC c).v with x := oneX (copyC c).v.x } : ValT) = (copyC c).v := by
    have := copyC_idem c
    exact congrArg ContT.v this
   simp only [e1, e2]
 · exact copyC_idem c
def goP (cG : Ad → Ad × Bool) (aG : ArT → ArT × Bool) (l : PG) : PG := (l.filter fun x => (cG x.1).2).map fun x => ((cG x.1).1, contG cG aG (copyC x.2))
theorem goP_snoc (cG : Ad → Ad × Bool) (aG : ArT → ArT × Bool) (l : PG) (x : Ad × ContT) : goP cG aG (l ++ [x]) = if (cG x.1).2 = true then goP cG aG l ++ [((cG x.1).1, contG cG aG (copyC x.2))] else goP cG aG l := by
 unfold goP
 rw [List.filter_append]
 split <;> simp_all
end Go.Proofs.YtdoeejhdenifpaaGreatDoor
/- quadrillelaw22's small functions; Rows; the iterators of Nodes and Cells. -/
namespace Go.Proofs.YtdoeejhdenifpaaGreatDoor
open Go.RowKit Go.Sort
set_option maxRecDepth 100000 in
theorem at_any (a : Ad) (w : World) : Calls Tryz.prog 14 #[.int .i64 a.1, .int .i64 a.2] w fun e w' => e = .returned (.agg #[.int .i64 a.1, .int .i64 a.2]) ∧ Gr w w' := by
 go_enter Tryz.func14, Tryz.ntmps14
 go_wp2
 (try simp only [Exit.inBlock, Exit.then])
 refine bodyPost_ret (results_cell_row rfl _ _ w.heap.size _ _ _ _ rfl (heap_alloc_new _ _) Tryz.underlying24 rfl (by kernel_rfl)) rfl ?_
 exact ⟨rfl, (Gr.refl _).alloc _⟩
def refT (a : Ad) : NodeT := .mk 5 0 0 ⟨#[]⟩ false 0 ⟨a, false, false⟩ zR []
set_option maxRecDepth 100000 in
set_option maxHeartbeats 2000000 in
theorem ref_any (a : Ad) (w : World) : Calls Tryz.prog 36 #[.agg #[.int .i64 a.1, .int .i64 a.2]] w fun e w' => e = .returned (nodeV (refT a) none 0 0) ∧ Xt w w' := by
 go_enter Tryz.func36, Tryz.ntmps36
 go_wp2
 (try simp only [Exit.inBlock, Exit.then])
 refine bodyPost_ret (results_cell_row rfl _ _ (w.heap.size + 1) _ _ _ _ rfl (by
  have := heap_alloc_new (w.alloc (.cells #[.int .i64 a.1, .int .i64 a.2] 24))
  simpa using this _) Tryz.underlying49 rfl (by kernel_rfl)) rfl ?_
 exact ⟨rfl, ((Xt.refl _).alloc _).alloc _⟩
theorem rows_any (at_ n : Int) (gb mb : Nat) (M : GM) (w : World) (hG : GridIs w gb mb M) (hT : Tabs w) (hO : GOk (er M)) :
    Calls Tryz.prog 33 #[.pointer (some ⟨gb, 0, none⟩), .int .i64 at_, .int .i64 n] w (BrR false at_ n M w) := by
 have HB := Lib.hid (brought_any false at_ n gb mb M w hG hT hO)
 go_enter Tryz.func33, Tryz.ntmps33
 go_wp2_with (first | (go_at_call 73; refine (HB.out).mono ?_; rintro e w1 ⟨hx, (⟨h1, rfl⟩ | ⟨h1, (⟨h2, rfl⟩ | ⟨h2, go, mo, Mo, rfl, h3⟩)⟩)⟩))
 · go_ret2
   exact ⟨hx, Or.inl ⟨h1, rfl⟩⟩
 · go_ret2
   exact ⟨hx, Or.inr ⟨h1, Or.inl ⟨h2, rfl⟩⟩⟩
 · go_ret2
   exact ⟨hx, Or.inr ⟨h1, Or.inr ⟨h2, go, mo, Mo, rfl, h3⟩⟩⟩
def NodesR (t : NodeT) (w : World) (e : Ending) (w' : World) : Prop :=
 ∃ b a' n, e = .returned (.func (.func 77) #[] #[.pointer (some ⟨b, 0, none⟩)]) ∧ w.heap.size ≤ b ∧ w'.heap[b]? = some (.cells (nodeC (copyT t) (.slice a' t.args.length t.args.length)).toArray 49 (0, 0)) ∧
  ArgsIn w' n (.slice a' t.args.length t.args.length) (copyL t.args) ∧ Xt w w'
set_option maxRecDepth 100000 in
set_option maxHeartbeats 2000000 in
theorem nodes_any (n : Nat) (t : NodeT) (a : Option Addr) (cap : Nat) (w : World) (hsm : smallT t) (hin : ArgsIn w n (.slice a t.args.length cap) t.args) :
    Calls Tryz.prog 38 #[nodeV t a t.args.length cap] w (NodesR t w) := by
 obtain ⟨w0, hw0, hg0, hs0, hN⟩ := boxN w t a t.args.length cap 49
 obtain ⟨c0, c1, c2, c3, c4, c5, c6, c7, c8, c9, c10, c11, c12, c13, c14⟩ := hN
 simp only [Nat.zero_add] at c0 c1 c2 c3 c4 c5 c6 c7 c8 c9 c10 c11 c12 c13 c14
 have HC := Lib.hid (fcopyS_any n t a cap w0 hsm (hin.xt hg0.xt))
 have HG0 := Lib.hid hg0
 clear hg0 hsm hin
 go_enter Tryz.func38, Tryz.ntmps38
 go_wp2_with (first | (go_at_call 76; refine (HC.out).mono ?_; rintro e w1 ⟨a', rfl, hS, hx⟩; have HS := Lib.hid hS; have HX := Lib.hid hx; clear hS hx))
 go_ret
 have hx2 : Xt w w1 := HG0.out.xt.trans HX.out
 refine ⟨w1.heap.size, a', n, rfl, hx2.size, ?_, (HS.out.own.args).xt ((Xt.refl _).alloc _), hx2.alloc _⟩
 obtain ⟨k, o, x, s, bb, f, r, q, l⟩ := t
 exact (MapKept.heap_alloc w1 _).1
set_option maxRecDepth 100000 in
theorem cells_any (x : ArT) (w : World) : Calls Tryz.prog 39 #[arT x] w fun e w' => e = .returned (.func (.func 79) #[] #[.pointer (some ⟨w.heap.size, 0, none⟩)]) ∧ w' = w.alloc (.cells #[.int .i64 x.a, .int .i64 x.b, .int .i64 x.c, .int .i64 x.d] 26) := by
 go_enter Tryz.func39, Tryz.ntmps39
 go_wp2
 go_ret
 exact ⟨rfl, rfl⟩
end Go.Proofs.YtdoeejhdenifpaaGreatDoor
/- formula.Nodes' iterator: each goes over a tree's nodes, one behind the other. -/
namespace Go.Proofs.YtdoeejhdenifpaaGreatDoor
open Go.RowKit Go.Sort Go.Maps Go.Shelf
attribute [local go_sem] Oper.semAt_some
def leafN : NodeT → NodeT
 | .mk k o x s b f r q _ => .mk k o x s b f r q []
mutual
def flatT : NodeT → List NodeT
 | .mk k o x s b f r q l => .mk k o x s b f r q [] :: flatL l
def flatL : List NodeT → List NodeT
 | [] => []
 | t :: l => flatT t ++ flatL l
end
theorem flatT_eq (t : NodeT) : flatT t = leafN t :: flatL t.args := by cases t; rw [flatT]; rfl
structure KN (W W' : World) : Prop where
 size : W.heap.size ≤ W'.heap.size
 same : ∀ (k : Nat) (cs : Array Value) (fz : Nat × Nat), W.heap[k]? = some (.cells cs 49 fz) → W'.heap[k]? = some (.cells cs 49 fz)
theorem KN.refl (W : World) : KN W W := ⟨Nat.le_refl _, fun _ _ _ h => h⟩
theorem KN.trans {A B C : World} (h : KN A B) (k : KN B C) : KN A C := ⟨Nat.le_trans h.size k.size, fun b cs fz e => k.same b cs fz (h.same b cs fz e)⟩
theorem KN.of_xt {W W' : World} (h : Xt W W') : KN W W' := ⟨h.size, fun k _ _ e => (h.block k (Array.getElem?_eq_some_iff.1 e).1).trans e⟩
theorem yield_any {m m' l : Nat} {P : Program} {args : Array Value} {W : World} {R : Ending → World → Prop} (h : YieldAt Fence.wide m P l args W R) : YieldAt Fence.wide m' P l args W R :=
 let ⟨fn, tmps, assign, body, hy, hR⟩ := h
 ⟨fn, tmps, assign, body, hy, ⟨hR.1, fun c cs _ => hR.2 c cs (room_wide _)⟩⟩
end Go.Proofs.YtdoeejhdenifpaaGreatDoor
