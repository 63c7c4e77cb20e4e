import Derived.RangeFuncNested
import Derived.Test.YtdoeejhdenifpaaGreatDoorW30
import Derived.Deep.RegionHeld
import Derived.RangeFuncCalls
/- A loop over an iterator that tells its rounds something of what it hands them. -/
namespace Go.Proofs.YtdoeejhdenifpaaGreatDoor
open Go.RowKit
section
variable {α : Type} {n : Nat} {P : Program}
def SeqTold (n : Nat) (P : Program) (g : Nat) (lb : Array Value) (encs : α → Array Value) (Kp : World → World → Prop) (T : World → α → World → Prop) (S Sp : List α → Prop) (N : Nat) (w0 : World) : Prop :=
 ∀ (l : Nat) (J Jx : List α → World → Prop) (W : World), Below w0.heap.size w0 W → AbidesFrom W.heap.size J → AbidesFrom W.heap.size Jx →
  (∀ pre x W1, J pre W1 → (∃ V, J pre V ∧ T V x W1) → pre.length < N → YieldAt Fence.wide (n - 1) P l (encs x) W1 fun e W' => (e = .returned (.bool true) ∧ J (pre ++ [x]) W' ∧ Kp W1 W') ∨ (e = .returned (.bool false) ∧ Jx (pre ++ [x]) W')) →
  J [] W →
  CallsIn Fence.wide n P g (#[.func (.yield l) #[] #[]] ++ lb) W fun e W' => (∃ v, e = .returned v) ∧ ((∃ xs, S xs ∧ J xs W') ∨ (∃ pre, Sp pre ∧ Jx pre W'))
structure Books (D : Nat) (L : Loop) (W : World) : Prop where
 loop : W.heap[D + 1]? = some (.loop L)
 late : W.heap[D]? = some (.deferred (some []))
theorem Books.lt {D : Nat} {L : Loop} {W : World} (h : Books D L W) : D + 1 < W.heap.size := (Array.getElem?_eq_some_iff.1 h.loop).1
theorem Books.keep {D : Nat} {L : Loop} {W W' : World} (h : Books D L W) (k : KeepsFrom D W W') : Books D L W' := ⟨k.same _ _ (by omega) h.loop rfl, k.same _ _ (Nat.le_refl _) h.late rfl⟩
theorem Books.turn {D : Nat} {L L' : Loop} {W : World} (h : Books D L W) : Books D L' (W.putObj (D + 1) (.loop L')) := ⟨World.putObj_heap_same h.lt, (World.putObj_heap_other (by omega)).trans h.late⟩
theorem Books.abide {D : Nat} {L : Loop} {W W' : World} {row : Option Nat} (h : Books D L W) (hg : W.grownBy W' row) (hr : ∀ r, row = some r → ∃ o : Obj, W.heap[r]? = some o ∧ o.isWalk = true) : Books D L W' := by
 have key : ∀ (k : Nat) (o : Obj), W.heap[k]? = some o → o.isWalk = false → W'.heap[k]? = some o := fun k o hk ho => by
  refine (hg.block k (Array.getElem?_eq_some_iff.1 hk).1 (fun e => ?_)).trans hk
  obtain ⟨o', ho', hw⟩ := hr k e.symm
  rw [hk] at ho'; cases ho'; rw [ho] at hw; cases hw
 exact ⟨key _ _ h.loop rfl, key _ _ h.late rfl⟩
theorem rangeFunc_told {g : Operand} {ps : Array Tmp} {assign body : Code} {Q : Exit → Act → World → Prop} {a : Act} {w : World} (h1 : 1 ≤ n) {gf : Nat} {lb : Array Value} (hg : a.eval g = .func (.func gf) #[] lb) (eg : ∀ args w, (callFunc gf args).run P w = .ok (.enter gf args) w)
    {encs : α → Array Value} {Kp : World → World → Prop} {T : World → α → World → Prop} {S Sp : List α → Prop} {N : Nat} {w0 : World} (hseq : SeqTold (n - 1) P gf lb encs Kp T S Sp N w0)
    (hKt : ∀ {A B C : World}, Kp A B → Kp B C → Kp A C) (hKb : ∀ (W : World) (l : Nat) (o o' : Obj), w.heap.size ≤ l → W.heap[l]? = some o → o.isCells = false → o.isWalk = false → Kp W (W.putObj l o')) (hb0 : Below w0.heap.size w0 w) (hps : ∀ x, (encs x).size = ps.size)
    (I : List α → World → Prop) (Ix : Code → List α → World → Prop) (hI : OwnFrom w.heap.size I) (hIx : ∀ c, OwnFrom w.heap.size (Ix c)) (h0 : I [] w) (Ax : α → Act → World → Prop) (hAx : ∀ x a', OwnFrom w.heap.size (fun (_ : Unit) W => Ax x a' W))
    (hassign : ∀ (l : Nat) (pre : List α) (x : α) (W : World) (K : Act → World → Prop), I pre W → (∃ V, I pre V ∧ T V x W) → (∀ a' W', KeepsFrom w.heap.size W W' → Kp W W' → I pre W' → Ax x a' W' → K a' W') →
     assign.wpIn (Fence.wide.inRound l) (n - 1 - 1) P (Exit.then K (fun _ _ _ => False)) { tmps := (ps.zip (encs x)).foldl (fun t (p, v) => t.setIfInBounds p v) a.tmps, defers := [] } W)
    (hbody : ∀ (l : Nat) (pre : List α) (x : α) (a' : Act) (W : World), w.heap.size ≤ l → (∃ r, W.heap[l]? = some (.loop r)) → I pre W → Ax x a' W → pre.length < N → body.wpIn (Fence.wide.inRound l) (n - 1 - 1) P (ownPostG w.heap.size Kp I Ix (pre ++ [x]) W) a' W)
    (hdone : ∀ (D : Nat) (xs : List α) (W : World), w.heap.size ≤ D → S xs → I xs W → W.heap[D]? = some (.deferred (some [])) → Q .normal { a with defers := { target := .collected D, args := #[] } :: a.defers } W)
    (hstop : ∀ (D : Nat) (c : Code) (pre : List α) (W : World), w.heap.size ≤ D → Sp pre → Ix c pre W → W.heap[D]? = some (.deferred (some [])) → c.wpIn Fence.wide n P Q { a with defers := { target := .collected D, args := #[] } :: a.defers } W) :
    (Code.rangeFunc g ps assign body).wpIn Fence.wide n P Q a w := by
 refine wpIn_rangeFunc fun fn hfn => ?_
 let L : LoopState → Option Code → Loop := fun st pe => { state := st, pending := pe, fn, tmps := a.tmps, params := ps, assign, body, defers := w.heap.size }
 obtain ⟨V, hV⟩ : ∃ V, (w.alloc (.deferred (some []))).alloc (.loop (L .ready none)) = V := ⟨_, rfl⟩
 have hVB : Books w.heap.size (L .ready none) V := by
  rw [← hV]
  refine ⟨?_, (Below.heap_alloc _ _ _ (by simp)).trans (World.alloc_heap_new w _)⟩
  have := World.alloc_heap_new (w.alloc (.deferred (some []))) (.loop (L .ready none))
  rwa [World.size_alloc] at this
 have hVs : V.heap.size = w.heap.size + 2 := by rw [← hV]; simp
 have hVI : I [] V := by rw [← hV]; exact hI.alloc _ (hI.alloc _ h0)
 have hVb : Below w0.heap.size w0 V := by rw [← hV]; exact hb0.trans ((((Below.refl _ w).alloc (Nat.le_refl _) _).alloc (by simp) _).mono hb0.size)
 refine ⟨w.heap.size + 1, [{ target := .collected w.heap.size, args := #[] }], V, { target := .fn (.func gf) lb, args := #[.func (.yield (w.heap.size + 1)) #[] #[]] }, V, gf, #[.func (.yield (w.heap.size + 1)) #[] #[]] ++ lb, V, ?_, ?_, fun _ _ => trivial, by simp [invoke, go_sem, eg], fun _ => h1, ?_⟩
 · rw [← hV]; exact run_enterLoop_outer _ _ _ _ _
 · simp only [resolve, hg]; simp [go_sem]
 have far : ∀ {A : World} {row : Option Nat}, (∀ r, row = some r → V.heap.size ≤ r ∧ ∃ o : Obj, A.heap[r]? = some o ∧ o.isWalk = true) → ∀ r, row = some r → w.heap.size ≤ r ∧ ∃ o : Obj, A.heap[r]? = some o ∧ o.isCells = false := fun hr r e => by
  obtain ⟨hB, o, ho, hw⟩ := hr r e
  exact ⟨by omega, o, ho, Obj.not_cells_of_walk hw⟩
 refine (hseq (w.heap.size + 1) (fun pre W => I pre W ∧ Books w.heap.size (L .ready none) W) (fun pre W => ∃ c, Ix c pre W ∧ Books w.heap.size (L .done (some c)) W) V hVb
  (fun s A B row hs hg' hr => ⟨hI s A B row hs.1 hg' (far hr), hs.2.abide hg' fun r e => (hr r e).2⟩)
  (fun s A B row hs hg' hr => let ⟨c, hc, hb⟩ := hs; ⟨c, hIx c s A B row hc hg' (far hr), hb.abide hg' fun r e => (hr r e).2⟩) ?_ ⟨hVI, hVB⟩).mono ?_
 · rintro pre x W ⟨hi, hb⟩ ⟨V0, hV0, ht⟩ hlen
   have hy := run_yield (P := P) (args := encs x) hb.loop (hps x)
   refine ⟨fn, _, assign, body, hy, roundIn_of_wpIn hfn (hassign _ pre x W _ hi ⟨V0, hV0.1, ht⟩ ?_)⟩
   intro a' Wa hka hpa hia haa
   have hba := hb.keep hka
   refine ⟨_, run_beginRound hba.loop rfl, ?_⟩
   have hbb : Books w.heap.size { L .ready none with state := .busy } (Wa.putObj (w.heap.size + 1) (.loop { L .ready none with state := .busy })) := hba.turn
   have hpb : Kp Wa (Wa.putObj (w.heap.size + 1) (.loop { L .ready none with state := .busy })) := hKb _ _ _ _ (by omega) hba.loop rfl rfl
   refine wpIn_mono (hbody _ pre x a' _ (by omega) ⟨_, hbb.loop⟩ (hI.putObj _ hia (by omega) hba.loop rfl) ((hAx x a').putObj (s := ()) _ haa (by omega) hba.loop rfl) hlen) ?_
   have out : ∀ (jump : Option Code) (Wz : World), KeepsFrom w.heap.size (Wa.putObj (w.heap.size + 1) (.loop { L .ready none with state := .busy })) Wz →
       (Instr.endRound (w.heap.size + 1) jump).run P Wz = .ok (.bool jump.isNone) (Wz.putObj (w.heap.size + 1) (.loop (L (if jump.isNone then .ready else .done) jump))) ∧ Wz.heap[w.heap.size + 1]? = some (.loop { L .ready none with state := .busy }) ∧ Books w.heap.size (L (if jump.isNone then .ready else .done) jump) (Wz.putObj (w.heap.size + 1) (.loop (L (if jump.isNone then .ready else .done) jump))) := fun jump Wz hkz =>
    have hbz := hbb.keep hkz
    ⟨run_endRound (P := P) jump hbz.loop, hbz.loop, hbz.turn⟩
   have gone : ∀ (c : Code) (Wz : World), KeepsFrom w.heap.size (Wa.putObj (w.heap.size + 1) (.loop { L .ready none with state := .busy })) Wz → Ix c (pre ++ [x]) Wz →
       (Instr.endRound (w.heap.size + 1) (some c)).run P Wz = .ok (.bool false) (Wz.putObj (w.heap.size + 1) (.loop (L .done (some c)))) ∧ ∃ c', Ix c' (pre ++ [x]) (Wz.putObj (w.heap.size + 1) (.loop (L .done (some c)))) ∧ Books w.heap.size (L .done (some c')) (Wz.putObj (w.heap.size + 1) (.loop (L .done (some c)))) := fun c Wz hkz hiz => by
    obtain ⟨q1, q2, q3⟩ := out (some c) Wz hkz
    exact ⟨q1, c, (hIx c).putObj _ hiz (by omega) q2 rfl, q3⟩
   rintro e az Wz hz
   cases e with
   | normal =>
    obtain ⟨hkz, hpz, hiz⟩ := hz
    obtain ⟨q1, q2, q3⟩ := out none Wz hkz
    exact ⟨_, _, q1, .inl ⟨rfl, ⟨hI.putObj _ hiz (by omega) q2 rfl, q3⟩, hKt hpa (hKt (hKt hpb hpz) (hKb _ _ _ _ (by omega) q2 rfl rfl))⟩⟩
   | ret => obtain ⟨q1, q2⟩ := gone .ret Wz hz.1 hz.2; exact ⟨_, _, q1, .inr ⟨rfl, q2⟩⟩
   | exit id => obtain ⟨q1, q2⟩ := gone (.exit id) Wz hz.1 hz.2; exact ⟨_, _, q1, .inr ⟨rfl, q2⟩⟩
   | goto t => obtain ⟨q1, q2⟩ := gone (.goto t) Wz hz.1 hz.2; exact ⟨_, _, q1, .inr ⟨rfl, q2⟩⟩
   | panic ch => exact hz.elim
   | outgrown => exact hz.elim
 · rintro e Wz ⟨⟨v, rfl⟩, (⟨xs, hS, hi, hb⟩ | ⟨pre, hSp, c, hi, hb⟩)⟩
   · exact ⟨none, _, run_endLoop (P := P) hb.loop (by simp [L]), hdone _ xs _ (Nat.le_refl _) hS (hI.putObj _ hi (by omega) hb.loop rfl) ((World.putObj_heap_other (by omega)).trans hb.late)⟩
   · exact ⟨some c, _, run_endLoop (P := P) hb.loop (by simp [L]), hstop _ c pre _ (Nat.le_refl _) hSp ((hIx c).putObj _ hi (by omega) hb.loop rfl) ((World.putObj_heap_other (by omega)).trans hb.late)⟩
end
def noPanic (Q : Exit → Act → World → Prop) : Exit → Act → World → Prop
 | .panic _, _, _ => False
 | e, a, w => Q e a w
theorem noPanic_le {Q : Exit → Act → World → Prop} : ∀ e a w, noPanic Q e a w → Q e a w := fun e a w h => by
 cases e <;> first | exact h | exact h.elim
end Go.Proofs.YtdoeejhdenifpaaGreatDoor
namespace Go.Proofs.YtdoeejhdenifpaaGreatDoor
open Go.RowKit Go.Sort Go.Maps Go.Shelf
attribute [local go_sem] Oper.semAt_some
theorem all1_any (a : Ad) (w : World) : Calls Tryz.prog 75 #[adW a] w fun e w' => e = .returned (.bool true) ∧ Gr w w' := by
 go_enter Tryz.func75, Tryz.ntmps75
 go_wp2
 go_ret
 exact ⟨rfl, (Gr.refl _).alloc _⟩
set_option maxRecDepth 100000 in
theorem some_in (n : Nat) (p : Option Addr) (wv : Value) (hv : ∃ f lb, wv = .func (.func f) #[] lb) (w : World) :
    CallsIn Fence.wide n Tryz.prog 74 #[.pointer p, wv] w fun e w' => e = .returned (.func (.func 116) #[] #[.pointer (some ⟨w.heap.size, 0, none⟩), .pointer (some ⟨w.heap.size + 1, 0, none⟩)]) ∧ w' = (w.alloc (.cells #[.pointer p] 29)).alloc (.cells #[wv] 99) := by
 obtain ⟨f, lb, rfl⟩ := hv
 refine callsIn_of_wp Tryz.func74 rfl trivial ?_ rfl
 simp only [Tryz.ntmps74, List.size_toArray, List.length_cons, List.length_nil, Nat.reduceAdd, Nat.reduceSub, Array.replicate_succ, Array.replicate_zero, List.push_toArray, List.append_toArray, List.nil_append, List.cons_append]
 gi_wp2
 go_ret
 exact ⟨rfl, rfl⟩
set_option maxRecDepth 100000 in
theorem all_in (n : Nat) (hn : 2 ≤ n) (p : Option Addr) (w : World) :
    CallsIn Fence.wide n Tryz.prog 37 #[.pointer p] w fun e w' => e = .returned (.func (.func 116) #[] #[.pointer (some ⟨w.heap.size, 0, none⟩), .pointer (some ⟨w.heap.size + 1, 0, none⟩)]) ∧ w' = (w.alloc (.cells #[.pointer p] 29)).alloc (.cells #[.func (.func 75) #[] #[]] 99) := by
 have h1 : 1 ≤ n := by omega
 have hf : Fence.wide.fn 74 := trivial
 refine callsIn_of_wp Tryz.func37 rfl trivial ?_ rfl
 simp only [Tryz.ntmps37, List.size_toArray, List.length_cons, List.length_nil, Nat.reduceAdd, Nat.reduceSub, Array.replicate_succ, Array.replicate_zero, List.push_toArray, List.append_toArray, List.nil_append, List.cons_append]
 gi_wp2_with (gi_at_call 74; refine (some_in (n - 1) p _ ⟨_, _, rfl⟩ w).mono ?_; rintro e w' ⟨rfl, rfl⟩)
 go_ret
 exact ⟨rfl, rfl⟩
theorem some1_told (A : Nat → Bool) (wf : Nat) (wl : Array Value) (ew : ∀ args w, (callFunc wf args).run Tryz.prog w = .ok (.enter wf args) w) (wb : Ad → Bool) (n₀ : Nat) (w0 : World) (hn0 : n₀ = w0.heap.size) (Wk : World → Prop) (hWk : ∀ W W', Wk W → Below n₀ W W' → KeepsT A W W' → Wk W') (hwant : ∀ (a : Ad) (W : World), Wk W → Calls Tryz.prog wf (#[adW a] ++ wl) W fun e W' => e = .returned (.bool (wb a)) ∧ Gr W W')
    (n : Nat) (hn : 8 ≤ n) (Bg Bw gb mb : Nat) (M : GM) (hG : GridIs w0 gb mb M) (w : World) (hW : Below n₀ w0 w) (hWkW : Wk w) (hBg : Bg < w.heap.size) (hcg : w.cell? ⟨Bg, 0, none⟩ = some (.pointer (some ⟨gb, 0, none⟩))) (hcw : w.heap[Bw]? = some (.cells #[.func (.func wf) #[] wl] 99 (0, 0))) (hA0 : ∀ k, w.heap.size ≤ k → A (2 * k + 1) = false := by intros; rfl) :
    SeqTold n Tryz.prog 116 #[.pointer (some ⟨Bg, 0, none⟩), .pointer (some ⟨Bw, 0, none⟩)] teV (fun W W' => Below n₀ W W' ∧ KeepsT A W W') (toldM M) (toldS M wb) (fun pre => ∃ i, toldS (M.take i) wb pre) M.length w := fun l J Jx W hB hJ _ hY h0 =>
 some1_in A wf wl ew wb n₀ w0 hn0 Wk hWk hwant n hn l Bg Bw gb mb M hG J Jx W (hA0 _ hB.size) (hW.trans (hB.mono (by have := hW.size; omega))) (hWk _ _ hWkW (hB.mono (by have := hW.size; omega)) (KeepsT.of_xt hB)) hJ
  ((hB.cell (p := ⟨Bg, 0, none⟩) hBg).trans hcg) ((hB.block _ (Array.getElem?_eq_some_iff.1 hcw).1).trans hcw) hY h0
end Go.Proofs.YtdoeejhdenifpaaGreatDoor
/- A region that draws its order, in a round of a loop over an iterator: walked as outside of one. -/
namespace Go.Proofs.YtdoeejhdenifpaaGreatDoor
open Go.RowKit
theorem callsIn_round {l n : Nat} {P : Program} {f : FuncId} {args : Array Value} {w : World} {R : Ending → World → Prop} (h : Calls P f args w R) : CallsIn (Fence.wide.inRound l) n P f args w R := CallsIn.inRound l (callsIn_wide.2 h)
theorem rowsIn_round {l n : Nat} {P : Program} {row : String} {args : Array Value} {w : World} {R : Value → World → Prop} (h : Rows P row args w R) : RowsIn (Fence.wide.inRound l) n P row args w R :=
 fun c cs _ => let ⟨v, w', r, s⟩ := h c cs; ⟨v, w', r, stepsIn_wide.2 s⟩
theorem upon_round {l n : Nat} {P : Program} {o : Oper} {a : Act} {K K' : Act → World → Prop} {Q : Exit → Act → World → Prop} (hK : ∀ a w, K a w → K' a w) (r : Result Next) (h : o.upon P a K Q r) : o.uponIn (Fence.wide.inRound l) n P a K' Q r := by
 cases r with
 | ok x w' =>
  cases x with
  | value v => exact hK _ _ h
  | skip => exact hK _ _ h
  | defer d => exact hK _ _ h
  | enter f args =>
   refine ⟨(by intro e; cases e), callsIn_round (Calls.mono h ?_)⟩
   intro e w2 h2
   cases e with
   | returned v => exact hK _ _ h2
   | panicked c => exact h2
   | outgrown => exact h2
  | row row args => exact ⟨(by intro e; cases e), rowsIn_round (Rows.mono h fun _ _ h2 => hK _ _ h2)⟩
  | _ => exact h.elim
 | halt x w' => cases x <;> first | exact h | exact h.elim
theorem opIn_round {l n : Nat} {P : Program} {o : Oper} {a : Act} {w : World} {K K' : Act → World → Prop} {Q : Exit → Act → World → Prop} (hd : ∀ c, o.op ≠ .defer c) (hK : ∀ a w, K a w → K' a w) (h : o.wp P a w K Q) : o.wpIn (Fence.wide.inRound l) n P a w K' Q := by
 refine ⟨fun _ _ => trivial, ?_⟩
 rw [Oper.semAt_eq _ _ _ hd]
 exact upon_round hK _ h
theorem opsIn_round {l n : Nat} {P : Program} {ops : Array Oper} {Q : Exit → Act → World → Prop} (hd : ∀ (i : Nat) (o : Oper), ops[i]? = some o → ∀ c, o.op ≠ .defer c) (hQ : ∀ a w, ¬ Q .outgrown a w) : ∀ (is : List Nat) (a : Act) (w : World), wpOps P ops Q is a w → wpOpsIn (Fence.wide.inRound l) n P ops Q is a w
 | [], _, _, h => h
 | i :: rest, a, w, h => by
  unfold wpOpsIn
  unfold wpOps at h
  split
  · rename_i e; rw [e] at h; exact opsIn_round hd hQ rest a w h
  · rename_i o e
    rw [e] at h
    simp only at h
    split
    · rename_i hw
      rw [if_pos hw] at h
      rcases h with h | ⟨_, a', w', h⟩
      · exact opIn_round (hd i o e) (fun a w h => opsIn_round hd hQ rest a w h) h
      · exact absurd h (hQ a' w')
    · rename_i hw
      rw [if_neg hw] at h
      exact ⟨fun _ _ => trivial, opsIn_round hd hQ rest _ w h⟩
def noDefer (ops : Array Oper) : Bool := ops.all fun o => match o.op with | .defer _ => false | _ => true
theorem noDefer_spec {ops : Array Oper} (h : noDefer ops = true) : ∀ (i : Nat) (o : Oper), ops[i]? = some o → ∀ c, o.op ≠ .defer c := fun i o hi c e => by
 have := Array.all_eq_true_iff_forall_mem.1 h o (Array.mem_of_getElem? hi)
 rw [e] at this
 cases this
theorem region_round {l n id : Nat} {P : Program} {ops : Array Oper} {Q : Exit → Act → World → Prop} {S : World → Prop} {a : Act} {w : World} (hm : P.follows .mixedOrders = true) (hd : noDefer ops = true) (hQ : ∀ a w, ¬ Q .outgrown a w) (hS : S w.drew)
    (h : S w.drew → wpAnyH P .any ops Q S ops.size (Array.replicate ops.size false) a w.drew) : (Code.region id ops true).wpIn (Fence.wide.inRound l) n P Q a w :=
 wpIn_region_draw fun t => by
  simp only [Region.schedule, hm, Bool.true_or, if_true]
  exact opsIn_round (noDefer_spec hd) hQ _ _ _ (wpAny_sound ops.size t _ a _ (wpAny_of_held _ _ _ _ (h hS)))
end Go.Proofs.YtdoeejhdenifpaaGreatDoor
