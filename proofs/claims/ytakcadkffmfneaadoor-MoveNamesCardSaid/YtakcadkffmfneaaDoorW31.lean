import Derived.Test.YtakcadkffmfneaaDoorW30
import Derived.Test.YtakcadkffmfneaaDoorB5
namespace Go.Proofs.YtakcadkffmfneaaDoor
open Go.RowKit Go.Sort Go.Maps Go.Shelf
attribute [local go_sem] Oper.semAt_some

/-! ### some, All, In -/
theorem all1_any (a : Ad) (w : World) : Calls Tryd.prog 20 #[adW a] w fun e w' => e = .returned (.bool true) ∧ Gr w w' := by
  go_enter Tryd.func20, Tryd.ntmps20
  go_wp2
  go_ret
  exact ⟨rfl, (Gr.refl _).alloc _⟩
set_option maxRecDepth 100000 in
theorem some_in (n : Nat) (p : Option Addr) (wv : Value) (hv : ∃ f lb, wv = .func (.func f) #[] lb) (w : World) :
    CallsIn Fence.wide n Tryd.prog 19 #[.pointer p, wv] w fun e w' => e = .returned (.func (.func 34) #[] #[.pointer (some ⟨w.heap.size, 0, none⟩), .pointer (some ⟨w.heap.size + 1, 0, none⟩)]) ∧ w' = (w.alloc (.cells #[.pointer p] 23)).alloc (.cells #[wv] 60) := by
  obtain ⟨f, lb, rfl⟩ := hv
  refine callsIn_of_wp Tryd.func19 rfl trivial ?_ rfl
  simp only [Tryd.ntmps19, List.size_toArray, List.length_cons, List.length_nil, Nat.reduceAdd, Nat.reduceSub, Array.replicate_succ, Array.replicate_zero, List.push_toArray, List.append_toArray, List.nil_append, List.cons_append]
  gi_wp2
  go_ret
  exact ⟨rfl, rfl⟩
set_option maxRecDepth 100000 in
theorem all_in (n : Nat) (hn : 2 ≤ n) (p : Option Addr) (w : World) :
    CallsIn Fence.wide n Tryd.prog 11 #[.pointer p] w fun e w' => e = .returned (.func (.func 34) #[] #[.pointer (some ⟨w.heap.size, 0, none⟩), .pointer (some ⟨w.heap.size + 1, 0, none⟩)]) ∧ w' = (w.alloc (.cells #[.pointer p] 23)).alloc (.cells #[.func (.func 20) #[] #[]] 60) := by
  have h1 : 1 ≤ n := by omega
  have hf : Fence.wide.fn 19 := trivial
  refine callsIn_of_wp Tryd.func11 rfl trivial ?_ rfl
  simp only [Tryd.ntmps11, List.size_toArray, List.length_cons, List.length_nil, Nat.reduceAdd, Nat.reduceSub, Array.replicate_succ, Array.replicate_zero, List.push_toArray, List.append_toArray, List.nil_append, List.cons_append]
  gi_wp2_with (gi_at_call 19; refine (some_in (n - 1) p _ ⟨_, _, rfl⟩ w).mono ?_; rintro e w' ⟨rfl, rfl⟩)
  go_ret
  exact ⟨rfl, rfl⟩
set_option maxRecDepth 100000 in
/-- A grid's iterator, as the loops' law takes it. -/
theorem some1_stops (A : Nat → Bool) (wf : Nat) (wl : Array Value) (ew : ∀ args w, (callFunc wf args).run Tryd.prog w = .ok (.enter wf args) w) (wb : Ad → Bool) (n₀ : Nat) (w0 : World) (hn0 : n₀ = w0.heap.size) (Wk : World → Prop) (hWk : ∀ W W', Wk W → Below n₀ W W' → KeepsT A W W' → Wk W') (hwant : ∀ (a : Ad) (W : World), Wk W → Calls Tryd.prog wf (#[adW a] ++ wl) W fun e W' => e = .returned (.bool (wb a)) ∧ Gr W W')
    (n : Nat) (hn : 8 ≤ n) (Bg Bw gb mb : Nat) (M : GM) (hG : GridIs w0 gb mb M) (w : World) (hW : Below n₀ w0 w) (hWkW : Wk w) (hBg : Bg < w.heap.size) (hcg : w.cell? ⟨Bg, 0, none⟩ = some (.pointer (some ⟨gb, 0, none⟩))) (hcw : w.heap[Bw]? = some (.cells #[.func (.func wf) #[] wl] 60 (0, 0))) (hA0 : ∀ k, w.heap.size ≤ k → A (2 * k + 1) = false := by intros; rfl) :
    SeqStopsK Fence.wide n Tryd.prog 34 #[.pointer (some ⟨Bg, 0, none⟩), .pointer (some ⟨Bw, 0, none⟩)] teV (fun W W' => Below n₀ W W' ∧ KeepsT A W W') (toldS M wb) (fun pre => ∃ i, toldS (M.take i) wb pre) M.length w := fun l J Jx W hB hJ _ hY h0 =>
  some1_in A wf wl ew wb n₀ w0 hn0 Wk hWk hwant n hn l Bg Bw gb mb M hG J Jx W (hA0 _ hB.size) (hW.trans (hB.mono (by have := hW.size; omega))) (hWk _ _ hWkW (hB.mono (by have := hW.size; omega)) (KeepsT.of_xt hB)) hJ
    ((hB.cell (p := ⟨Bg, 0, none⟩) hBg).trans hcg) ((hB.block _ (Array.getElem?_eq_some_iff.1 hcw).1).trans hcw) (fun pre x W1 hj _ hl => hY pre x W1 hj hl) h0
/-- The same, with what is known of what is told. -/
theorem some1_told (A : Nat → Bool) (wf : Nat) (wl : Array Value) (ew : ∀ args w, (callFunc wf args).run Tryd.prog w = .ok (.enter wf args) w) (wb : Ad → Bool) (n₀ : Nat) (w0 : World) (hn0 : n₀ = w0.heap.size) (Wk : World → Prop) (hWk : ∀ W W', Wk W → Below n₀ W W' → KeepsT A W W' → Wk W') (hwant : ∀ (a : Ad) (W : World), Wk W → Calls Tryd.prog wf (#[adW a] ++ wl) W fun e W' => e = .returned (.bool (wb a)) ∧ Gr W W')
    (n : Nat) (hn : 8 ≤ n) (Bg Bw gb mb : Nat) (M : GM) (hG : GridIs w0 gb mb M) (w : World) (hW : Below n₀ w0 w) (hWkW : Wk w) (hBg : Bg < w.heap.size) (hcg : w.cell? ⟨Bg, 0, none⟩ = some (.pointer (some ⟨gb, 0, none⟩))) (hcw : w.heap[Bw]? = some (.cells #[.func (.func wf) #[] wl] 60 (0, 0))) (hA0 : ∀ k, w.heap.size ≤ k → A (2 * k + 1) = false := by intros; rfl) :
    SeqTold n Tryd.prog 34 #[.pointer (some ⟨Bg, 0, none⟩), .pointer (some ⟨Bw, 0, none⟩)] teV (fun W W' => Below n₀ W W' ∧ KeepsT A W W') (toldM M) (toldS M wb) (fun pre => ∃ i, toldS (M.take i) wb pre) M.length w := fun l J Jx W hB hJ _ hY h0 =>
  some1_in A wf wl ew wb n₀ w0 hn0 Wk hWk hwant n hn l Bg Bw gb mb M hG J Jx W (hA0 _ hB.size) (hW.trans (hB.mono (by have := hW.size; omega))) (hWk _ _ hWkW (hB.mono (by have := hW.size; omega)) (KeepsT.of_xt hB)) hJ
    ((hB.cell (p := ⟨Bg, 0, none⟩) hBg).trans hcg) ((hB.block _ (Array.getElem?_eq_some_iff.1 hcw).1).trans hcw) hY h0
set_option maxRecDepth 100000 in
/-- No grid's. -/
theorem some1_none (α : Type) (encs : α → Array Value) (Kp : World → World → Prop) (n : Nat) (Bg Bw : Nat) (w : World) (hBg : Bg < w.heap.size) (hcg : w.cell? ⟨Bg, 0, none⟩ = some (.pointer none)) :
    SeqStopsK Fence.wide n Tryd.prog 34 #[.pointer (some ⟨Bg, 0, none⟩), .pointer (some ⟨Bw, 0, none⟩)] encs Kp (fun xs => xs = []) (fun _ => False) 0 w := fun l J Jx W hB hJ _ hY h0 => by
  have hc := (hB.cell (p := ⟨Bg, 0, none⟩) hBg).trans hcg
  clear hY hJ hB hcg
  refine callsIn_of_wp Tryd.func34 rfl trivial ?_ rfl
  simp only [Tryd.ntmps34, List.size_toArray, List.length_cons, List.length_nil, Nat.reduceAdd, Nat.reduceSub, Array.replicate_succ, Array.replicate_zero, List.push_toArray, List.append_toArray, List.nil_append, List.cons_append]
  gi_wp2
  refine bodyPost_ret (results_none rfl _ _ _) rfl ?_
  exact ⟨⟨_, rfl⟩, Or.inl ⟨[], rfl, h0⟩⟩
end Go.Proofs.YtakcadkffmfneaaDoor
