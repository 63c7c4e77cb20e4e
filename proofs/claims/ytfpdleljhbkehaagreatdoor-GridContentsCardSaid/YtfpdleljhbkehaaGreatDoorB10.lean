import Derived.Test.YtfpdleljhbkehaaGreatDoorW30
import Derived.Test.YtfpdleljhbkehaaGreatDoorB9
namespace Go.Proofs.YtfpdleljhbkehaaGreatDoor
open Go.RowKit Go.Sort Go.Maps Go.Shelf
attribute [local go_sem] Oper.semAt_some

/-! ### some, All, In -/
theorem all1_any (a : Ad) (w : World) : Calls Tryz.prog 61 #[adW a] w fun e w' => e = .returned (.bool true) ∧ Gr w w' := by
  go_enter Tryz.func61, Tryz.ntmps61
  go_wp2
  go_ret
  exact ⟨rfl, (Gr.refl _).alloc _⟩
set_option maxRecDepth 100000 in
theorem some_in (n : Nat) (p : Option Addr) (wv : Value) (hv : ∃ f lb, wv = .func (.func f) #[] lb) (w : World) :
    CallsIn Fence.wide n Tryz.prog 60 #[.pointer p, wv] w fun e w' => e = .returned (.func (.func 94) #[] #[.pointer (some ⟨w.heap.size, 0, none⟩), .pointer (some ⟨w.heap.size + 1, 0, none⟩)]) ∧ w' = (w.alloc (.cells #[.pointer p] 41)).alloc (.cells #[wv] 95) := by
  obtain ⟨f, lb, rfl⟩ := hv
  refine callsIn_of_wp Tryz.func60 rfl trivial ?_ rfl
  simp only [Tryz.ntmps60, List.size_toArray, List.length_cons, List.length_nil, Nat.reduceAdd, Nat.reduceSub, Array.replicate_succ, Array.replicate_zero, List.push_toArray, List.append_toArray, List.nil_append, List.cons_append]
  gi_wp2
  go_ret
  exact ⟨rfl, rfl⟩
set_option maxRecDepth 100000 in
theorem all_in (n : Nat) (hn : 2 ≤ n) (p : Option Addr) (w : World) :
    CallsIn Fence.wide n Tryz.prog 19 #[.pointer p] w fun e w' => e = .returned (.func (.func 94) #[] #[.pointer (some ⟨w.heap.size, 0, none⟩), .pointer (some ⟨w.heap.size + 1, 0, none⟩)]) ∧ w' = (w.alloc (.cells #[.pointer p] 41)).alloc (.cells #[.func (.func 61) #[] #[]] 95) := by
  have h1 : 1 ≤ n := by omega
  have hf : Fence.wide.fn 60 := trivial
  refine callsIn_of_wp Tryz.func19 rfl trivial ?_ rfl
  simp only [Tryz.ntmps19, List.size_toArray, List.length_cons, List.length_nil, Nat.reduceAdd, Nat.reduceSub, Array.replicate_succ, Array.replicate_zero, List.push_toArray, List.append_toArray, List.nil_append, List.cons_append]
  gi_wp2_with (gi_at_call 60; refine (some_in (n - 1) p _ ⟨_, _, rfl⟩ w).mono ?_; rintro e w' ⟨rfl, rfl⟩)
  go_ret
  exact ⟨rfl, rfl⟩
set_option maxRecDepth 100000 in
/-- The world behind In: the area's box, then some's two. -/
theorem gin_in (n : Nat) (hn : 2 ≤ n) (p : Option Addr) (x : Ar) (w : World) :
    CallsIn Fence.wide n Tryz.prog 51 #[.pointer p, .agg #[.int .i64 x.1.1, .int .i64 x.1.2, .int .i64 x.2.1, .int .i64 x.2.2]] w fun e w' => e = .returned (.func (.func 94) #[] #[.pointer (some ⟨w.heap.size + 1, 0, none⟩), .pointer (some ⟨w.heap.size + 2, 0, none⟩)]) ∧
      w' = ((w.alloc (.cells #[.int .i64 x.1.1, .int .i64 x.1.2, .int .i64 x.2.1, .int .i64 x.2.2] 52)).alloc (.cells #[.pointer p] 41)).alloc (.cells #[.func (.func 84) #[] #[.pointer (some ⟨w.heap.size, 0, none⟩)]] 95) := by
  have h1 : 1 ≤ n := by omega
  have hf : Fence.wide.fn 60 := trivial
  refine callsIn_of_wp Tryz.func51 rfl trivial ?_ rfl
  simp only [Tryz.ntmps51, List.size_toArray, List.length_cons, List.length_nil, Nat.reduceAdd, Nat.reduceSub, Array.replicate_succ, Array.replicate_zero, List.push_toArray, List.append_toArray, List.nil_append, List.cons_append]
  gi_wp2_with (gi_at_call 60; refine (some_in (n - 1) p _ ⟨_, _, rfl⟩ _).mono ?_; rintro e w' ⟨rfl, rfl⟩)
  go_ret
  exact ⟨by simp, by simp⟩
/-- A grid's iterator, as the loops' law takes it. -/
theorem some1_stops (A : Nat → Bool) (wf : Nat) (wl : Array Value) (ew : ∀ args w, (callFunc wf args).run Tryz.prog w = .ok (.enter wf args) w) (wb : Ad → Bool) (n₀ : Nat) (w0 : World) (hn0 : n₀ = w0.heap.size) (Wk : World → Prop) (hWk : ∀ W W', Wk W → Below n₀ W W' → KeepsT A W W' → Wk W') (hwant : ∀ (a : Ad) (W : World), Wk W → Calls Tryz.prog wf (#[adW a] ++ wl) W fun e W' => e = .returned (.bool (wb a)) ∧ Gr W W')
    (n : Nat) (hn : 8 ≤ n) (Bg Bw gb mb : Nat) (M : GM) (hG : GridIs w0 gb mb M) (w : World) (hW : Below n₀ w0 w) (hWkW : Wk w) (hBg : Bg < w.heap.size) (hcg : w.cell? ⟨Bg, 0, none⟩ = some (.pointer (some ⟨gb, 0, none⟩))) (hcw : w.heap[Bw]? = some (.cells #[.func (.func wf) #[] wl] 95 (0, 0))) :
    SeqStopsK Fence.wide n Tryz.prog 94 #[.pointer (some ⟨Bg, 0, none⟩), .pointer (some ⟨Bw, 0, none⟩)] teV (fun W W' => Below n₀ W W' ∧ KeepsT A W W') (toldS M wb) (fun _ => True) M.length w := fun l J Jx W hB hJ _ hY h0 =>
  some1_in A wf wl ew wb n₀ w0 hn0 Wk hWk hwant n hn l Bg Bw gb mb M hG J Jx W (hW.trans (hB.mono (by have := hW.size; omega))) (hWk _ _ hWkW (hB.mono (by have := hW.size; omega)) (KeepsT.of_xt hB)) hJ
    ((hB.cell (p := ⟨Bg, 0, none⟩) hBg).trans hcg) ((hB.block _ (Array.getElem?_eq_some_iff.1 hcw).1).trans hcw) (fun pre x W1 hj _ hl => hY pre x W1 hj hl) h0
/-- The same, with what is known of what is told. -/
theorem some1_told (A : Nat → Bool) (wf : Nat) (wl : Array Value) (ew : ∀ args w, (callFunc wf args).run Tryz.prog w = .ok (.enter wf args) w) (wb : Ad → Bool) (n₀ : Nat) (w0 : World) (hn0 : n₀ = w0.heap.size) (Wk : World → Prop) (hWk : ∀ W W', Wk W → Below n₀ W W' → KeepsT A W W' → Wk W') (hwant : ∀ (a : Ad) (W : World), Wk W → Calls Tryz.prog wf (#[adW a] ++ wl) W fun e W' => e = .returned (.bool (wb a)) ∧ Gr W W')
    (n : Nat) (hn : 8 ≤ n) (Bg Bw gb mb : Nat) (M : GM) (hG : GridIs w0 gb mb M) (w : World) (hW : Below n₀ w0 w) (hWkW : Wk w) (hBg : Bg < w.heap.size) (hcg : w.cell? ⟨Bg, 0, none⟩ = some (.pointer (some ⟨gb, 0, none⟩))) (hcw : w.heap[Bw]? = some (.cells #[.func (.func wf) #[] wl] 95 (0, 0))) :
    SeqTold n Tryz.prog 94 #[.pointer (some ⟨Bg, 0, none⟩), .pointer (some ⟨Bw, 0, none⟩)] teV (fun W W' => Below n₀ W W' ∧ KeepsT A W W') toldT (toldS M wb) (fun _ => True) M.length w := fun l J Jx W hB hJ _ hY h0 =>
  some1_in A wf wl ew wb n₀ w0 hn0 Wk hWk hwant n hn l Bg Bw gb mb M hG J Jx W (hW.trans (hB.mono (by have := hW.size; omega))) (hWk _ _ hWkW (hB.mono (by have := hW.size; omega)) (KeepsT.of_xt hB)) hJ
    ((hB.cell (p := ⟨Bg, 0, none⟩) hBg).trans hcg) ((hB.block _ (Array.getElem?_eq_some_iff.1 hcw).1).trans hcw) hY h0
set_option maxRecDepth 100000 in
/-- No grid's. -/
theorem some1_none (α : Type) (encs : α → Array Value) (Kp : World → World → Prop) (n : Nat) (Bg Bw : Nat) (w : World) (hBg : Bg < w.heap.size) (hcg : w.cell? ⟨Bg, 0, none⟩ = some (.pointer none)) :
    SeqStopsK Fence.wide n Tryz.prog 94 #[.pointer (some ⟨Bg, 0, none⟩), .pointer (some ⟨Bw, 0, none⟩)] encs Kp (fun xs => xs = []) (fun _ => False) 0 w := fun l J Jx W hB hJ _ hY h0 => by
  have hc := (hB.cell (p := ⟨Bg, 0, none⟩) hBg).trans hcg
  clear hY hJ hB hcg
  refine callsIn_of_wp Tryz.func94 rfl trivial ?_ rfl
  simp only [Tryz.ntmps94, List.size_toArray, List.length_cons, List.length_nil, Nat.reduceAdd, Nat.reduceSub, Array.replicate_succ, Array.replicate_zero, List.push_toArray, List.append_toArray, List.nil_append, List.cons_append]
  gi_wp2
  refine bodyPost_ret (results_none rfl _ _ _) rfl ?_
  exact ⟨⟨_, rfl⟩, Or.inl ⟨[], rfl, h0⟩⟩
end Go.Proofs.YtfpdleljhbkehaaGreatDoor
namespace Go.Proofs.YtfpdleljhbkehaaGreatDoor
open Go.RowKit Go.Sort Go.Maps Go.Shelf
attribute [local go_sem] Oper.semAt_some

theorem rowCells_own {X Y : World} {row : Option Nat} {B : Nat} {cs : Array Value} {T : TypeId} {fz : Nat × Nat} (h : X.heap[B]? = some (.cells cs T fz)) (hg : X.grownBy Y row) (hr : ∀ r, row = some r → ∃ o : Obj, X.heap[r]? = some o ∧ o.isCells = false) : Y.heap[B]? = some (.cells cs T fz) := by
  refine (hg.block B (Array.getElem?_eq_some_iff.1 h).1 (fun e => ?_)).trans h
  obtain ⟨o, ho, hc⟩ := hr B e.symm
  rw [h] at ho; cases ho; cases hc
/-! ### Bounds -/
def boundsL (l : List Ad) : Ar := l.foldl (fun b k => ((min b.1.1 k.1, min b.1.2 k.2), (max b.2.1 k.1, max b.2.2 k.2))) ((256, 4096), (0, 0))
theorem boundsL_snoc (l : List Ad) (k : Ad) : boundsL (l ++ [k]) = ((min (boundsL l).1.1 k.1, min (boundsL l).1.2 k.2), (max (boundsL l).2.1 k.1, max (boundsL l).2.2 k.2)) := by simp [boundsL]
abbrev arV (x : Ar) : Value := .agg #[.int .i64 x.1.1, .int .i64 x.1.2, .int .i64 x.2.1, .int .i64 x.2.2]
set_option maxRecDepth 100000 in
set_option maxHeartbeats 4000000 in
theorem bounds_any (gb mb : Nat) (M : GM) (w : World) (hG : GridIs w gb mb M) (hne : M ≠ []) : Calls Tryz.prog 24 #[.pointer (some ⟨gb, 0, none⟩)] w fun e w' => e = .returned (.tuple #[arV (boundsL (M.map (·.1))), .bool true]) ∧ Xt w w' := by
  have hlen : ((M.length : Int) == 0) = false := by
    have : 0 < M.length := List.length_pos_iff.2 hne
    simp; exact hne
  obtain ⟨w1, hw1⟩ : ∃ w1, w.alloc (.cells #[.int .i64 0, .int .i64 0, .int .i64 0, .int .i64 0] 52) = w1 := ⟨_, rfl⟩
  have hx1 : Xt w w1 := by rw [← hw1]; exact (Xt.refl w).alloc _
  have HL := Lib.hid (callsIn_wide (n := 19).2 (glen_any gb mb M w1 (hG.xt hx1)))
  refine (callsIn_wide (n := 20)).1 ?_
  have h1 : 1 ≤ 20 := by omega
  have hf1 : Fence.wide.fn 25 := trivial
  have hf2 : Fence.wide.fn 19 := trivial
  refine callsIn_of_wp_marks Tryz.func24 rfl trivial ?_ rfl
  simp only [Tryz.ntmps24, List.size_toArray, List.length_cons, List.length_nil, Nat.reduceAdd, Nat.reduceSub, Array.replicate_succ, Array.replicate_zero, List.push_toArray, List.append_toArray, List.nil_append, List.cons_append]
  gi_wp2_with (first
    | (gi_at_call 25; refine HL.out.mono ?_; rintro e w' ⟨rfl, rfl⟩)
    | (gi_at_call 19; refine (all_in 19 (by omega) _ _).mono ?_; rintro e w' ⟨rfl, rfl⟩))
  obtain ⟨B, hBe⟩ : ∃ B, w1.heap.size = B := ⟨_, rfl⟩
  simp only [hBe]
  obtain ⟨W0, hW0⟩ : ∃ W0, ((w1.alloc (.cells #[.int .i64 256, .int .i64 4096, .int .i64 0, .int .i64 0] 52)).alloc (.cells #[.pointer (some ⟨gb, 0, none⟩)] 41)).alloc (.cells #[.func (.func 61) #[] #[]] 95) = W0 := ⟨_, rfl⟩
  have hsz : W0.heap.size = B + 3 := by rw [← hW0]; simp [hBe]
  have hx0 : Xt w1 W0 := by rw [← hW0]; exact (((Xt.refl w1).alloc _).alloc _).alloc _
  have hr1 : w1.heap[w.heap.size]? = some (.cells #[.int .i64 0, .int .i64 0, .int .i64 0, .int .i64 0] 52 (0, 0)) := by rw [← hw1]; exact (MapKept.heap_alloc w _).1
  have hr0 := (hx0.block _ (Array.getElem?_eq_some_iff.1 hr1).1).trans hr1
  have hb0 : W0.heap[B]? = some (.cells #[.int .i64 256, .int .i64 4096, .int .i64 0, .int .i64 0] 52 (0, 0)) := by
    rw [← hW0, ← hBe]
    have e1 := (MapKept.heap_alloc w1 (.cells #[.int .i64 256, .int .i64 4096, .int .i64 0, .int .i64 0] 52)).1
    have x1 := (((Xt.refl (w1.alloc (.cells #[.int .i64 256, .int .i64 4096, .int .i64 0, .int .i64 0] 52))).alloc (.cells #[.pointer (some ⟨gb, 0, none⟩)] 41)).alloc (.cells #[.func (.func 61) #[] #[]] 95))
    exact (x1.block _ (by simp)).trans e1
  have hcg : W0.cell? ⟨B + 1, 0, none⟩ = some (.pointer (some ⟨gb, 0, none⟩)) := by
    have e2 : W0.heap[B + 1]? = some (.cells #[.pointer (some ⟨gb, 0, none⟩)] 41 (0, 0)) := by
      rw [← hW0, ← hBe]
      have e1 := (MapKept.heap_alloc (w1.alloc (.cells #[.int .i64 256, .int .i64 4096, .int .i64 0, .int .i64 0] 52)) (.cells #[.pointer (some ⟨gb, 0, none⟩)] 41)).1
      have x1 := (Xt.refl ((w1.alloc (.cells #[.int .i64 256, .int .i64 4096, .int .i64 0, .int .i64 0] 52)).alloc (.cells #[.pointer (some ⟨gb, 0, none⟩)] 41))).alloc (.cells #[.func (.func 61) #[] #[]] 95)
      have e3 := (x1.block _ (by simp)).trans e1
      simpa using e3
    simp [World.cell?, e2]
  have hcw : W0.heap[B + 1 + 1]? = some (.cells #[.func (.func 61) #[] #[]] 95 (0, 0)) := by
    rw [← hW0, ← hBe]
    have := World.alloc_heap_new ((w1.alloc (.cells #[.int .i64 256, .int .i64 4096, .int .i64 0, .int .i64 0] 52)).alloc (.cells #[.pointer (some ⟨gb, 0, none⟩)] 41)) (.cells #[.func (.func 61) #[] #[]] 95)
    simpa using this
  have hxW : Xt w W0 := hx1.trans hx0
  have HS1 : Hid (B = w.heap.size + 1) := by have : w1.heap.size = w.heap.size + 1 := (by rw [← hw1]; simp); unfold Hid; omega
  have hwB : w.heap.size < B := by have := HS1.out; omega
  rw [hW0]
  clear hW0 hw1 HL
  refine wpIn_rangeFunc_ownH (F := Fence.wide) rfl (by omega) (gf := 94) (lb := #[.pointer (some ⟨B + 1, 0, none⟩), .pointer (some ⟨B + 1 + 1, 0, none⟩)]) rfl trivial (enters_of Tryz.func94 (by kernel_rfl) rfl)
    (some1_stops (fun _ => false) 61 #[] (enters_of Tryz.func61 (by kernel_rfl) rfl) (fun _ => true) w.heap.size w rfl (fun _ => True) (fun _ _ _ _ _ => trivial) (fun a W _ => all1_any a W) 19 (by omega) (B + 1) (B + 1 + 1) gb mb M hG W0 hxW trivial (by omega) hcg hcw)
    (fun h k => ⟨h.1.trans k.1, h.2.trans k.2⟩) (fun W l o o' hl ho hc hw => ⟨belowK_b (w := W0) (by omega) W l o o' hl ho hc hw, KeepsT.of_grown (grownBy_putObj' W l o') (fun j o2 e h2 => by cases e; rw [ho] at h2; cases h2; cases o <;> simp_all [keptO, Obj.isCells, Obj.isWalk])⟩) (Below.refl _ _) (fun _ => rfl)
    (fun pre W => (W.heap[B]? = some (.cells #[.int .i64 (boundsL (pre.map (·.1))).1.1, .int .i64 (boundsL (pre.map (·.1))).1.2, .int .i64 (boundsL (pre.map (·.1))).2.1, .int .i64 (boundsL (pre.map (·.1))).2.2] 52 (0, 0)) ∧ W.heap[w.heap.size]? = some (.cells #[.int .i64 0, .int .i64 0, .int .i64 0, .int .i64 0] 52 (0, 0))) ∧ Below w.heap.size w W)
    (fun _ _ _ => False)
    (OwnFrom.and (fun s X Y row hs hg hr => ⟨rowCells_own hs.1 hg (fun r e => (hr r e).2), rowCells_own hs.2 hg (fun r e => (hr r e).2)⟩) (ownFrom_below (Nat.le_refl _) (by omega)))
    (fun _ _ _ _ _ hs _ _ => hs)
    ⟨⟨hb0, hr0⟩, hxW⟩
    (fun x a' W => ∃ Bx, W.heap[Bx]? = some (.cells #[.int .i64 x.1.1, .int .i64 x.1.2] 26 (0, 0)) ∧ a' = { tmps := #[.pointer (some ⟨gb, 0, none⟩), undef, .pointer (some ⟨w.heap.size, 0, none⟩), .bool false, .pointer (some ⟨B, 0, none⟩), .pointer (some ⟨Bx, 0, none⟩), .pointer (some ⟨gb, 0, none⟩), .int .i64 M.length, .bool false, undef, .agg #[.int .i64 256, .int .i64 4096], .agg #[.int .i64 256, .int .i64 4096, .int .i64 0, .int .i64 0], .pointer (some ⟨gb, 0, none⟩), .func (.func 94) #[] #[.pointer (some ⟨B + 1, 0, none⟩), .pointer (some ⟨B + 1 + 1, 0, none⟩)], adW x.1, copyCV x.2.1 x.2.2, undef, undef, undef, undef, undef, undef, undef, undef, undef, undef, undef, undef, undef, undef, undef, undef, undef, undef, undef, undef, undef, undef, undef, undef, undef, undef, undef, undef, undef], defers := [] })
    (fun x a' _ X Y row hs hg hr => by
      obtain ⟨Bx, h1, h2⟩ := hs
      exact ⟨Bx, rowCells_own h1 hg (fun r e => (hr r e).2), h2⟩)
    ?assign ?body ?done ?stop
  case assign =>
    rintro l pre x W K ⟨⟨hv, hv2⟩, hB⟩ hK
    gi_wp2
    exact hK _ _ ((KeepsOthers.alloc _ _).from _) ⟨(Below.refl _ W).alloc hB.size _, KeepsT.of_xt ((Xt.refl W).alloc _)⟩ ⟨⟨(Below.heap_alloc W _ _ (Array.getElem?_eq_some_iff.1 hv).1).trans hv, (Below.heap_alloc W _ _ (Array.getElem?_eq_some_iff.1 hv2).1).trans hv2⟩, hB.alloc hB.size _⟩ ⟨W.heap.size, World.alloc_heap_new W _, rfl⟩
  case body =>
    rintro l pre x a' W hl ⟨r, hr⟩ ⟨⟨hv, hv2⟩, hB⟩ ⟨Bx, hBx, rfl⟩ hlt
    have hne : B ≠ Bx := fun e => by have hq := hv; rw [e, hBx] at hq; simp at hq
    have HV := Lib.hid hv
    have HV2 := Lib.hid hv2
    generalize hbl : boundsL (pre.map (·.1)) = bl at hv HV
    have HBL := Lib.hid hbl
    clear hbl
    obtain ⟨⟨b1, b2⟩, b3, b4⟩ := bl
    obtain ⟨x, xc⟩ := x
    have c0 : W.cell? ⟨B, 0, none⟩ = some (.int .i64 b1) := by simp [World.cell?, hv]
    have c1 : W.cell? ⟨B, 1, none⟩ = some (.int .i64 b2) := by simp [World.cell?, hv]
    have c2 : W.cell? ⟨B, 2, none⟩ = some (.int .i64 b3) := by simp [World.cell?, hv]
    have c3 : W.cell? ⟨B, 3, none⟩ = some (.int .i64 b4) := by simp [World.cell?, hv]
    have z : ∀ o, W.frozen? ⟨B, o, none⟩ = false := fun o => by simp [World.frozen?, hv]
    have z0 := z 0
    have z1 := z 1
    have z2 := z 2
    have z3 := z 3
    have d0 : W.cell? ⟨Bx, 0, none⟩ = some (.int .i64 x.1) := by simp [World.cell?, hBx]
    have d1 : W.cell? ⟨Bx, 1, none⟩ = some (.int .i64 x.2) := by simp [World.cell?, hBx]
    clear hv z hBx hv2
    gi_wp2
    have r4 := setCell_row (setCell_row (setCell_row (setCell_row HV.out 0 (.int .i64 (min b1 x.1))) 1 (.int .i64 (min b2 x.2))) 2 (.int .i64 (max b3 x.1))) 3 (.int .i64 (max b4 x.2))
    simp only [List.setIfInBounds_toArray, List.set_cons_zero, List.set_cons_succ] at r4
    have hg4 := grown_set (grown_set (grown_set (grown_set (World.grownBy.refl W (some B)) 0 (.int .i64 (min b1 x.1))) 1 (.int .i64 (min b2 x.2))) 2 (.int .i64 (max b3 x.1))) 3 (.int .i64 (max b4 x.2))
    have hb4 : Below w.heap.size W _ := (Below.refl w.heap.size W).grown hg4 hB.size (fun k e => by cases e; omega)
    refine ⟨KeepsFrom.of_grownBy hg4 (fun j e => by cases e; omega), ⟨hb4, KeepsT.of_grown hg4 (fun j o e ho => by cases e; rw [HV.out] at ho; cases ho; rfl)⟩, ⟨?_, (hg4.block _ (Array.getElem?_eq_some_iff.1 HV2.out).1 (fun e => by cases e; omega)).trans HV2.out⟩, hB.trans hb4⟩
    have hs := boundsL_snoc (pre.map (·.1)) x
    rw [HBL.out] at hs
    simp only [List.map_append, List.map_cons, List.map_nil, hs]
    exact r4
  case done =>
    rintro D xs W hD hS ⟨⟨hv, hv2⟩, hB⟩ hK
    have hkeys : xs.map (·.1) = M.map (·.1) := by
      have := congrArg (List.map (·.1)) hS
      rw [List.filter_eq_self.2 (fun _ _ => rfl)] at this
      simpa [List.map_map, Function.comp_def] using this
    rw [hkeys] at hv
    have c0 : W.cell? ⟨B, 0, none⟩ = some (.int .i64 (boundsL (M.map (·.1))).1.1) := by simp [World.cell?, hv]
    have c1 : W.cell? ⟨B, 1, none⟩ = some (.int .i64 (boundsL (M.map (·.1))).1.2) := by simp [World.cell?, hv]
    have c2 : W.cell? ⟨B, 2, none⟩ = some (.int .i64 (boundsL (M.map (·.1))).2.1) := by simp [World.cell?, hv]
    have c3 : W.cell? ⟨B, 3, none⟩ = some (.int .i64 (boundsL (M.map (·.1))).2.2) := by simp [World.cell?, hv]
    have y0 : W.cell? ⟨w.heap.size, 0, none⟩ = some (.int .i64 0) := by simp [World.cell?, hv2]
    have y1 : W.cell? ⟨w.heap.size, 1, none⟩ = some (.int .i64 0) := by simp [World.cell?, hv2]
    have y2 : W.cell? ⟨w.heap.size, 2, none⟩ = some (.int .i64 0) := by simp [World.cell?, hv2]
    have y3 : W.cell? ⟨w.heap.size, 3, none⟩ = some (.int .i64 0) := by simp [World.cell?, hv2]
    have z : ∀ o, W.frozen? ⟨w.heap.size, o, none⟩ = false := fun o => by simp [World.frozen?, hv2]
    have z0 := z 0
    have z1 := z 1
    have z2 := z 2
    have z3 := z 3
    have HV2 := Lib.hid hv2
    clear z hv hv2 hkeys
    generalize hbl : boundsL (M.map (·.1)) = bl at *
    have HBL := Lib.hid hbl
    clear hbl
    obtain ⟨⟨b1, b2⟩, b3, b4⟩ := bl
    gi_wp2
    have r4 := setCell_row (setCell_row (setCell_row (setCell_row HV2.out 0 (.int .i64 b1)) 1 (.int .i64 b2)) 2 (.int .i64 b3)) 3 (.int .i64 b4)
    simp only [List.setIfInBounds_toArray, List.set_cons_zero, List.set_cons_succ] at r4
    have hg4 := grown_set (grown_set (grown_set (grown_set (World.grownBy.refl W (some w.heap.size)) 0 (.int .i64 b1)) 1 (.int .i64 b2)) 2 (.int .i64 b3)) 3 (.int .i64 b4)
    have hb4 : Below w.heap.size W _ := (Below.refl w.heap.size W).grown hg4 hB.size (fun k e => by cases e; omega)
    generalize World.setCell _ _ _ = W5 at r4 hg4 hb4 ⊢
    have hK5 := (hg4.block D (Array.getElem?_eq_some_iff.1 hK).1 (fun e => by cases e; omega)).trans hK
    refine ⟨by simp, .inl ⟨_, _, rfl, run_takeDeferred hK5, ?_⟩⟩
    have r6 : (W5.putObj D (.deferred none)).heap[w.heap.size]? = some (.cells #[.int .i64 b1, .int .i64 b2, .int .i64 b3, .int .i64 b4] 52 (0, 0)) := (World.putObj_heap_other (by omega)).trans r4
    refine ⟨.tuple #[arV ((b1, b2), (b3, b4)), .bool true], ?_, ?_⟩
    · rw [results_cell_tmp rfl]
      show ((asAddr (.pointer (some ⟨w.heap.size, 0, none⟩))).run _ _).andThen _ = _
      simp only [asAddr, Sem.run_pure, Result.andThen_ok, run_loadVar_row _ _ _ 52 _ _ _ r6 Tryz.underlying52 rfl (by kernel_rfl)]
      rfl
    · rw [HBL.out]
      exact ⟨rfl, (hB.trans hb4).trans (belowK_b (w := w) (Nat.le_refl _) W5 D _ _ (by omega) hK5 rfl rfl)⟩
  case stop =>
    rintro D c pre W hD hS hF
    exact hF.elim
end Go.Proofs.YtfpdleljhbkehaaGreatDoor
namespace Go.Proofs.YtfpdleljhbkehaaGreatDoor
open Go.RowKit Go.Sort

/-! ### Bounds of none; cell, number (made by mkawake.py) -/
set_option maxRecDepth 100000 in
set_option maxHeartbeats 2000000 in
theorem boundsNil_any (w : World) : Calls Tryz.prog 24 #[.pointer none] w fun e w' => e = .returned (.tuple #[arV ((0, 0), (0, 0)), .bool false]) ∧ Xt w w' := by
  obtain ⟨w1, hw1⟩ : ∃ w1, w.alloc (.cells #[.int .i64 0, .int .i64 0, .int .i64 0, .int .i64 0] 52) = w1 := ⟨_, rfl⟩
  have hx1 : Hid (Xt w w1) := by rw [← hw1]; exact (Xt.refl w).alloc _
  have hr1 : w1.heap[w.heap.size]? = some (.cells #[.int .i64 0, .int .i64 0, .int .i64 0, .int .i64 0] 52 (0, 0)) := by rw [← hw1]; exact (MapKept.heap_alloc w _).1
  obtain ⟨w2, hw2⟩ : ∃ w2, w1.setRow w.heap.size #[.int .i64 0, .int .i64 0, .int .i64 0, .int .i64 0] = w2 := ⟨_, rfl⟩
  have hr2 : w2.heap[w.heap.size]? = some (.cells #[.int .i64 0, .int .i64 0, .int .i64 0, .int .i64 0] 52 (0, 0)) := by rw [← hw2]; exact setRow_heap w1 _ _ _ _ _ hr1
  have HX : Hid (Xt w w2) := by rw [← hw2]; exact hx1.out.grownB (setRow_grown _ _ _) (fun m hm => by cases hm; exact Nat.le_refl _)
  have HR1 := Lib.hid hr1
  have HR2 := Lib.hid hr2
  have HW2 := Lib.hid hw2
  clear hr1 hr2 hw2
  go_enter Tryz.func24, Tryz.ntmps24
  go_wp2_with (first
    | (refine (glenNil_any _).mono ?_; rintro e w' ⟨rfl, rfl⟩)
    | (refine wpList_store_row (P := Tryz.prog) rfl 52 _ _ rfl w.heap.size #[.int .i64 0, .int .i64 0, .int .i64 0, .int .i64 0] rfl rfl 52 _ HR1.out (by kernel_rfl) rfl (by simp [Value.oneCell']) ?_; rw [HW2.out]))
  (try simp only [Exit.inBlock, Exit.then])
  refine bodyPost_ret (v := .tuple #[arV ((0, 0), (0, 0)), .bool false]) ?_ rfl ⟨rfl, HX.out⟩
  rw [results_cell_tmp rfl]
  show ((asAddr (.pointer (some ⟨w.heap.size, 0, none⟩))).run _ _).andThen _ = _
  simp only [asAddr, Sem.run_pure, Result.andThen_ok, run_loadVar_row _ _ _ 52 _ _ _ HR2.out Tryz.underlying52 rfl (by kernel_rfl)]
  rfl
set_option maxRecDepth 100000 in
theorem cell_any (a : Ad) (w : World) : Calls Tryz.prog 21 #[.int .i64 a.1, .int .i64 a.2] w fun e w' => e = .returned (adW a) ∧ Gr w w' := by
  go_enter Tryz.func21, Tryz.ntmps21
  go_wp2
  (try simp only [Exit.inBlock, Exit.then])
  refine bodyPost_ret (results_cell_row rfl _ _ w.heap.size _ _ _ _ rfl (heap_alloc_new _ _) Tryz.underlying26 rfl (by kernel_rfl)) rfl ?_
  exact ⟨rfl, (Gr.refl _).alloc _⟩
def numC (x : Nat) : ContT := ⟨1, ⟨1, x, ⟨#[]⟩, false, 0⟩, zeroC.t⟩
set_option maxRecDepth 100000 in
set_option maxHeartbeats 2000000 in
theorem number_any (x : Nat) (w : World) : Calls Tryz.prog 22 #[.float .f64 x] w fun e w' => e = .returned (contV (numC x) none 0 0) ∧ Xt w w' := by
  obtain ⟨w1, hw1⟩ : ∃ w1, w.alloc (.cells #[.int .i64 0, .int .i64 0, .float .f64 0, .string ⟨#[]⟩, .bool false, .int .i64 0, .int .i64 0, .int .i64 0, .float .f64 0, .string ⟨#[]⟩, .bool false, .int .i64 0, .int .i64 0, .int .i64 0, .bool false, .bool false, .int .i64 0, .int .i64 0, .bool false, .bool false, .slice none 0 0] 33) = w1 := ⟨_, rfl⟩
  have hx1 : Hid (Xt w w1) := by rw [← hw1]; exact (Xt.refl w).alloc _
  have hr1 : w1.heap[w.heap.size]? = some (.cells #[.int .i64 0, .int .i64 0, .float .f64 0, .string ⟨#[]⟩, .bool false, .int .i64 0, .int .i64 0, .int .i64 0, .float .f64 0, .string ⟨#[]⟩, .bool false, .int .i64 0, .int .i64 0, .int .i64 0, .bool false, .bool false, .int .i64 0, .int .i64 0, .bool false, .bool false, .slice none 0 0] 33 (0, 0)) := by rw [← hw1]; exact (MapKept.heap_alloc w _).1
  obtain ⟨w2, hw2⟩ : ∃ w2, w1.setRow w.heap.size #[.int .i64 1, .int .i64 1, .float .f64 x, .string ⟨#[]⟩, .bool false, .int .i64 0, .int .i64 0, .int .i64 0, .float .f64 0, .string ⟨#[]⟩, .bool false, .int .i64 0, .int .i64 0, .int .i64 0, .bool false, .bool false, .int .i64 0, .int .i64 0, .bool false, .bool false, .slice none 0 0] = w2 := ⟨_, rfl⟩
  have hr2 : w2.heap[w.heap.size]? = some (.cells #[.int .i64 1, .int .i64 1, .float .f64 x, .string ⟨#[]⟩, .bool false, .int .i64 0, .int .i64 0, .int .i64 0, .float .f64 0, .string ⟨#[]⟩, .bool false, .int .i64 0, .int .i64 0, .int .i64 0, .bool false, .bool false, .int .i64 0, .int .i64 0, .bool false, .bool false, .slice none 0 0] 33 (0, 0)) := by rw [← hw2]; exact setRow_heap w1 _ _ _ _ _ hr1
  have HX : Hid (Xt w w2) := by rw [← hw2]; exact hx1.out.grownB (setRow_grown _ _ _) (fun m hm => by cases hm; exact Nat.le_refl _)
  have HR1 := Lib.hid hr1
  have HR2 := Lib.hid hr2
  have HW2 := Lib.hid hw2
  clear hr1 hr2 hw2
  go_enter Tryz.func22, Tryz.ntmps22
  go_wp2_with (refine wpList_store_row (P := Tryz.prog) rfl 33 _ _ rfl w.heap.size #[.int .i64 1, .int .i64 1, .float .f64 x, .string ⟨#[]⟩, .bool false, .int .i64 0, .int .i64 0, .int .i64 0, .float .f64 0, .string ⟨#[]⟩, .bool false, .int .i64 0, .int .i64 0, .int .i64 0, .bool false, .bool false, .int .i64 0, .int .i64 0, .bool false, .bool false, .slice none 0 0] rfl rfl 33 _ HR1.out (by kernel_rfl) rfl (by simp [Value.oneCell']) ?_; rw [HW2.out])
  (try simp only [Exit.inBlock, Exit.then])
  refine bodyPost_ret (results_cell_row rfl _ _ w.heap.size _ _ _ _ rfl HR2.out Tryz.underlying33 rfl (by kernel_rfl)) rfl ?_
  exact ⟨rfl, HX.out⟩
theorem seven_ok : gvalidB (numC 4619567317775286272) = true := by kernel_rfl
theorem three_no : gvalidB ⟨3, zeroC.v, zeroC.t⟩ = false := by kernel_rfl
theorem one_seven : oneX 4619567317775286272 = 4619567317775286272 := by kernel_rfl
end Go.Proofs.YtfpdleljhbkehaaGreatDoor
