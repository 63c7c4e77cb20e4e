import Derived.Test.YtideclfpbpjebaaGreatDoorB35
import Derived.Test.YtideclfpbpjebaaGreatDoorB36
import Derived.Test.YtideclfpbpjebaaGreatDoorB34
namespace Go.Proofs.YtideclfpbpjebaaGreatDoor
section
open Go.RowKit Go.Sort Go.Maps Go.Shelf Go.MapKept
attribute [local go_sem] Oper.semAt_some

set_option maxRecDepth 100000 in
theorem equal_none (gb : Nat) (w : World) : Calls Tryz.prog 28 #[.pointer (some ⟨gb, 0, none⟩), .pointer none] w fun e w' => e = .returned (.bool false) ∧ Xt w w' := by
  go_enter Tryz.func28, Tryz.ntmps28
  go_wp2_with fail
  go_quiet (fail)
  go_wp2_with fail
  go_ret
  exact ⟨rfl, Gr.xt ((Gr.refl _).drewN _)⟩
set_option maxRecDepth 100000 in
theorem puts_none (gb : Nat) (w : World) : Calls Tryz.prog 31 #[.pointer (some ⟨gb, 0, none⟩), .pointer none] w fun e w' => e = .returned (.slice none 0 0) ∧ Xt w w' := by
  go_enter Tryz.func31, Tryz.ntmps31
  go_wp2
  all_goals (go_ret; exact ⟨rfl, by first | exact Xt.refl _ | exact (Xt.refl _).alloc _⟩)
set_option maxRecDepth 100000 in
theorem dequal_any (ra rc : Nat) (l k : List PI) (w : World) (h : DG w ra l) (g : DG w rc k) (hok : GOk (pis l)) (gok : GOk (pis k)) :
    Calls Tryz.prog 29 #[.pointer (some ⟨ra, 0, none⟩), .pointer (some ⟨rc, 0, none⟩)] w fun e w' => e = .returned (.bool (((wayP (pis l) (pis k)).length : Int) == 0)) ∧ Xt w w' := by
  have HD := Lib.hid (dputs_any ra rc l k w h g hok gok)
  clear h g hok gok
  go_enter Tryz.func29, Tryz.ntmps29
  go_wp2_with (go_at_call 32; refine HD.out.mono ?_; rintro e w1 ⟨v, l', b0, rfl, hb0, hG, hl, _, hx⟩; obtain ⟨a9, k9, rfl, _, _⟩ := hG.own.slice (n := l'.length) rfl; have HX := Lib.hid hx; have HL := Lib.hid hl; clear hb0 hG hx hl)
  go_ret
  exact ⟨by rw [← HL.out, pis_len]; rfl, HX.out⟩
/-- What was put stays where its owner's copy is written over. -/
theorem GridIs.over {w w1 w2 w3 : World} {gb mb : Nat} {M : GM} {a : Ad} {c : ContT} {x : Option Addr} {S : Nat → Prop} (h : GridIs w gb mb M) (hx1 : Xt w w1) (hg2 : w1.grownBy w2 (some mb)) (h2 : GridIs w2 gb mb (putTo M a c x)) (hl : (putTo M a c x = M ∨ putTo M a c x = delM a M) ∨ putTo M a c x = setM a (copyC c, x) M ∧ locS w1 w2 c x)
    (ho : OvW S w2 w3) (hS : ∀ b, S b → w.heap.size ≤ b ∧ b < w1.heap.size) : GridIs w3 gb mb (putTo M a c x) ∧ w.grownBy w3 (some mb) := by
  have hs1 := hx1.size
  have hs2 := hg2.size
  have hgr : w.grownBy w3 (some mb) := ⟨ho.os.trans (hg2.os.trans hx1.os), ho.tape.trans (hg2.tape.trans hx1.tape), ho.output.trans (hg2.output.trans hx1.output), Nat.le_trans hs1 (Nat.le_trans hs2 ho.size), fun b hb hn => (ho.block b (by omega) (fun hb' => by have := (hS b hb').1; omega)).trans ((hg2.block b (by omega) hn).trans (hx1.block b hb))⟩
  obtain ⟨E, hm, _⟩ := h.map
  have hc : CellsIn w w3 := CellsIn.of_grown hm hgr
  obtain ⟨E2, hm2, he2⟩ := h2.map
  refine ⟨⟨hc _ _ _ h.cell, ⟨E2, hm2.of_heap (ho.block mb hm2.lt (fun hb => by have := (hS mb hb).1; have := h.lt.2; omega)), he2⟩, h2.sorted, fun y hy => ?_, h2.many⟩, hgr⟩
  rcases hl with (e | e) | ⟨e, n, hn⟩
  · rw [e] at hy; exact (h.args y hy).kept hc
  · rw [e] at hy; exact (h.args y (List.mem_filter.1 hy).1).kept hc
  · rw [e] at hy
    rcases mem_setM hy with rfl | hy
    · have h3 := h2.args (a, copyC c, x) (by rw [e]; exact lkM_mem (by rw [lkM_set]; simp))
      refine ⟨h3.1, n, ?_⟩
      have h4 := (hn.keep (S' := fun _ => True) (w' := w3) (fun _ _ _ => trivial) (fun b o hb hlt => World.cell?_of_block (w := w2) (a := ⟨b, o, none⟩) (ho.block b hlt (fun hb' => by have := (hS b hb').2; omega)))).args
      show ArgsIn w3 n (.slice x (copyT c.t).args.length (copyT c.t).args.length) (copyT c.t).args
      rw [copyT_len, copyT_args]
      exact h4
    · exact (h.args y hy).kept hc
structure G5 where
  g : Nat
  m : Nat
  M : GM
  r : Nat
  l : List PI
/-- Two grids, the k-th and the j-th, and the document's. -/
structure St (w0 w : World) (wb gs rs k j : Nat) (p q : G5) : Prop where
  hx : Xt w0 w
  world : w.heap[wb]? = some (Obj.cells #[.slice (some ⟨gs, 0, none⟩) 2 2, .slice (some ⟨rs, 0, none⟩) 2 2] 34 (0, 0))
  grids : ∃ cur : Array Value, w.heap[gs]? = some (Obj.cells cur 25 (0, 0)) ∧ cur.size = 2 ∧ cur[k]? = some (.pointer (some ⟨p.g, 0, none⟩)) ∧ cur[j]? = some (.pointer (some ⟨q.g, 0, none⟩))
  docs : ∃ cur : Array Value, w.heap[rs]? = some (Obj.cells cur 28 (0, 0)) ∧ cur.size = 2 ∧ cur[k]? = some (.pointer (some ⟨p.r, 0, none⟩)) ∧ cur[j]? = some (.pointer (some ⟨q.r, 0, none⟩))
  pa : Pair w p.g p.m p.M p.r p.l
  pb : Pair w q.g q.m q.M q.r q.l
  ne : p.m ≠ q.m ∧ p.r ≠ q.r
  low : w0.heap.size ≤ wb ∧ w0.heap.size ≤ gs ∧ w0.heap.size ≤ rs ∧ w0.heap.size ≤ p.m ∧ w0.heap.size ≤ p.r ∧ w0.heap.size ≤ q.m ∧ w0.heap.size ≤ q.r
section
variable {w0 w : World} {wb gs rs k j : Nat} {p q : G5}
theorem St.swap (h : St w0 w wb gs rs k j p q) : St w0 w wb gs rs j k q p :=
  ⟨h.hx, h.world, let ⟨c, h1, h2, h3, h4⟩ := h.grids; ⟨c, h1, h2, h4, h3⟩, let ⟨c, h1, h2, h3, h4⟩ := h.docs; ⟨c, h1, h2, h4, h3⟩, h.pb, h.pa, ⟨h.ne.1.symm, h.ne.2.symm⟩, let ⟨a, b, c, d, e, f, g⟩ := h.low; ⟨a, b, c, f, g, d, e⟩⟩
theorem St.xt {w' : World} (h : St w0 w wb gs rs k j p q) (hx : Xt w w') : St w0 w' wb gs rs k j p q :=
  ⟨h.hx.trans hx, rowX hx h.world, let ⟨c, h1, h2⟩ := h.grids; ⟨c, rowX hx h1, h2⟩, let ⟨c, h1, h2⟩ := h.docs; ⟨c, rowX hx h1, h2⟩, h.pa.xt hx, h.pb.xt hx, h.ne, h.low⟩
/-- What the walk reads. -/
theorem St.cells (h : St w0 w wb gs rs k j p q) : w.cell? ⟨wb, 0, none⟩ = some (.slice (some ⟨gs, 0, none⟩) 2 2) ∧ w.cell? ⟨wb, 1, none⟩ = some (.slice (some ⟨rs, 0, none⟩) 2 2) ∧ w.cell? ⟨gs, k, none⟩ = some (.pointer (some ⟨p.g, 0, none⟩)) ∧ w.cell? ⟨gs, j, none⟩ = some (.pointer (some ⟨q.g, 0, none⟩)) ∧ w.cell? ⟨rs, k, none⟩ = some (.pointer (some ⟨p.r, 0, none⟩)) ∧ w.cell? ⟨rs, j, none⟩ = some (.pointer (some ⟨q.r, 0, none⟩)) := by
  obtain ⟨c, h1, h2, h3, h4⟩ := h.grids
  obtain ⟨d, g1, g2, g3, g4⟩ := h.docs
  have hw := h.world
  refine ⟨by simp [World.cell?, hw], by simp [World.cell?, hw], by simpa [World.cell?, h1] using h3, by simpa [World.cell?, h1] using h4, by simpa [World.cell?, g1] using g3, by simpa [World.cell?, g1] using g4⟩
/-- Blocks of other kinds. -/
theorem St.apart (h : St w0 w wb gs rs k j p q) {b : Nat} {cur : Array Value} {T : TypeId} (hb : w.heap[b]? = some (Obj.cells cur T (0, 0))) : b ≠ p.m ∧ (T ≠ 31 → b ≠ p.r) := by
  refine ⟨fun e => ?_, fun hT e => ?_⟩
  · obtain ⟨E, ⟨es, clock, hes, _⟩, _⟩ := h.pa.g.map
    rw [e, hes] at hb; cases hb
  · obtain ⟨v, hv, _⟩ := h.pa.r.obj
    rw [e, hv] at hb
    injection hb with hb
    injection hb with h1 h2 h3
    exact hT h2.symm
/-- The first grid has been put into, and its document's. -/
theorem St.put {w1 w2 : World} {M' : GM} {l' : List PI} (h : St w0 w wb gs rs k j p q) (hg1 : w.grownBy w1 (some p.m)) (hD1 : DG w1 p.r p.l) (hg2 : w1.grownBy w2 (some p.r)) (hp : Pair w2 p.g p.m M' p.r l') : St w0 w2 wb gs rs k j { p with M := M', l := l' } q := by
  obtain ⟨l1, l2, l3, l4, l5, l6, l7⟩ := h.low
  have hkeep : ∀ {b : Nat} {cur : Array Value} {T : TypeId}, T ≠ 31 → w.heap[b]? = some (Obj.cells cur T (0, 0)) → w2.heap[b]? = some (Obj.cells cur T (0, 0)) := fun {b cur T} hT hb => by
    obtain ⟨n1, n2⟩ := h.apart hb
    have hlt := (Array.getElem?_eq_some_iff.1 hb).1
    exact (hg2.block b (Nat.lt_of_lt_of_le hlt hg1.size) (fun e => n2 hT (Option.some.inj e))).trans ((hg1.block b hlt (fun e => n1 (Option.some.inj e))).trans hb)
  have hq := h.pb.r.obj
  obtain ⟨v, hv, _⟩ := hq
  obtain ⟨u, hu, _⟩ := h.pa.r.obj
  have n1 : q.r ≠ p.m := (h.apart hv).1
  have n2 : p.r ≠ q.m := (h.swap.apart hu).1
  refine ⟨(h.hx.grownB hg1 (fun m hm => by cases hm; exact l4)).grownB hg2 (fun m hm => by cases hm; exact l5), hkeep (by decide) h.world, h.grids.imp fun c hc => ⟨hkeep (by decide) hc.1, hc.2⟩, h.docs.imp fun c hc => ⟨hkeep (by decide) hc.1, hc.2⟩, hp, ?_, h.ne, h.low⟩
  exact h.pb.beside h.pa hg1 hg2 hD1 ⟨h.ne.1.symm, n1, n2, grid_doc h.pb.g h.pa.r, h.ne.2.symm⟩
end

/-- A step: its put, and the rest. -/
structure OpT where
  on : Int
  kind : Int
  n : Int
  x : PI
  z : Ar
def opC (o : OpT) : List Value := [.int .i64 o.on, .int .i64 o.kind, .int .i64 o.n] ++ inC1 o.x ++ [.int .i64 o.z.1.1, .int .i64 o.z.1.2, .int .i64 o.z.2.1, .int .i64 o.z.2.2]
abbrev opV (o : OpT) : Value := .agg (opC o).toArray
theorem opC_at {w : World} {B : Nat} {o : OpT} (h : w.heap[B]? = some (Obj.cells (opC o).toArray 50 (0, 0))) : (w.cell? ⟨B, 0, none⟩ = some (.int .i64 o.on) ∧ w.cell? ⟨B, 1, none⟩ = some (.int .i64 o.kind) ∧ w.cell? ⟨B, 2, none⟩ = some (.int .i64 o.n) ∧ w.cell? ⟨B, 3, none⟩ = some (.int .i64 o.x.a.1) ∧ w.cell? ⟨B, 4, none⟩ = some (.int .i64 o.x.a.2)) ∧
    (w.cell? ⟨B, 26, none⟩ = some (.int .i64 o.z.1.1) ∧ w.cell? ⟨B, 27, none⟩ = some (.int .i64 o.z.1.2) ∧ w.cell? ⟨B, 28, none⟩ = some (.int .i64 o.z.2.1) ∧ w.cell? ⟨B, 29, none⟩ = some (.int .i64 o.z.2.2)) ∧ w.rangeAt B 5 ((inC1 o.x).drop 2) := by
  have hr : ∀ i u, (opC o)[i]? = some u → w.cell? ⟨B, i, none⟩ = some u := fun i u hu => by simpa [World.cell?, h] using hu
  refine ⟨⟨hr 0 _ rfl, hr 1 _ rfl, hr 2 _ rfl, hr 3 _ rfl, hr 4 _ rfl⟩, ⟨hr 26 _ rfl, hr 27 _ rfl, hr 28 _ rfl, hr 29 _ rfl⟩, fun j u hu => hr (5 + j) u ?_⟩
  have hj : j < 21 := by have := (List.getElem?_eq_some_iff.1 hu).1; simpa [inC1_len] using this
  unfold opC
  rw [List.append_assoc, List.getElem?_append_right (by simp; omega), List.getElem?_append_left (by simp only [List.length_cons, List.length_nil, inC1_len]; omega)]
  rw [List.getElem?_drop] at hu
  rw [← hu]
  congr 1
  simp only [List.length_cons, List.length_nil]
  omega
abbrev rowP (x : PI) : Array Value := ((inC1 x).drop 2).toArray
theorem boxP (w : World) (x : PI) : ∃ wZ wR, w.alloc (.cells #[.int .i64 0, .int .i64 0, .float .f64 0, .string ⟨#[]⟩, .bool false, .int .i64 0, .int .i64 0, .int .i64 0, .float .f64 0, .string ⟨#[]⟩, .bool false, .int .i64 0, .int .i64 0, .int .i64 0, .bool false, .bool false, .int .i64 0, .int .i64 0, .bool false, .bool false, .slice none 0 0] 46) = wZ ∧ wZ.setRow w.heap.size (rowP x) = wR ∧
    Hid (wZ.heap[w.heap.size]? = some (.cells #[.int .i64 0, .int .i64 0, .float .f64 0, .string ⟨#[]⟩, .bool false, .int .i64 0, .int .i64 0, .int .i64 0, .float .f64 0, .string ⟨#[]⟩, .bool false, .int .i64 0, .int .i64 0, .int .i64 0, .bool false, .bool false, .int .i64 0, .int .i64 0, .bool false, .bool false, .slice none 0 0] 46 (0, 0))) ∧ Hid (wR.heap[w.heap.size]? = some (Obj.cells (rowP x) 46 (0, 0))) ∧ Hid (Xt w wR) ∧ wR.heap.size = w.heap.size + 1 := by
  have h1 := (MapKept.heap_alloc w (.cells #[.int .i64 0, .int .i64 0, .float .f64 0, .string ⟨#[]⟩, .bool false, .int .i64 0, .int .i64 0, .int .i64 0, .float .f64 0, .string ⟨#[]⟩, .bool false, .int .i64 0, .int .i64 0, .int .i64 0, .bool false, .bool false, .int .i64 0, .int .i64 0, .bool false, .bool false, .slice none 0 0] 46)).1
  exact ⟨_, _, rfl, rfl, h1, setRow_heap _ _ _ _ _ _ h1, ((Xt.refl w).alloc _).grownB (setRow_grown _ _ _) (fun m hm => by cases hm; exact Nat.le_refl _), by simp⟩
theorem rowC_node {w : World} {B : Nat} {x : PI} (h : w.heap[B]? = some (Obj.cells (rowP x) 46 (0, 0))) : w.rangeAt B 6 (nodeC x.c.t (.slice x.p x.c.t.args.length x.cap)) := fun j u hu => by
  have e : (rowP x)[6 + j]? = some u := by
    rw [List.getElem?_toArray, ← List.getElem?_drop]
    exact hu
  simpa [World.cell?, h] using e
def StepR (w0 : World) (wb gs rs k j : Nat) (e : Ending) (w' : World) : Prop := e = .returned (.bool true) ∧ ∃ p' q', St w0 w' wb gs rs k j p' q'
set_option maxRecDepth 100000 in
set_option maxHeartbeats 400000 in
theorem step_none (w0 w : World) (wb gs rs k j : Nat) (p q : G5) (o : OpT) (h : St w0 w wb gs rs k j p q) (hk : pickZ o.on 2 = (k : Int)) (hkj : k < 2 ∧ j < 2 ∧ k + j = 1) (ho : I64 o.on ∧ I64 o.n)
    (hn : (o.kind == 1) = false ∧ (o.kind == 2) = false ∧ (o.kind == 3) = false ∧ (o.kind == 4) = false ∧ (o.kind == 5) = false ∧ (o.kind == 6) = false ∧ (o.kind == 7) = false ∧ (o.kind == 8) = false) :
    Calls Tryz.prog 7 #[.pointer (some ⟨wb, 0, none⟩), opV o] w (StepR w0 wb gs rs k j) := by
  obtain ⟨n1, n2, n3, n4, n5, n6, n7, n8⟩ := hn
  obtain ⟨w1, hw1⟩ : ∃ w1, w.alloc (.cells (opC o).toArray 50) = w1 := ⟨_, rfl⟩
  have HX1 : Hid (Xt w w1) := by unfold Hid; rw [← hw1]; exact (Xt.refl _).alloc _
  have HR1 : Hid (w1.heap[w.heap.size]? = some (Obj.cells (opC o).toArray 50 (0, 0))) := by unfold Hid; rw [← hw1]; exact (MapKept.heap_alloc w _).1
  have H := Lib.hid (h.xt HX1.out)
  have HP := Lib.hid (pickz_any o.on 2 w1 ho.1.1 ho.1.2 (by omega) (by omega))
  rw [hk] at HP
  obtain ⟨g0, g1, g2, g3, g4, g5⟩ := H.out.cells
  obtain ⟨⟨c0, c1, c2, c3, c4⟩, _⟩ := opC_at HR1.out
  have hk2 : (k : Int) < 2 := by omega
  clear h hk ho
  go_enter Tryz.func7, Tryz.ntmps7
  go_wp2_with (first
    | (go_at_call 17; refine HP.out.mono ?_; rintro e w' ⟨rfl, rfl⟩))
  go_ret
  exact ⟨rfl, p, q, H.out⟩

/-- What lies in rows of fifteen cells does not lie in a block of two. -/
theorem ArgsIn.two {w w' : World} {x : Nat} (hone : ∀ o u, w.cell? ⟨x, o, none⟩ = some u → o ≤ 1) (hk : ∀ b o u, b ≠ x → w.cell? ⟨b, o, none⟩ = some u → w'.cell? ⟨b, o, none⟩ = some u) : ∀ {n : Nat} {av : Value} {l : List NodeT}, ArgsIn w n av l → ArgsIn w' n av l
  | 0, _, _, h => h
  | n + 1, _, l, h => by
    obtain ⟨a, cap, rfl, h1, h2, h3⟩ := h
    refine ⟨a, cap, rfl, h1, h2, fun hne => ?_⟩
    obtain ⟨b, off, rfl, hc⟩ := h3 hne
    have hb : b ≠ x := fun e => by
      cases l with
      | nil => exact hne rfl
      | cons t r =>
        obtain ⟨av', q1, _⟩ := hc 0 t rfl
        have := hone _ _ (e ▸ q1 2 _ rfl)
        omega
    exact ⟨b, off, rfl, fun k t ht => let ⟨av', q1, q2⟩ := hc k t ht; ⟨av', fun i u hu => hk _ _ _ hb (q1 i u hu), q2.two hone hk⟩⟩
theorem PutsIn.two {w w' : World} {x : Nat} {v : Value} {l : List PI} (h : PutsIn w v l) (hone : ∀ o u, w.cell? ⟨x, o, none⟩ = some u → o ≤ 1) (hk : ∀ b o u, b ≠ x → w.cell? ⟨b, o, none⟩ = some u → w'.cell? ⟨b, o, none⟩ = some u) : PutsIn w' v l := by
  refine ⟨?_, fun y hy => let ⟨h1, n, hn⟩ := h.args y hy; ⟨h1, n, hn.two hone hk⟩⟩
  obtain ⟨a, cap, rfl, h1, h2, h3⟩ := h.sl
  refine ⟨a, cap, rfl, h1, h2, fun hne => ?_⟩
  obtain ⟨b, off, rfl, hc⟩ := h3 hne
  have hb : b ≠ x := fun e => by
    cases l with
    | nil => exact hne rfl
    | cons t r =>
      have := hone _ _ (e ▸ hc 0 t rfl 2 _ rfl)
      omega
  exact ⟨b, off, rfl, fun j y hy i u hu => hk _ _ _ hb (hc j y hy i u hu)⟩
theorem Pair.two {w w' : World} {gb mb rb : Nat} {M : GM} {l : List PI} (h : Pair w gb mb M rb l) {x : Nat} (hg : w.grownBy w' (some x)) (hone : ∀ o u, w.cell? ⟨x, o, none⟩ = some u → o ≤ 1) (n1 : x ≠ gb) (n2 : x ≠ mb) (n3 : x ≠ rb) : Pair w' gb mb M rb l := by
  have hk : ∀ b o u, b ≠ x → w.cell? ⟨b, o, none⟩ = some u → w'.cell? ⟨b, o, none⟩ = some u := fun b o u hb hu => (World.cell?_of_block (w := w) (a := ⟨b, o, none⟩) (hg.block b (World.block_lt_of_cell? w _ hu) (fun e => hb (Option.some.inj e)))).trans hu
  have hG := h.g
  obtain ⟨E, hm, he⟩ := hG.map
  obtain ⟨v, hv, hP⟩ := h.r.obj
  exact ⟨⟨hk _ _ _ n1.symm hG.cell, ⟨E, hm.of_heap (hg.block mb hm.lt (fun e => n2 (Option.some.inj e).symm)), he⟩, hG.sorted, fun y hy => ⟨(hG.args y hy).1, let ⟨n, hn⟩ := (hG.args y hy).2; ⟨n, hn.two hone hk⟩⟩, hG.many⟩,
    ⟨⟨v, (hg.block rb h.r.lt (fun e => n3 (Option.some.inj e).symm)).trans hv, hP.two hone hk⟩, h.r.sorted, h.r.many, h.r.small⟩, h.e, h.ok, h.n1, h.n2⟩
theorem two_row {w : World} {x : Nat} {cur : Array Value} {T : TypeId} (h : w.heap[x]? = some (Obj.cells cur T (0, 0))) (hs : cur.size = 2) : ∀ o u, w.cell? ⟨x, o, none⟩ = some u → o ≤ 1 := fun o u hu => by
  have h2 : cur[o]? = some u := by simpa [World.cell?, h] using hu
  have := (Array.getElem?_eq_some_iff.1 h2).1
  omega
theorem frozen_row {w : World} {x : Nat} {cur : Array Value} {T : TypeId} (h : w.heap[x]? = some (Obj.cells cur T (0, 0))) (o : Nat) : w.frozen? ⟨x, o, none⟩ = false := by simp [World.frozen?, h]
section
variable {w0 w : World} {wb gs rs k j : Nat} {p q : G5}
/-- The list of grids is no grid, nor a document's. -/
theorem St.lists (h : St w0 w wb gs rs k j p q) (hkj : k < 2 ∧ j < 2 ∧ k + j = 1) : (gs ≠ p.g ∧ gs ≠ p.m ∧ gs ≠ p.r) ∧ (rs ≠ p.g ∧ rs ≠ p.m ∧ rs ≠ p.r) ∧ gs ≠ rs ∧ gs ≠ wb ∧ rs ≠ wb := by
  obtain ⟨c, h1, h2, _⟩ := h.grids
  obtain ⟨d, k1, k2, _⟩ := h.docs
  obtain ⟨_, _, x2, x3, x4, x5⟩ := h.cells
  have hw := h.world
  have hz : ∃ a, w.cell? ⟨gs, 0, none⟩ = some (.pointer a) := by
    rcases (by omega : k = 0 ∨ j = 0) with e | e
    · exact ⟨_, e ▸ x2⟩
    · exact ⟨_, e ▸ x3⟩
  have hz2 : ∃ a, w.cell? ⟨rs, 0, none⟩ = some (.pointer a) := by
    rcases (by omega : k = 0 ∨ j = 0) with e | e
    · exact ⟨_, e ▸ x4⟩
    · exact ⟨_, e ▸ x5⟩
  obtain ⟨a1, hz⟩ := hz
  obtain ⟨a2, hz2⟩ := hz2
  have hc := h.pa.g.cell
  obtain ⟨y1, y2⟩ := h.apart h1
  obtain ⟨z1, z2⟩ := h.apart k1
  refine ⟨⟨fun e => ?_, y1, y2 (by decide)⟩, ⟨fun e => ?_, z1, z2 (by decide)⟩, fun e => ?_, fun e => ?_, fun e => ?_⟩
  · rw [e, hc] at hz; cases hz
  · rw [e, hc] at hz2; cases hz2
  · rw [e, k1] at h1; injection h1 with h1; injection h1 with _ e2 _; revert e2; decide
  · rw [e, hw] at h1; injection h1 with h1; injection h1 with _ e2 _; revert e2; decide
  · rw [e, hw] at k1; injection k1 with k1; injection k1 with _ e2 _; revert e2; decide
/-- The other one is another grid from now on. -/
theorem St.turn {w1 w2 w3 w4 : World} {g' m' r' : Nat} (h : St w0 w wb gs rs k j p q) (hkj : k < 2 ∧ j < 2 ∧ k + j = 1) (hx1 : Xt w w1) (h1 : GridIs w1 g' m' p.M) (hm : w.heap.size ≤ m') (hgg : w.heap.size ≤ g') (h2 : w1.setCell ⟨gs, j, none⟩ (.pointer (some ⟨g', 0, none⟩)) = w2)
    (hx3 : Xt w2 w3) (h3 : DG w3 r' p.l) (hr : w2.heap.size ≤ r') (h4 : w3.setCell ⟨rs, j, none⟩ (.pointer (some ⟨r', 0, none⟩)) = w4) : St w0 w4 wb gs rs k j p ⟨g', m', p.M, r', p.l⟩ := by
  obtain ⟨⟨a1, a2, a3⟩, ⟨b1, b2, b3⟩, ab, aw, bw⟩ := h.lists hkj
  obtain ⟨l1, l2, l3, l4, l5, l6, l7⟩ := h.low
  obtain ⟨c, c1, c2, c3, c4⟩ := h.grids
  obtain ⟨d, d1, d2, d3, d4⟩ := h.docs
  have hs0 := h.hx.size
  have hs1 := hx1.size
  have hg2 : w1.grownBy w2 (some gs) := by rw [← h2]; exact setCell_grown _ _ _ _
  have hg4 : w3.grownBy w4 (some rs) := by rw [← h4]; exact setCell_grown _ _ _ _
  have hs2 := hg2.size
  have hs3 := hx3.size
  have cl := (Array.getElem?_eq_some_iff.1 c1).1
  have dl := (Array.getElem?_eq_some_iff.1 d1).1
  have wl := (Array.getElem?_eq_some_iff.1 h.world).1
  have c1' := rowX hx1 c1
  have r2 : w2.heap[gs]? = some (Obj.cells (c.setIfInBounds j (.pointer (some ⟨g', 0, none⟩))) 25 (0, 0)) := by rw [← h2]; exact setCell_row c1' j _
  have d3' : w3.heap[rs]? = some (Obj.cells d 28 (0, 0)) := rowX hx3 ((hg2.block rs (by omega) (fun e => ab (Option.some.inj e).symm)).trans (rowX hx1 d1))
  have r4 : w4.heap[rs]? = some (Obj.cells (d.setIfInBounds j (.pointer (some ⟨r', 0, none⟩))) 28 (0, 0)) := by rw [← h4]; exact setCell_row d3' j _
  have hkne : k ≠ j := by omega
  have on1 := two_row c1' c2
  have on3 := two_row d3' d2
  have hP4 := (((h.pa.xt hx1).two hg2 on1 a1 a2 a3).xt hx3).two hg4 on3 b1 b2 b3
  have hG2 : GridIs w2 g' m' p.M := by
    have hk : ∀ b o u, b ≠ gs → w1.cell? ⟨b, o, none⟩ = some u → w2.cell? ⟨b, o, none⟩ = some u := fun b o u hb hu => (World.cell?_of_block (w := w1) (a := ⟨b, o, none⟩) (hg2.block b (World.block_lt_of_cell? w1 _ hu) (fun e => hb (Option.some.inj e)))).trans hu
    obtain ⟨E, hmm, he⟩ := h1.map
    exact ⟨hk _ _ _ (by omega) h1.cell, ⟨E, hmm.of_heap (hg2.block m' hmm.lt (fun e => by have := Option.some.inj e; omega)), he⟩, h1.sorted, fun y hy => ⟨(h1.args y hy).1, let ⟨n, hn⟩ := (h1.args y hy).2; ⟨n, hn.two on1 hk⟩⟩, h1.many⟩
  have hG3 := hG2.xt hx3
  have hlt3 := hG2.lt
  have hQ : Pair w4 g' m' p.M r' p.l := Pair.two (w := w3) ⟨hG3, h3, h.pa.e, h.pa.ok, by omega, by omega⟩ hg4 on3 (by omega) (by omega) (by omega)
  refine ⟨?_, ?_, ⟨_, (hg4.block gs (by omega) (fun e => ab (Option.some.inj e))).trans (rowX hx3 r2), by simpa using c2, ?_, ?_⟩, ⟨_, r4, by simpa using d2, ?_, ?_⟩, hP4, hQ, ⟨?_, ?_⟩, ⟨l1, l2, l3, l4, l5, ?_, ?_⟩⟩
  · exact ((((h.hx.trans hx1).grownB hg2 (fun m hm => by cases hm; exact l2)).trans hx3).grownB hg4 (fun m hm => by cases hm; exact l3))
  · exact (hg4.block wb (by omega) (fun e => bw (Option.some.inj e).symm)).trans (rowX hx3 ((hg2.block wb (by omega) (fun e => aw (Option.some.inj e).symm)).trans (rowX hx1 h.world)))
  · simpa [Array.getElem?_setIfInBounds, Ne.symm hkne] using c3
  · simp [c2, hkj.2.1]
  · simpa [Array.getElem?_setIfInBounds, Ne.symm hkne] using d3
  · simp [d2, hkj.2.1]
  · have := h.pa.g.lt.2; show p.m ≠ m'; omega
  · have := h.pa.r.lt; show p.r ≠ r'; omega
  · show w0.heap.size ≤ m'; omega
  · show w0.heap.size ≤ r'; omega
end
set_option maxRecDepth 100000 in
set_option maxHeartbeats 1000000 in
theorem step_clone (w0 w : World) (wb gs rs k j : Nat) (p q : G5) (o : OpT) (n : Nat) (hT : Tabs w0) (h : St w0 w wb gs rs k j p q) (hk : pickZ o.on 2 = (k : Int)) (hkj : k < 2 ∧ j < 2 ∧ k + j = 1) (ho : I64 o.on ∧ I64 o.n) (hok : o.x.c.ok) (hsm : smallT o.x.c.t) (hin : ArgsIn w n (.slice o.x.p o.x.c.t.args.length o.x.cap) o.x.c.t.args)
    (hn : (o.kind == 1) = false ∧ (o.kind == 2) = false ∧ (o.kind == 3) = false ∧ (o.kind == 4) = false ∧ (o.kind == 5) = true) : Calls Tryz.prog 7 #[.pointer (some ⟨wb, 0, none⟩), opV o] w (StepR w0 wb gs rs k j) := by
  obtain ⟨n1, n2, n3, n4, n5⟩ := hn
  obtain ⟨w1, hw1⟩ : ∃ w1, w.alloc (.cells (opC o).toArray 50) = w1 := ⟨_, rfl⟩
  have HX1 : Hid (Xt w w1) := by unfold Hid; rw [← hw1]; exact (Xt.refl _).alloc _
  have HR1 : Hid (w1.heap[w.heap.size]? = some (Obj.cells (opC o).toArray 50 (0, 0))) := by unfold Hid; rw [← hw1]; exact (MapKept.heap_alloc w _).1
  have H0 := Lib.hid h
  have H := Lib.hid (h.xt HX1.out)
  have HT := Lib.hid (hT.xt h.hx)
  have HOK := Lib.hid hok
  have HSM := Lib.hid hsm
  have HIN := Lib.hid hin
  have HO := Lib.hid ho
  have HKJ := Lib.hid hkj
  have HP := Lib.hid (pickz_any o.on 2 w1 ho.1.1 ho.1.2 (by omega) (by omega))
  rw [hk] at HP
  obtain ⟨g0, g1, g2, g3, g4, g5⟩ := H.out.cells
  obtain ⟨⟨c0, c1, c2, c3, c4⟩, _⟩ := opC_at HR1.out
  have hk2 : (k : Int) < 2 := by omega
  have hj2 : (j : Int) < 2 := by omega
  have hsub : IntKind.i64.wrap (1 - (k : Int)) = (j : Int) := by rw [IntKind.wrap_i64]; omega
  clear h hk ho hT hok hsm hin
  go_enter Tryz.func7, Tryz.ntmps7
  go_upto_region 31 with (first
    | (go_at_call 17; refine HP.out.mono ?_; rintro e w' ⟨rfl, rfl⟩))
  clear HP n1 n2 n3 n4 n5
  have HF : Hid (∀ V, w1.grownBy V (some gs) → V.cell? ⟨wb, 0, none⟩ = some (.slice (some ⟨gs, 0, none⟩) 2 2)) := Lib.hid fun V hV => (World.cell?_of_block (w := w1) (a := ⟨wb, 0, none⟩) (hV.block wb (World.block_lt_of_cell? w1 _ g0) (fun e => (H.out.lists HKJ.out).2.2.2.1 (Option.some.inj e).symm))).trans g0
  have HCL := Lib.hid (gclone_any p.g p.m p.M w1.drew (H.out.pa.g.xt (Xt.refl _).drew))
  refine rg (fun V => w1.grownBy V (some gs)) ((Xt.refl w1).drew.grown _) fun hHeld => ?_
  refine tk HF.out 0 ?_
  refine tk HF.out 1 ?_
  refine tk HF.out 2 ?_
  refine tk HF.out 3 ?_
  refine tk HF.out 4 ?_
  refine tk HF.out 5 ?_
  refine tk HF.out 6 ?_
  refine rdH 7 fun K hK => ?_
  go_simp
  refine HCL.out.mono ?_
  rintro e w2 ⟨g', rfl, hG2, hg', hx2⟩
  have HX2 : Hid (Xt w1 w2) := (Xt.refl w1).drew.trans hx2
  have HG2 := Lib.hid hG2
  refine ko hK (HX2.out.grown _) fun hHe => ?_
  clear hK K hx2 hG2
  refine tk HF.out 8 ?_
  obtain ⟨w3, hw3⟩ : ∃ w3, w2.setCell ⟨gs, j, none⟩ (.pointer (some ⟨g', 0, none⟩)) = w3 := ⟨_, rfl⟩
  have HG3 : Hid (w2.grownBy w3 (some gs)) := by unfold Hid; rw [← hw3]; exact setCell_grown _ _ _ _
  have hcj := HX2.out.cellsIn _ _ _ g3
  obtain ⟨cur, hcur, _⟩ := H.out.grids
  have hfj := frozen_row (rowX HX2.out hcur) j
  refine rdH 9 fun K hK => ?_
  go_simp
  refine ko hK (by exact grownBy_two (HX2.out.grown _) HG3.out) fun hHe2 => ?_
  clear hK K
  refine wpAnyH_done (by kernel_rfl) ?_ _
  clear hHeld hHe hHe2 hcj hfj hcur
  obtain ⟨⟨a1, a2, a3⟩, ⟨b1, b2, b3⟩, hab, haw, hbw⟩ := H.out.lists HKJ.out
  obtain ⟨cg, cg1, cg2, cg3, cg4⟩ := H.out.grids
  obtain ⟨cd, cd1, cd2, _⟩ := H.out.docs
  have HR3 : Hid (w3.heap[gs]? = some (Obj.cells (cg.setIfInBounds j (.pointer (some ⟨g', 0, none⟩))) 25 (0, 0))) := by unfold Hid; rw [← hw3]; exact setCell_row (rowX HX2.out cg1) j _
  have HP3 := Lib.hid ((H.out.pa.xt HX2.out).two HG3.out (two_row (rowX HX2.out cg1) cg2) a1 a2 a3)
  have HRS3 : Hid (w3.heap[rs]? = some (Obj.cells cd 28 (0, 0))) := Lib.hid ((HG3.out.block rs (Nat.lt_of_lt_of_le (Array.getElem?_eq_some_iff.1 cd1).1 HX2.out.size) (fun e => hab (Option.some.inj e).symm)).trans (rowX HX2.out cd1))
  have HWB3 : Hid (w3.heap[wb]? = some (Obj.cells #[.slice (some ⟨gs, 0, none⟩) 2 2, .slice (some ⟨rs, 0, none⟩) 2 2] 34 (0, 0))) := Lib.hid ((HG3.out.block wb (Nat.lt_of_lt_of_le (Array.getElem?_eq_some_iff.1 H.out.world).1 HX2.out.size) (fun e => haw (Option.some.inj e).symm)).trans (rowX HX2.out H.out.world))
  have HF3 : Hid (∀ V, w3.grownBy V (some rs) → V.cell? ⟨wb, 0, none⟩ = some (.slice (some ⟨gs, 0, none⟩) 2 2) ∧ V.cell? ⟨wb, 1, none⟩ = some (.slice (some ⟨rs, 0, none⟩) 2 2)) := Lib.hid fun V hV => by
    have := (hV.block wb (Array.getElem?_eq_some_iff.1 HWB3.out).1 (fun e => hbw (Option.some.inj e).symm)).trans HWB3.out
    exact ⟨by simp [World.cell?, this], by simp [World.cell?, this]⟩
  have HDC := Lib.hid (dclone_any p.r p.l w3.drew (HP3.out.r.xt (Xt.refl _).drew))
  have HABN : Hid (gs ≠ rs) := hab
  clear a1 a2 a3 b1 b2 b3 hab haw hbw cg1 cd1 cg3 cg4 g0 g1 g2 g3 g4 g5
  go_wp2_with fail
  refine rg (fun V => w3.grownBy V (some rs)) ((Xt.refl w3).drew.grown _) fun hHeld => ?_
  refine tk HF3.out 0 ?_
  refine tk HF3.out 1 ?_
  refine tk HF3.out 2 ?_
  refine tk HF3.out 3 ?_
  refine tk HF3.out 4 ?_
  refine tk HF3.out 5 ?_
  refine tk HF3.out 6 ?_
  refine rdH 7 fun K hK => ?_
  go_simp
  refine HDC.out.mono ?_
  rintro e w4 ⟨r', rfl, hD4, hr', hx4⟩
  have HX4 : Hid (Xt w3 w4) := (Xt.refl w3).drew.trans hx4
  have HD4 := Lib.hid hD4
  refine ko hK (HX4.out.grown _) fun hHe => ?_
  clear hK K hx4 hD4
  refine tk HF3.out 8 ?_
  obtain ⟨w5, hw5⟩ : ∃ w5, w4.setCell ⟨rs, j, none⟩ (.pointer (some ⟨r', 0, none⟩)) = w5 := ⟨_, rfl⟩
  have HG5 : Hid (w4.grownBy w5 (some rs)) := by unfold Hid; rw [← hw5]; exact setCell_grown _ _ _ _
  have hfj := frozen_row (rowX HX4.out HRS3.out) j
  have hcj : ∃ u, w4.cell? ⟨rs, j, none⟩ = some u := ⟨cd[j]'(by have := HKJ.out.2.1; omega), by have := rowX HX4.out HRS3.out; simp [World.cell?, this]⟩
  obtain ⟨uj, hcj⟩ := hcj
  refine rdH 9 fun K hK => ?_
  go_simp
  refine ko hK (by exact grownBy_two (HX4.out.grown _) HG5.out) fun hHe2 => ?_
  clear hK K
  refine wpAnyH_done (by kernel_rfl) ?_ _
  have hr5 : w5.heap[gs]? = some (Obj.cells (cg.setIfInBounds j (.pointer (some ⟨g', 0, none⟩))) 25 (0, 0)) := (HG5.out.block gs (Nat.lt_of_lt_of_le (Array.getElem?_eq_some_iff.1 HR3.out).1 HX4.out.size) (fun e => HABN.out (Option.some.inj e))).trans (rowX HX4.out HR3.out)
  have hg5 : w5.cell? ⟨gs, j, none⟩ = some (.pointer (some ⟨g', 0, none⟩)) := by simp [World.cell?, hr5, cg2, HKJ.out.2.1]
  obtain ⟨k0, _⟩ := HF3.out w5 (grownBy_two (HX4.out.grown _) HG5.out)
  have HST := Lib.hid (H0.out.turn HKJ.out (HX1.out.trans HX2.out) HG2.out (show w.heap.size ≤ w1.drew.heap.size from HX1.out.size) (Nat.le_trans HX1.out.size hg') hw3 HX4.out HD4.out hr' hw5)
  clear hr5 hHeld hHe hHe2 hcj hfj hw5
  go_wp2_with fail
  go_ret
  exact ⟨rfl, p, _, HST.out⟩

theorem rowP_one (x : PI) : (rowP x).all (·.oneCell') = true := all_oneCell_toArray fun u hu => inC1_one x u (List.mem_of_mem_drop hu)
set_option maxRecDepth 100000 in
set_option maxHeartbeats 1000000 in
theorem step_put (w0 w : World) (wb gs rs k j : Nat) (p q : G5) (o : OpT) (n : Nat) (hT : Tabs w0) (h : St w0 w wb gs rs k j p q) (hk : pickZ o.on 2 = (k : Int)) (hkj : k < 2 ∧ j < 2 ∧ k + j = 1) (ho : I64 o.on ∧ I64 o.n) (hok : o.x.c.ok) (hsm : smallT o.x.c.t) (hin : ArgsIn w n (.slice o.x.p o.x.c.t.args.length o.x.cap) o.x.c.t.args)
    (hn : (o.kind == 1) = true) : Calls Tryz.prog 7 #[.pointer (some ⟨wb, 0, none⟩), opV o] w (StepR w0 wb gs rs k j) := by
  have n1 := hn
  obtain ⟨w1, hw1⟩ : ∃ w1, w.alloc (.cells (opC o).toArray 50) = w1 := ⟨_, rfl⟩
  have HX1 : Hid (Xt w w1) := by unfold Hid; rw [← hw1]; exact (Xt.refl _).alloc _
  have HR1 : Hid (w1.heap[w.heap.size]? = some (Obj.cells (opC o).toArray 50 (0, 0))) := by unfold Hid; rw [← hw1]; exact (MapKept.heap_alloc w _).1
  have H0 := Lib.hid h
  have H := Lib.hid (h.xt HX1.out)
  have HT := Lib.hid (hT.xt h.hx)
  have HOK := Lib.hid hok
  have HSM := Lib.hid hsm
  have HIN := Lib.hid hin
  have HO := Lib.hid ho
  have HKJ := Lib.hid hkj
  have HP := Lib.hid (pickz_any o.on 2 w1 ho.1.1 ho.1.2 (by omega) (by omega))
  rw [hk] at HP
  obtain ⟨g0, g1, g2, g3, g4, g5⟩ := H.out.cells
  obtain ⟨⟨c0, c1, c2, c3, c4⟩, _⟩ := opC_at HR1.out
  have hk2 : (k : Int) < 2 := by omega
  have hj2 : (j : Int) < 2 := by omega
  have hsub : IntKind.i64.wrap (1 - (k : Int)) = (j : Int) := by rw [IntKind.wrap_i64]; omega
  clear h hk ho hT hok hsm hin
  go_enter Tryz.func7, Tryz.ntmps7
  go_upto_region 6 with (first
    | (go_at_call 17; refine HP.out.mono ?_; rintro e w' ⟨rfl, rfl⟩))
  clear HP n1
  have HRG := Lib.hid (opC_at HR1.out).2.2
  have HOWN := Lib.hid (gown_any n o.x.c o.x.p o.x.cap w1 HSM.out (HIN.out.xt HX1.out))
  go_upto_region 7 with (first
    | (refine wpList_load_mid (P := Tryz.prog) rfl 46 _ rfl w.heap.size 5 rfl ((inC1 o.x).drop 2) _ HRG.out Tryz.underlying46 rfl (by kernel_rfl) ?_; clear HRG)
    | (go_at_call 18; refine HOWN.out.mono ?_; rintro e w2 ⟨a', c', rfl, hO2, hx2⟩; have HX2 := Lib.hid hx2; have HO2 := Lib.hid hO2; obtain ⟨wZ, w3, hwZ, hw3, HRZ, HR3, HX3, hs3⟩ := boxP w2 ⟨o.x.a, o.x.c, a', c'⟩; clear hO2 hx2 HOWN)
    | (refine wpList_store_row (P := Tryz.prog) rfl 46 _ _ rfl w2.heap.size (rowP ⟨o.x.a, o.x.c, a', c'⟩) rfl rfl 46 _ HRZ.out (by kernel_rfl) rfl (rowP_one _) ?_; rw [hw3]))
  obtain ⟨K, hK⟩ : ∃ K, w2.heap.size = K := ⟨_, rfl⟩
  obtain ⟨B, hB⟩ : ∃ B, w.heap.size = B := ⟨_, rfl⟩
  rw [hK] at HR3 hs3
  simp only [hK, hB]
  rw [hB] at HR1
  have hx2s := HX2.out.size
  have hx1s := HX1.out.size
  have hbl : B < w1.heap.size := (Array.getElem?_eq_some_iff.1 HR1.out).1
  have HX13 : Hid (Xt w1 w3) := HX2.out.trans HX3.out
  have H3 := Lib.hid (H.out.xt HX13.out)
  have HRB3 := Lib.hid (rowX HX13.out HR1.out)
  have hpm := H0.out.pa.g.lt.2
  have hpr := H0.out.pa.r.lt
  have HO3 : Hid (OwnIn (fun b => w.heap.size ≤ b) w3 n (.slice a' o.x.c.t.args.length c') o.x.c.t.args) := Lib.hid (HO2.out.keep (fun b hb _ => by omega) (fun b _ hl => HX3.out.block b hl))
  have HPU := Lib.hid (gputS_any n p.g p.m p.M o.x.a o.x.c a' c' w3 H3.out.pa.g HOK.out (HT.out.xt (HX1.out.trans HX13.out)) HSM.out HO3.out.args)
  obtain ⟨⟨d0, d1, d2, d3, d4⟩, _⟩ := opC_at HRB3.out
  obtain ⟨cd, hcd⟩ : ∃ z, codeP (pis p.l) o.x.a o.x.c = z := ⟨_, rfl⟩
  rw [H3.out.pa.code, hcd] at HPU
  have HCD := Lib.hid hcd
  clear hcd c0 c1 c2 c3 c4 g0 g1 g2 g3 g4 g5 hwZ hw3 HRZ
  go_upto_region 8 with (first
    | (refine wpList_load_row (P := Tryz.prog) rfl 46 _ rfl K rfl 46 _ (0, 0) _ HR3.out Tryz.underlying46 rfl (by kernel_rfl) ?_)
    | (go_at_call 10; refine HPU.out.mono ?_; rintro e w4 ⟨ax, rfl, hG4, hg4, hl4⟩; have HG4 := Lib.hid hG4; have HB4 := Lib.hid hg4; have HL4 := Lib.hid hl4; clear hG4 hg4 hl4 HPU))
  have hB3 : B < w3.heap.size := (Array.getElem?_eq_some_iff.1 HRB3.out).1
  have hK3 : K < w3.heap.size := (Array.getElem?_eq_some_iff.1 HR3.out).1
  have HRB4 : Hid (w4.heap[B]? = some (Obj.cells (opC o).toArray 50 (0, 0))) := Lib.hid ((HB4.out.block B hB3 (fun e => by have := Option.some.inj e; omega)).trans HRB3.out)
  have HRK4 : Hid (w4.heap[K]? = some (Obj.cells (rowP ⟨o.x.a, o.x.c, a', c'⟩) 46 (0, 0))) := Lib.hid ((HB4.out.block K hK3 (fun e => by have := Option.some.inj e; omega)).trans HR3.out)
  have HRG4 := Lib.hid (opC_at HRB4.out).2.2
  have hcI : CellsIn w3 w4 := let ⟨E, hm, _⟩ := H3.out.pa.g.map; CellsIn.of_grown hm HB4.out
  have HJ := Lib.hid (just_any (n + n) o.x.c o.x.c a' o.x.p c' o.x.cap w4 (ArgsIn.upQ (Nat.le_add_right _ _) (HO3.out.args.kept hcI)) (ArgsIn.upQ (Nat.le_add_left _ _) ((HIN.out.xt (HX1.out.trans HX13.out)).kept hcI)))
  rw [show eqCB o.x.c o.x.c = true from (eqCB_iff _ _).2 rfl] at HJ
  clear hcI d0 d1 d2 d3 d4
  go_upto_region 9 with (first
    | (refine wpList_load_row (P := Tryz.prog) rfl 46 _ rfl K rfl 46 _ (0, 0) _ HRK4.out Tryz.underlying46 rfl (by kernel_rfl) ?_)
    | (refine wpList_load_mid (P := Tryz.prog) rfl 46 _ rfl B 5 rfl ((inC1 o.x).drop 2) _ HRG4.out Tryz.underlying46 rfl (by kernel_rfl) ?_; clear HRG4)
    | (go_at_call 19; refine HJ.out.mono ?_; rintro e w5 ⟨rfl, hg5⟩; have HX5 : Hid (Xt w4 w5) := Lib.hid hg5.xt; clear hg5 HJ))
  have hs4 := HB4.out.size
  have hs5 := HX5.out.size
  have HRK5 := Lib.hid (rowX HX5.out HRK4.out)
  have HRB5 := Lib.hid (rowX HX5.out HRB4.out)
  have HRN5 := Lib.hid (rowC_node HRK5.out)
  have hB35 : w3.grownBy w5 (some p.m) := grownBy_far HB4.out HX5.out.grownN (fun r e => by cases e)
  have HB35 := Lib.hid hB35
  have hO5 : OwnIn (fun b => (w.heap.size ≤ b ∧ b < w3.heap.size) ∧ ∃ cur : Array Value, w5.heap[b]? = some (Obj.cells cur 44 (0, 0))) w5 n (.slice a' o.x.c.t.args.length c') o.x.c.t.args := by
    have h3 := HO3.out.rows
    have hk : ∀ b, (w.heap.size ≤ b ∧ ∃ cur : Array Value, w3.heap[b]? = some (Obj.cells cur 44 (0, 0))) → b < w3.heap.size → w5.heap[b]? = w3.heap[b]? := fun b hb hl => HB35.out.block b hl (fun e => by have := Option.some.inj e; have := hb.1; omega)
    exact h3.keep (fun b hb hl => ⟨⟨hb.1, hl⟩, by rw [hk b hb hl]; exact hb.2⟩) (fun b hb hl => hk b hb hl)
  have HOV := Lib.hid (over_any n (fun b => (w.heap.size ≤ b ∧ b < w3.heap.size) ∧ ∃ cur : Array Value, w5.heap[b]? = some (Obj.cells cur 44 (0, 0))) o.x.c.t a' o.x.c.t.args.length c' w5 (fun b hb => let ⟨_, hc⟩ := hb.2; (Array.getElem?_eq_some_iff.1 hc).1) (OwnIn.ov (smallT_args HSM.out) hO5))
  clear hO5 hB35
  go_upto_region 10 with (first
    | (refine wpList_load_mid (P := Tryz.prog) rfl 44 _ rfl K 6 rfl (nodeC o.x.c.t (.slice a' o.x.c.t.args.length c')) _ HRN5.out Tryz.underlying44 rfl (by kernel_rfl) ?_; clear HRN5)
    | (go_at_call 20; refine HOV.out.mono ?_; rintro e w6 ⟨rfl, hw6⟩; have HW6 := Lib.hid hw6; clear hw6 HOV))
  have HS6 : Hid (∀ b, ((w.heap.size ≤ b ∧ b < w3.heap.size) ∧ ∃ cur : Array Value, w5.heap[b]? = some (Obj.cells cur 44 (0, 0))) → ∃ cur : Array Value, w5.heap[b]? = some (Obj.cells cur 44 (0, 0))) := Lib.hid fun b hb => hb.2
  have HRB6 : Hid (w6.heap[B]? = some (Obj.cells (opC o).toArray 50 (0, 0))) := Lib.hid (HW6.out.kept HRB5.out (fun _ _ e => by cases e) HS6.out)
  have hov := GridIs.over H0.out.pa.g (HX1.out.trans HX13.out) HB35.out (HG4.out.xt HX5.out) (HL4.out.imp id fun e => ⟨e.1, e.2.imp fun m hm => hm.kept HX5.out.cellsIn⟩) HW6.out (fun b hb => hb.1)
  have HG6 := Lib.hid hov.1
  have HB6 := Lib.hid hov.2
  have HD6 := Lib.hid (H0.out.pa.r.byMap H0.out.pa.g HB6.out H0.out.pa.n1)
  have hcI6 : CellsIn w w6 := let ⟨E, hm, _⟩ := H0.out.pa.g.map; CellsIn.of_grown hm HB6.out
  have HDP := Lib.hid (dput_any n p.r p.l o.x.a o.x.c o.x.p o.x.cap w6 HD6.out HOK.out HSM.out (HIN.out.kept hcI6))
  unfold DPutR at HDP
  rw [HCD.out] at HDP
  obtain ⟨⟨d0, d1, d2, d3, d4⟩, _, hrg6⟩ := opC_at HRB6.out
  have HRG6 := Lib.hid hrg6
  clear hov hcI6 hrg6
  go_wp2_with (first
    | (refine BigFrame.wpList_want (by rfl) (fun K hK => wp_load_mid 46 _ rfl B 5 rfl ((inC1 o.x).drop 2) _ HRG6.out Tryz.underlying46 rfl (by kernel_rfl) (hK _ _ ?_)); clear hK K)
    | (go_at_call 21; refine HDP.out.mono ?_; rintro e w7 ⟨l', rfl, hD7, hp7, hg7⟩; have HD7 := Lib.hid hD7; have HP7 := Lib.hid hp7; have HB7 := Lib.hid hg7; clear hD7 hp7 hg7))
  go_ret
  exact ⟨rfl, _, q, H0.out.put HB6.out HD6.out HB7.out (H0.out.pa.put HOK.out ax rfl HG6.out HB7.out HD6.out HD7.out HP7.out)⟩

theorem equal_same {w : World} {ga ma ra gc mc rc : Nat} {M N : GM} {l k : List PI} (h : Pair w ga ma M ra l) (g : Pair w gc mc N rc k) : ∃ b : Bool, (∀ V, Xt w V → Calls Tryz.prog 28 #[.pointer (some ⟨ga, 0, none⟩), .pointer (some ⟨gc, 0, none⟩)] V fun e w' => e = .returned (.bool b) ∧ Xt V w') ∧
    (∀ V, Xt w V → Calls Tryz.prog 29 #[.pointer (some ⟨ra, 0, none⟩), .pointer (some ⟨rc, 0, none⟩)] V fun e w' => e = .returned (.bool b) ∧ Xt V w') := by
  refine ⟨eqMB M N, fun V hV => gequal_any ga gc ma mc M N V (h.g.xt hV) (g.g.xt hV), fun V hV => ?_⟩
  have := dequal_any ra rc l k V (h.r.xt hV) (g.r.xt hV) h.ok g.ok
  rwa [← h.e, ← g.e, ← er_none (by rw [h.e]; exact h.ok) (by rw [g.e]; exact g.ok)] at this
theorem equal_self {w : World} {ga ma ra : Nat} {M : GM} {l : List PI} (h : Pair w ga ma M ra l) (V : World) (hV : Xt w V) : Calls Tryz.prog 28 #[.pointer (some ⟨ga, 0, none⟩), .pointer (some ⟨ga, 0, none⟩)] V fun e w' => e = .returned (.bool true) ∧ Xt V w' := by
  have := gequal_any ga ga ma ma M M V (h.g.xt hV) (h.g.xt hV)
  rwa [er_eq, eqPB_self] at this
/-- Puts of both, and what puts says of them. -/
theorem puts_self {w : World} {ga ma ra : Nat} {M : GM} {l : List PI} (h : Pair w ga ma M ra l) (V : World) (hV : Xt w V) : Calls Tryz.prog 31 #[.pointer (some ⟨ga, 0, none⟩), .pointer (some ⟨ga, 0, none⟩)] V fun e w' => (∃ a, e = .returned (.slice a 0 0)) ∧ Xt V w' :=
  (gputs_any ga ga ma ma M M V (h.g.xt hV) (h.g.xt hV)).mono fun e w' ⟨a, c, l1, he, _, hl, hx⟩ => by
    rw [er_way, way_self] at hl
    have : l1 = [] := by simpa using hl
    subst this
    exact ⟨⟨a, he⟩, hx⟩
/-- The second list has been told in the world that the first one left. -/
theorem puts_same {w : World} {ga ma ra gc mc rc : Nat} {M N : GM} {l k : List PI} (h : Pair w ga ma M ra l) (g : Pair w gc mc N rc k) (V : World) (hV : Xt w V) :
    Calls Tryz.prog 31 #[.pointer (some ⟨ga, 0, none⟩), .pointer (some ⟨gc, 0, none⟩)] V fun e w1 => ∃ a n, e = .returned (.slice a n n) ∧ Xt V w1 ∧ Calls Tryz.prog 32 #[.pointer (some ⟨ra, 0, none⟩), .pointer (some ⟨rc, 0, none⟩)] w1 fun e w2 => ∃ kv, e = .returned kv ∧ Xt w1 w2 ∧ Calls Tryz.prog 30 #[.slice a n n, kv] w2 fun e w3 => e = .returned (.bool true) ∧ Xt V w3 := by
  refine (gputs_any ga gc ma mc M N V (h.g.xt hV) (g.g.xt hV)).mono ?_
  rintro e w1 ⟨a, c, l1, rfl, hP, hl, hx1⟩
  refine ⟨a, l1.length, rfl, hx1, ?_⟩
  have hV1 := hV.trans hx1
  refine (dputs_any ra rc l k w1 (h.r.xt hV1) (g.r.xt hV1) h.ok g.ok).mono ?_
  rintro e w2 ⟨v, k1, b0, rfl, hb, hG, hk, hS, hx2⟩
  refine ⟨v, rfl, hx2, ?_⟩
  rw [er_way] at hl
  refine puts_any V w1 w2 a c l1 v k1 b0 hP hx1 hx2 hG hb (fun x hx => ?_) (by rw [hk, hl, h.e, g.e]) ?_
  · rcases hS x hx with hx | hx | ⟨z, rfl⟩
    · obtain ⟨vv, _, hp⟩ := h.r.cell
      exact (hp.args x hx).2.imp fun n hn => hn.xt hV
    · obtain ⟨vv, _, hp⟩ := g.r.cell
      exact (hp.args x hx).2.imp fun n hn => hn.xt hV
    · exact zero_in V
  · have h1 := congrArg List.length hl
    rw [List.length_map] at h1
    have h2 : (wayP (er M) (er N)).length ≤ (er M).length + (er N).length := by
      rw [← er_way]
      have a1 := putsK_len M N (unionK M N)
      have a2 := unionK_len h.g.sorted N
      rw [er_len, er_len]
      omega
    have h3 := h.g.many
    have h4 := g.g.many
    rw [er_len, er_len] at h2
    omega
set_option maxRecDepth 100000 in
set_option maxHeartbeats 1000000 in
theorem step_equal (w0 w : World) (wb gs rs k j : Nat) (p q : G5) (o : OpT) (n : Nat) (hT : Tabs w0) (h : St w0 w wb gs rs k j p q) (hk : pickZ o.on 2 = (k : Int)) (hkj : k < 2 ∧ j < 2 ∧ k + j = 1) (ho : I64 o.on ∧ I64 o.n) (hok : o.x.c.ok) (hsm : smallT o.x.c.t) (hin : ArgsIn w n (.slice o.x.p o.x.c.t.args.length o.x.cap) o.x.c.t.args)
    (hn : (o.kind == 1) = false ∧ (o.kind == 2) = false ∧ (o.kind == 3) = false ∧ (o.kind == 4) = false ∧ (o.kind == 5) = false ∧ (o.kind == 6) = true) : Calls Tryz.prog 7 #[.pointer (some ⟨wb, 0, none⟩), opV o] w (StepR w0 wb gs rs k j) := by
  obtain ⟨n1, n2, n3, n4, n5, n6⟩ := hn
  obtain ⟨w1, hw1⟩ : ∃ w1, w.alloc (.cells (opC o).toArray 50) = w1 := ⟨_, rfl⟩
  have HX1 : Hid (Xt w w1) := by unfold Hid; rw [← hw1]; exact (Xt.refl _).alloc _
  have HR1 : Hid (w1.heap[w.heap.size]? = some (Obj.cells (opC o).toArray 50 (0, 0))) := by unfold Hid; rw [← hw1]; exact (MapKept.heap_alloc w _).1
  have H0 := Lib.hid h
  have H := Lib.hid (h.xt HX1.out)
  have HT := Lib.hid (hT.xt h.hx)
  have HOK := Lib.hid hok
  have HSM := Lib.hid hsm
  have HIN := Lib.hid hin
  have HO := Lib.hid ho
  have HKJ := Lib.hid hkj
  have HP := Lib.hid (pickz_any o.on 2 w1 ho.1.1 ho.1.2 (by omega) (by omega))
  rw [hk] at HP
  obtain ⟨g0, g1, g2, g3, g4, g5⟩ := H.out.cells
  obtain ⟨⟨c0, c1, c2, c3, c4⟩, _⟩ := opC_at HR1.out
  have hk2 : (k : Int) < 2 := by omega
  have hj2 : (j : Int) < 2 := by omega
  have hsub : IntKind.i64.wrap (1 - (k : Int)) = (j : Int) := by rw [IntKind.wrap_i64]; omega
  clear h hk ho hT hok hsm hin
  go_enter Tryz.func7, Tryz.ntmps7
  go_upto_region 35 with (first
    | (go_at_call 17; refine HP.out.mono ?_; rintro e w' ⟨rfl, rfl⟩))
  clear HP n1 n2 n3 n4 n5 n6
  obtain ⟨b1, he1, hd1⟩ := equal_same H.out.pa H.out.pb
  obtain ⟨b2, he2, hd2⟩ := equal_same H.out.pb H.out.pa
  have HE1 := Lib.hid he1
  have HD1 := Lib.hid hd1
  have HE2 := Lib.hid he2
  have HD2 := Lib.hid hd2
  have HES := Lib.hid (equal_self H.out.pa)
  clear he1 hd1 he2 hd2
  go_upto_region 37 with fail
  have HP1 := Lib.hid (fun (V : World) (hV : Xt w1 V) => puts_same H.out.pa H.out.pb V hV)
  have HP2 := Lib.hid (fun (V : World) (hV : Xt w1 V) => puts_same H.out.pb H.out.pa V hV)
  have HPS := Lib.hid (fun (V : World) (hV : Xt w1 V) => puts_self H.out.pa V hV)
  have hm1 : True := trivial
  have hm2 : True := trivial
  have hm3 : True := trivial
  have hm4 : True := trivial
  have hm5 : True := trivial
  have hm6 : True := trivial
  clear c0 c1 c2 c3 c4 g0 g1 g2 g3 g4 g5
  go_upto_region 38 with (first
    | (go_at_call 28; have hm0 := hm1; clear hm0 hm1; refine (HE1.out _ (Xt.refl _)).mono ?_; rintro e v1 ⟨rfl, hx⟩; have HV1 : Hid (Xt w1 v1) := Lib.hid hx; clear hx)
    | (go_at_call 29; have hm0 := hm2; clear hm0 hm2; refine (HD1.out _ HV1.out).mono ?_; rintro e v2 ⟨rfl, hx⟩; have HV2 : Hid (Xt w1 v2) := Lib.hid (HV1.out.trans hx); clear hx)
    | (go_at_call 28; have hm0 := hm3; clear hm0 hm3; refine (HE2.out _ HV2.out).mono ?_; rintro e v3 ⟨rfl, hx⟩; have HV3 : Hid (Xt w1 v3) := Lib.hid (HV2.out.trans hx); clear hx)
    | (go_at_call 29; have hm0 := hm4; clear hm0 hm4; refine (HD2.out _ HV3.out).mono ?_; rintro e v4 ⟨rfl, hx⟩; have HV4 : Hid (Xt w1 v4) := Lib.hid (HV3.out.trans hx); clear hx)
    | (go_at_call 28; have hm0 := hm5; clear hm0 hm5; refine (HES.out _ HV4.out).mono ?_; rintro e v5 ⟨rfl, hx⟩; have HV5 : Hid (Xt w1 v5) := Lib.hid (HV4.out.trans hx); clear hx)
    | (go_at_call 28; have hm0 := hm6; clear hm0 hm6; refine (equal_none p.g _).mono ?_; rintro e v6 ⟨rfl, hx⟩; have HV6 : Hid (Xt w1 v6) := Lib.hid (HV5.out.trans hx); clear hx))
  have hm1 : True := trivial
  have hm2 : True := trivial
  have hm3 : True := trivial
  have hm4 : True := trivial
  have hm5 : True := trivial
  have hm6 : True := trivial
  have hm7 : True := trivial
  have hm8 : True := trivial
  go_wp2_with (first
    | (go_at_call 31; have hm0 := hm1; clear hm0 hm1; refine (HP1.out _ HV6.out).mono ?_; rintro e u1 ⟨a1, n1, rfl, hx, hc⟩; have HC1 := Lib.hid hc; clear hx hc)
    | (go_at_call 32; have hm0 := hm2; clear hm0 hm2; refine HC1.out.mono ?_; rintro e u2 ⟨kv, rfl, hx, hc⟩; have HC2 := Lib.hid hc; clear hx hc)
    | (go_at_call 30; have hm0 := hm3; clear hm0 hm3; refine HC2.out.mono ?_; rintro e u3 ⟨rfl, hx⟩; have HU3 : Hid (Xt w1 u3) := Lib.hid (HV6.out.trans hx); clear hx)
    | (go_at_call 31; have hm0 := hm4; clear hm0 hm4; refine (HP2.out _ HU3.out).mono ?_; rintro e u4 ⟨a4, n4, rfl, hx, hc⟩; have HC4 := Lib.hid hc; clear hx hc)
    | (go_at_call 32; have hm0 := hm5; clear hm0 hm5; refine HC4.out.mono ?_; rintro e u5 ⟨kv5, rfl, hx, hc⟩; have HC5 := Lib.hid hc; clear hx hc)
    | (go_at_call 30; have hm0 := hm6; clear hm0 hm6; refine HC5.out.mono ?_; rintro e u6 ⟨rfl, hx⟩; have HU6 : Hid (Xt w1 u6) := Lib.hid (HU3.out.trans hx); clear hx)
    | (go_at_call 31; have hm0 := hm7; clear hm0 hm7; refine (HPS.out _ HU6.out).mono ?_; rintro e u7 ⟨⟨a7, rfl⟩, hx⟩; have HU7 : Hid (Xt w1 u7) := Lib.hid (HU6.out.trans hx); clear hx)
    | (go_at_call 31; have hm0 := hm8; clear hm0 hm8; refine (puts_none p.g _).mono ?_; rintro e u8 ⟨rfl, hx⟩; have HU8 : Hid (Xt w1 u8) := Lib.hid (HU7.out.trans hx); clear hx))
  go_ret
  exact ⟨rfl, p, q, H.out.xt HU8.out⟩
end
end Go.Proofs.YtideclfpbpjebaaGreatDoor
