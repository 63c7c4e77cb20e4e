import Derived.Test.YtdoeejhdenifpaaGreatDoorZ1
import Derived.Test.YtdoeejhdenifpaaGreatDoorA15
import Derived.Test.YtdoeejhdenifpaaGreatDoorA13
import Derived.Deep.CutBlock
import Derived.Deep.DeepCutAuto
import Derived.Test.YtdoeejhdenifpaaGreatDoorA10
import Derived.StillTailTactics
import Derived.Test.YtdoeejhdenifpaaGreatDoorA12
/- move.Clear, move.Fill (made by mkt8.py). -/
namespace Go.Proofs.YtdoeejhdenifpaaGreatDoor
open Go.RowKit Go.Sort Go.Maps Go.Shelf Go.MapKept
attribute [local go_sem] Oper.semAt_some
theorem ArgsIn.near {w w' : World} {B : Nat} (h : Near B w w') : ∀ {n : Nat} {av : Value} {l : List NodeT}, ArgsIn w n av l → ArgsIn w' n av l
 | 0, _, _, h0 => h0
 | n + 1, _, _, ⟨a, cap, e, h1, h2, h3⟩ => by
  refine ⟨a, cap, e, h1, h2, fun hne => ?_⟩
  obtain ⟨b, off, ea, hc⟩ := h3 hne
  refine ⟨b, off, ea, fun k t ht => ?_⟩
  obtain ⟨av', q1, q2⟩ := hc k t ht
  refine ⟨av', fun i u hu => ?_, q2.near h⟩
  have hb : w'.heap[b]? = w.heap[b]? := by
   rcases h.small b with e | e
   · exact e
   · have hx : (nodeC t av')[14]? = some av' := by cases t; rfl
     have := e _ _ (q1 14 av' hx)
     omega
  exact (World.cell?_of_block (w := w) (a := ⟨b, off + k * 15 + i, none⟩) hb).trans (q1 i u hu)
theorem ceIn.near {w w' : World} {B : Nat} {x : CE} (h : ceIn w x) (hn : Near B w w') : ceIn w' x := ⟨h.1, let ⟨n, hh⟩ := h.2; ⟨n, hh.near hn⟩⟩
theorem GridIs.near {w w' : World} {B gb mb : Nat} {M : GM} (h : GridIs w gb mb M) (hn : Near B w w') (hg : gb < B) (hm : mb < B) : GridIs w' gb mb M :=
 ⟨(World.cell?_of_block (w := w) (a := ⟨gb, 0, none⟩) (hn.block gb hg)).trans h.cell, let ⟨E, h1, h2⟩ := h.map; ⟨E, h1.of_heap (hn.block mb hm), h2⟩, h.sorted, fun x hx => (h.args x hx).near hn, h.many⟩
structure MN {α : Type} (W0 : World) (B go mo : Nat) (F : List α → Option PG) (pre : List α) (W : World) : Prop where
 below : ∀ k, k < B → k ≠ mo → W.heap[k]? = W0.heap[k]?
 os : W.os = W0.os
 tape : W.tape = W0.tape
 output : W.output = W0.output
 size : W0.heap.size ≤ W.heap.size
 out : ∃ Mo, GridIs W go mo Mo ∧ F pre = some (er Mo)
theorem MN.near {α : Type} {W0 : World} {B go mo : Nat} {F : List α → Option PG} (hg : go < B) (hm : mo < B) : NearFrom B (fun pre W => MN W0 B go mo F pre W) := fun _s _X _Y h hn =>
 ⟨fun k hk hne => (hn.block k hk).trans (h.below k hk hne), hn.os.trans h.os, hn.tape.trans h.tape, hn.output.trans h.output, Nat.le_trans h.size hn.size, let ⟨Mo, h1, h2⟩ := h.out; ⟨Mo, h1.near hn hg hm, h2⟩⟩
theorem MN.xt {α : Type} {W0 W W' : World} {B go mo : Nat} {F : List α → Option PG} {pre : List α} (hB : B ≤ W0.heap.size) (h : MN W0 B go mo F pre W) (hx : Xt W W') : MN W0 B go mo F pre W' :=
 ⟨fun k hk hne => (hx.block k (by have := h.size; omega)).trans (h.below k hk hne), hx.os.trans h.os, hx.tape.trans h.tape, hx.output.trans h.output, Nat.le_trans h.size hx.size, let ⟨Mo, h1, h2⟩ := h.out; ⟨Mo, h1.xt hx, h2⟩⟩
theorem MN.start {α : Type} {W0 : World} {B go mo : Nat} {F : List α → Option PG} {M : GM} (h : GridIs W0 go mo M) (hF : F [] = some (er M)) : MN W0 B go mo F [] W0 :=
 ⟨fun _ _ _ => rfl, rfl, rfl, rfl, Nat.le_refl _, M, h, hF⟩
theorem MN.grown {α : Type} {W0 W : World} {B go mo : Nat} {F : List α → Option PG} {pre : List α} (h : MN W0 B go mo F pre W) (hB : B = W0.heap.size) : W0.grownBy W (some mo) :=
 ⟨h.os, h.tape, h.output, h.size, fun k hk hne => h.below k (by omega) (fun e => hne (by rw [e]))⟩
set_option maxHeartbeats 1000000 in
theorem acells_any (f : ArT) (w : World) :
    Calls Tryz.prog 39 #[arT f] w fun e w' => e = .returned (.func (.func 79) #[] #[.pointer (some ⟨w.heap.size, 0, none⟩)]) ∧ w' = w.alloc (.cells #[.int .i64 f.a, .int .i64 f.b, .int .i64 f.c, .int .i64 f.d] 26) := by
 go_enter Tryz.func39, Tryz.ntmps39
 go_wp2
 go_ret
 exact ⟨rfl, rfl⟩
theorem filled_0 {fr : Ad} {t : ArT} {M Mo : GM} {u : ContT} (hu : ((lkM fr M).getD (zeroC, none)).1 = u) (hk : u.kind = 0) (hE : er Mo = clearP t (er M)) : fillP fr t (er M) = some (er Mo) := by
 unfold fillP
 rw [← er_getD, hu, if_pos hk, hE]
theorem filled_1 {fr : Ad} {t : ArT} {M : GM} {u : ContT} (hu : ((lkM fr M).getD (zeroC, none)).1 = u) (hk : ¬ u.kind = 0) : fillP fr t (er M) = flAll fr u (clearP t (er M)) (cellsL t) := by
 unfold fillP
 rw [← er_getD, hu, if_neg hk]
theorem not_grid {w : World} {go mo b : Nat} {M : GM} {v : Value} {T : TypeId} (h : GridIs w go mo M) (hb : w.heap[b]? = some (.cells #[v] T (0, 0))) (hv : v ≠ .map (some mo)) : go ≠ b ∧ mo ≠ b := by
 refine ⟨fun e => ?_, fun e => ?_⟩
 · have h1 := h.cell
   rw [e, (one_row hb).1] at h1
   exact hv (Option.some.inj h1)
 · obtain ⟨E, hm, _⟩ := h.map
   obtain ⟨es, clk, h1, _⟩ := hm
   rw [e, hb] at h1; cases h1
theorem not_grid9 {w : World} {go mo b : Nat} {M : GM} {v : Value} {vs : List Value} {T : TypeId} (h : GridIs w go mo M) (hb : w.heap[b]? = some (.cells (v :: vs).toArray T (0, 0))) (hv : v ≠ .map (some mo)) : go ≠ b ∧ mo ≠ b := by
 refine ⟨fun e => ?_, fun e => ?_⟩
 · have h1 := h.cell
   rw [e] at h1
   have h2 : (v :: vs).toArray[0]? = some (.map (some mo)) := by simpa [World.cell?, hb] using h1
   exact hv (by simpa using h2)
 · obtain ⟨E, hm, _⟩ := h.map
   obtain ⟨es, clk, h1, _⟩ := hm
   rw [e, hb] at h1; cases h1
theorem gone_ne {w : World} {go mo b : Nat} {M : GM} {v : Value} {T : TypeId} (h : GridIs w go mo M) (hb : w.heap[b]? = some (.cells #[v] T (0, 0))) : mo ≠ b := fun e => by
 obtain ⟨E, hm, _⟩ := h.map
 obtain ⟨es, clk, h1, _⟩ := hm
 rw [e, hb] at h1; cases h1
theorem argsIn_map {w w' : World} {n go mo : Nat} {M : GM} {av : Value} {l : List NodeT} (h : ArgsIn w n av l) (hg : w.grownBy w' (some mo)) (hG : GridIs w go mo M) : ArgsIn w' n av l := by
 obtain ⟨E, hm, _⟩ := hG.map
 exact h.kept (CellsIn.of_grown hm hg)
theorem fill_end {w2 wc : World} {k8 k9 go mo nz : Nat} {Mo0 : GM} {zc : CE} {S : Nat → Prop} (hx : Xt w2 wc) (h8 : wc.heap[k8]? = some (.cells #[.pointer none] 29 (0, 0))) (h9 : wc.heap[k9]? = some (.cells #[.int .i64 0, .int .i64 0, .float .f64 0, .string ⟨#[]⟩, .bool false, .int .i64 0, .int .i64 0, .int .i64 0, .float .f64 0, .string ⟨#[]⟩, .bool false, .int .i64 0, .int .i64 0, .int .i64 0, .bool false, .bool false, .int .i64 0, .int .i64 0, .bool false, .bool false, .slice none 0 0] 51 (0, 0)))
    (l8 : w2.heap.size ≤ k8) (l9 : w2.heap.size ≤ k9) (hG : GridIs wc go mo Mo0) (hM : ∀ V, Xt w2 V → ∀ x ∈ Mo0, ceIn V x.2) (hZ : ArgsS S wc nz (.slice zc.2 zc.1.t.args.length zc.1.t.args.length) zc.1.t.args) (hS : ∀ b, S b → b ≠ k8 ∧ b ≠ k9) :
    ∃ vS vE, wc.setCell ⟨k8, 0, none⟩ (.pointer (some ⟨go, 0, none⟩)) = vS ∧ vS.setRow k9 #[.int .i64 zc.1.kind, .int .i64 zc.1.v.kind, .float .f64 zc.1.v.x, .string zc.1.v.s, .bool zc.1.v.b, .int .i64 zc.1.v.f, .int .i64 zc.1.t.kind, .int .i64 zc.1.t.op, .float .f64 zc.1.t.x, .string zc.1.t.s, .bool zc.1.t.b, .int .i64 zc.1.t.f, .int .i64 zc.1.t.ref.a.1, .int .i64 zc.1.t.ref.a.2, .bool zc.1.t.ref.cf, .bool zc.1.t.ref.rf, .int .i64 zc.1.t.to.a.1, .int .i64 zc.1.t.to.a.2, .bool zc.1.t.to.cf, .bool zc.1.t.to.rf, .slice zc.2 zc.1.t.args.length zc.1.t.args.length] = vE ∧ vS.heap[k9]? = some (.cells #[.int .i64 0, .int .i64 0, .float .f64 0, .string ⟨#[]⟩, .bool false, .int .i64 0, .int .i64 0, .int .i64 0, .float .f64 0, .string ⟨#[]⟩, .bool false, .int .i64 0, .int .i64 0, .int .i64 0, .bool false, .bool false, .int .i64 0, .int .i64 0, .bool false, .bool false, .slice none 0 0] 51 (0, 0)) ∧ Hid (Xt w2 vS) ∧ Hid (Xt w2 vE) ∧
     Hid (vE.heap[k8]? = some (.cells #[.pointer (some ⟨go, 0, none⟩)] 29 (0, 0))) ∧ Hid (vE.heap[k9]? = some (.cells #[.int .i64 zc.1.kind, .int .i64 zc.1.v.kind, .float .f64 zc.1.v.x, .string zc.1.v.s, .bool zc.1.v.b, .int .i64 zc.1.v.f, .int .i64 zc.1.t.kind, .int .i64 zc.1.t.op, .float .f64 zc.1.t.x, .string zc.1.t.s, .bool zc.1.t.b, .int .i64 zc.1.t.f, .int .i64 zc.1.t.ref.a.1, .int .i64 zc.1.t.ref.a.2, .bool zc.1.t.ref.cf, .bool zc.1.t.ref.rf, .int .i64 zc.1.t.to.a.1, .int .i64 zc.1.t.to.a.2, .bool zc.1.t.to.cf, .bool zc.1.t.to.rf, .slice zc.2 zc.1.t.args.length zc.1.t.args.length] 51 (0, 0))) ∧ Hid (GridIs vE go mo Mo0) ∧ Hid (ArgsIn vE nz (.slice zc.2 zc.1.t.args.length zc.1.t.args.length) zc.1.t.args) := by
 have hne : k8 ≠ k9 := fun e => by rw [e, h9] at h8; cases h8
 obtain ⟨vS, hvS⟩ : ∃ v, wc.setCell ⟨k8, 0, none⟩ (.pointer (some ⟨go, 0, none⟩)) = v := ⟨_, rfl⟩
 have hS8 : vS.heap[k8]? = some (.cells #[.pointer (some ⟨go, 0, none⟩)] 29 (0, 0)) := by rw [← hvS]; exact setCell_row h8 0 _
 have hgS : wc.grownBy vS (some k8) := by rw [← hvS]; exact setCell_grown _ _ _ _
 have hS9 : vS.heap[k9]? = some (.cells #[.int .i64 0, .int .i64 0, .float .f64 0, .string ⟨#[]⟩, .bool false, .int .i64 0, .int .i64 0, .int .i64 0, .float .f64 0, .string ⟨#[]⟩, .bool false, .int .i64 0, .int .i64 0, .int .i64 0, .bool false, .bool false, .int .i64 0, .int .i64 0, .bool false, .bool false, .slice none 0 0] 51 (0, 0)) := by rw [← hvS]; exact (Below.heap_setCell _ _ _ _ (by simpa using fun e => hne e.symm)).trans h9
 have HXS : Xt w2 vS := hx.grownB hgS (fun q hq => by cases hq; omega)
 obtain ⟨vE, hvE⟩ : ∃ v, vS.setRow k9 #[.int .i64 zc.1.kind, .int .i64 zc.1.v.kind, .float .f64 zc.1.v.x, .string zc.1.v.s, .bool zc.1.v.b, .int .i64 zc.1.v.f, .int .i64 zc.1.t.kind, .int .i64 zc.1.t.op, .float .f64 zc.1.t.x, .string zc.1.t.s, .bool zc.1.t.b, .int .i64 zc.1.t.f, .int .i64 zc.1.t.ref.a.1, .int .i64 zc.1.t.ref.a.2, .bool zc.1.t.ref.cf, .bool zc.1.t.ref.rf, .int .i64 zc.1.t.to.a.1, .int .i64 zc.1.t.to.a.2, .bool zc.1.t.to.cf, .bool zc.1.t.to.rf, .slice zc.2 zc.1.t.args.length zc.1.t.args.length] = v := ⟨_, rfl⟩
 have hE9 : vE.heap[k9]? = some (.cells #[.int .i64 zc.1.kind, .int .i64 zc.1.v.kind, .float .f64 zc.1.v.x, .string zc.1.v.s, .bool zc.1.v.b, .int .i64 zc.1.v.f, .int .i64 zc.1.t.kind, .int .i64 zc.1.t.op, .float .f64 zc.1.t.x, .string zc.1.t.s, .bool zc.1.t.b, .int .i64 zc.1.t.f, .int .i64 zc.1.t.ref.a.1, .int .i64 zc.1.t.ref.a.2, .bool zc.1.t.ref.cf, .bool zc.1.t.ref.rf, .int .i64 zc.1.t.to.a.1, .int .i64 zc.1.t.to.a.2, .bool zc.1.t.to.cf, .bool zc.1.t.to.rf, .slice zc.2 zc.1.t.args.length zc.1.t.args.length] 51 (0, 0)) := by rw [← hvE]; exact setRow_heap _ _ _ _ _ _ hS9
 have hE8 : vE.heap[k8]? = some (.cells #[.pointer (some ⟨go, 0, none⟩)] 29 (0, 0)) := by rw [← hvE]; exact (setRow_other _ _ _ _ hne).trans hS8
 have hgE : vS.grownBy vE (some k9) := by rw [← hvE]; exact setRow_grown _ _ _
 have HXE : Xt w2 vE := HXS.grownB hgE (fun q hq => by cases hq; omega)
 have hEb : ∀ b, b ≠ k8 → b ≠ k9 → vE.heap[b]? = wc.heap[b]? := fun b h1 h2 => by rw [← hvE, ← hvS]; exact (setRow_other _ _ _ _ h2).trans (Below.heap_setCell _ _ _ _ h1)
 have n8 : go ≠ k8 ∧ mo ≠ k8 := not_grid hG h8 (by intro e; cases e)
 have n9 : go ≠ k9 ∧ mo ≠ k9 := not_grid9 hG h9 (by intro e; cases e)
 exact ⟨vS, vE, hvS, hvE, hS9, HXS, HXE, hE8, hE9, ⟨(World.cell?_of_block (a := ⟨go, 0, none⟩) (hEb go n8.1 n9.1)).trans hG.cell, let ⟨E, h1, h2⟩ := hG.map; ⟨E, h1.of_heap (hEb mo n8.2 n9.2), h2⟩, hG.sorted, hM vE HXE, hG.many⟩,
  (hZ.keep (S' := fun _ => True) (fun _ _ _ => trivial) (fun b o hb _ => World.cell?_of_block (a := ⟨b, o, none⟩) (hEb b (hS b hb).1 (hS b hb).2))).args⟩
set_option maxRecDepth 100000 in
set_option maxHeartbeats 16000000 in
theorem mfill_any (fr : Ad) (t : ArT) (gb mb : Nat) (M : GM) (w : World) (hG : GridIs w gb mb M) (hT : Tabs w) (hO : GOk (er M)) (hv : validA t.a t.b t.c t.d = true) (hv1 : validB fr.1 fr.2 = true) :
    Calls Tryz.prog 28 #[.pointer (some ⟨gb, 0, none⟩), .agg #[.int .i64 fr.1, .int .i64 fr.2], arT t] w fun e w' => CopyR (fillP fr t (er M)) w e w' := by
 have HG := Lib.hid hG
 have HT := Lib.hid hT
 have HO := Lib.hid hO
 have HVT := Lib.hid hv
 have hglt := hG.lt
 obtain ⟨B, hB⟩ : ∃ B, w.heap.size = B := ⟨_, rfl⟩
 obtain ⟨wx0, hwx0⟩ : ∃ wx0, w.alloc (.cells #[.int .i64 fr.1, .int .i64 fr.2] 24) = wx0 := ⟨_, rfl⟩
 have hswx0 : wx0.heap.size = B + 1 := by rw [← hwx0, ← hB]; simp
 obtain ⟨wx1, hwx1⟩ : ∃ wx1, wx0.alloc (.cells #[.int .i64 t.a, .int .i64 t.b, .int .i64 t.c, .int .i64 t.d] 26) = wx1 := ⟨_, rfl⟩
 have hswx1 : wx1.heap.size = B + 1 + 1 := by rw [← hwx1]; simp [hswx0]
 obtain ⟨wx2, hwx2⟩ : ∃ wx2, wx1.alloc (.cells #[.pointer none] 29) = wx2 := ⟨_, rfl⟩
 have hswx2 : wx2.heap.size = B + 1 + 1 + 1 := by rw [← hwx2]; simp [hswx1]
 obtain ⟨w0, hw0⟩ : ∃ w0, wx2.alloc (.cells #[.int .i64 0] 35) = w0 := ⟨_, rfl⟩
 have hsw0 : w0.heap.size = B + 1 + 1 + 1 + 1 := by rw [← hw0]; simp [hswx2]
 have HX0 : Hid (Xt w w0) := by unfold Hid; rw [← hw0, ← hwx2, ← hwx1, ← hwx0]; exact ((((Xt.refl _).alloc _).alloc _).alloc _).alloc _
 have HR0 : Hid (w0.heap[B]? = some (.cells #[.int .i64 fr.1, .int .i64 fr.2] 24 (0, 0))) := rowX (w := wx0) (by rw [← hw0, ← hwx2, ← hwx1]; exact (((Xt.refl _).alloc _).alloc _).alloc _) (by rw [← hwx0, ← hB]; exact (MapKept.heap_alloc w _).1)
 have HR1 : Hid (w0.heap[B + 1]? = some (.cells #[.int .i64 t.a, .int .i64 t.b, .int .i64 t.c, .int .i64 t.d] 26 (0, 0))) := rowX (w := wx1) (by rw [← hw0, ← hwx2]; exact ((Xt.refl _).alloc _).alloc _) (by rw [← hwx1, ← hswx0]; exact (MapKept.heap_alloc wx0 _).1)
 have HR2 : Hid (w0.heap[B + 1 + 1]? = some (.cells #[.pointer none] 29 (0, 0))) := rowX (w := wx2) (by rw [← hw0]; exact (Xt.refl _).alloc _) (by rw [← hwx2, ← hswx1]; exact (MapKept.heap_alloc wx1 _).1)
 have HR3 : Hid (w0.heap[B + 1 + 1 + 1]? = some (.cells #[.int .i64 0] 35 (0, 0))) := by unfold Hid; rw [← hw0, ← hswx2]; exact (MapKept.heap_alloc wx2 _).1
 have HVA := Lib.hid (fun V => validArea_any t.a t.b t.c t.d V)
 rw [hv] at HVA
 have HV1 := Lib.hid (fun V => valid_any fr.1 fr.2 V)
 rw [hv1] at HV1
 obtain ⟨u, hu⟩ : ∃ u, ((lkM fr M).getD (zeroC, none)).1 = u := ⟨_, rfl⟩
 have HU := Lib.hid hu
 obtain ⟨y0, y1, _, _⟩ := cells2 HR0.out
 obtain ⟨⟨x0, x1, x2, x3⟩, _⟩ := cells4 HR1.out
 clear hG hT hO hv hv1 hu
 refine (callsIn_wide (n := 25)).1 ?_
 refine callsIn_of_wp_marks Tryz.func28 rfl trivial ?_ rfl
 simp only [Tryz.ntmps28, List.size_toArray, List.length_cons, List.length_nil, Nat.reduceAdd, Nat.reduceSub, Array.replicate_succ, Array.replicate_zero, List.push_toArray, List.append_toArray, List.nil_append, List.cons_append]
 refine wpIn_wide.2 ?_
 refine wp_mono (Q := noPanic (bodyPostM Fence.wide 25 Tryz.prog Tryz.f28 (fun e w' => CopyR (fillP fr t (er M)) w e w'))) ?_ noPanic_le
 have hq := Int.le_refl 0
 go_upto_region 5 with (first
  | (go_at_call 40; refine (HVA.out _).mono ?_; rintro e w1 ⟨rfl, hg1⟩; have HX1 : Hid (Xt w0 w1) := hg1.xt; obtain ⟨y0, y1, _, _⟩ := cells2 (rowX HX1.out HR0.out); clear hg1)
  | (go_at_call 63; refine (HV1.out _).mono ?_; rintro e w2 ⟨rfl, hg2⟩; have HX2 : Hid (Xt w0 w2) := (by unfold Hid; rw [hg2]; exact HX1.out.alloc _); clear hg2))
 have HF : Hid (∀ V, Xt w2 V → V.cell? ⟨B, 0, none⟩ = some (.int .i64 fr.1) ∧ V.cell? ⟨B, 1, none⟩ = some (.int .i64 fr.2) ∧ V.cell? ⟨B + 1, 0, none⟩ = some (.int .i64 t.a) ∧ V.cell? ⟨B + 1, 1, none⟩ = some (.int .i64 t.b) ∧ V.cell? ⟨B + 1, 2, none⟩ = some (.int .i64 t.c) ∧ V.cell? ⟨B + 1, 3, none⟩ = some (.int .i64 t.d)) := Lib.hid fun V hV => by
  obtain ⟨y0, y1, _, _⟩ := cells2 (rowX (HX2.out.trans hV) HR0.out)
  obtain ⟨⟨x0, x1, x2, x3⟩, _⟩ := cells4 (rowX (HX2.out.trans hV) HR1.out)
  exact ⟨y0, y1, x0, x1, x2, x3⟩
 have hwz : w.heap.size + 4 ≤ w2.heap.size := by have := HX2.out.size; omega
 clear y0 y1 x0 x1 x2 x3 hwx0 hwx1 hwx2 hw0
 go_cut [8, 9] from 22 to 28 (fun s8 s9 wr => ∃ (k8 k9 go mo nz : Nat) (Mo0 : GM) (zc : CE), s8 = .pointer (some ⟨k8, 0, none⟩) ∧ s9 = .pointer (some ⟨k9, 0, none⟩) ∧ Hid (Xt w2 wr) ∧ Hid (wr.heap[k8]? = some (.cells #[.pointer (some ⟨go, 0, none⟩)] 29 (0, 0))) ∧ Hid (wr.heap[k9]? = some (.cells #[.int .i64 zc.1.kind, .int .i64 zc.1.v.kind, .float .f64 zc.1.v.x, .string zc.1.v.s, .bool zc.1.v.b, .int .i64 zc.1.v.f, .int .i64 zc.1.t.kind, .int .i64 zc.1.t.op, .float .f64 zc.1.t.x, .string zc.1.t.s, .bool zc.1.t.b, .int .i64 zc.1.t.f, .int .i64 zc.1.t.ref.a.1, .int .i64 zc.1.t.ref.a.2, .bool zc.1.t.ref.cf, .bool zc.1.t.ref.rf, .int .i64 zc.1.t.to.a.1, .int .i64 zc.1.t.to.a.2, .bool zc.1.t.to.cf, .bool zc.1.t.to.rf, .slice zc.2 zc.1.t.args.length zc.1.t.args.length] 51 (0, 0))) ∧ Hid (GridIs wr go mo Mo0) ∧ Hid (er Mo0 = clearP t (er M)) ∧ (w2.heap.size ≤ mo ∧ w2.heap.size ≤ go) ∧ w2.heap.size ≤ k8 ∧ w2.heap.size ≤ k9 ∧ Hid (zc.1 = copyC u) ∧ Hid (ArgsIn wr nz (.slice zc.2 zc.1.t.args.length zc.1.t.args.length) zc.1.t.args))
 case first =>
  have HXC : Hid (Xt w2 w2.drew) := (Xt.refl w2).drew
  refine wp_region_held_drew (S := fun V => Xt w2 V) (by kernel_rfl) HXC.out (fun hHeld => ?_)
  refine tkH 0 ?_ ?_ ?_
  rotate_left
  · intro V hSw; obtain ⟨u0, u1, u2, u3, u4, u5⟩ := HF.out V hSw; go_simp; first | done | with_reducible rfl
  try simp only [Act.put, nm]
  refine tkH 1 ?_ ?_ ?_
  rotate_left
  · intro V hSw; obtain ⟨u0, u1, u2, u3, u4, u5⟩ := HF.out V hSw; go_simp; first | done | with_reducible rfl
  try simp only [Act.put, nm]
  refine tkH 3 ?_ ?_ ?_
  rotate_left
  · intro V hSw; obtain ⟨u0, u1, u2, u3, u4, u5⟩ := HF.out V hSw; go_simp; first | done | with_reducible rfl
  try simp only [Act.put, nm]
  refine tkH 4 ?_ ?_ ?_
  rotate_left
  · intro V hSw; obtain ⟨u0, u1, u2, u3, u4, u5⟩ := HF.out V hSw; go_simp; first | done | with_reducible rfl
  try simp only [Act.put, nm]
  refine wpAnyH_ready (rs := [2, 6, 7]) (by kernel_rfl) (by simp) ?_
  refine AllReadyH.cons (o := _) rfl (fun K hK => ?_) (AllReadyH.cons (o := _) rfl (fun K hK => ?_) (AllReadyH.cons (o := _) rfl (fun K hK => ?_) AllReadyH.nil))
  · go_simp
    refine (cleared_any t gb mb M _ (HG.out.xt (HX0.out.trans (HX2.out.trans HXC.out))) (HT.out.xt (HX0.out.trans (HX2.out.trans HXC.out))) HO.out).mono ?_
    rintro e v1 ⟨hxs, go, mo, Mo0, rfl, hGo, hEo, hmo, hgo, hsub⟩
    have hszc := HXC.out.size
    have hmo2 : w2.heap.size ≤ mo ∧ w2.heap.size ≤ go := by omega
    replace HXC := Lib.hid (HXC.out.trans hxs)
    have HGo := Lib.hid hGo
    have HEo := Lib.hid hEo
    have HSUB := Lib.hid hsub
    clear hGo hEo hmo hgo hsub hszc
    refine hK.out _ _ HXC.out (fun hHe => ?_)
    clear hK K hxs
    try simp only [Act.put, nm]
    refine wpAnyH_ready (rs := [5, 6, 7]) (by kernel_rfl) (by simp) ?_
    refine AllReadyH.cons (o := _) rfl (fun K hK => ?_) (AllReadyH.cons (o := _) rfl (fun K hK => ?_) (AllReadyH.cons (o := _) rfl (fun K hK => ?_) AllReadyH.nil))
    · go_simp
      obtain ⟨lo, hlo⟩ : ∃ lo, (World.heap v1).size = lo := ⟨_, rfl⟩
      refine (gget_any gb mb M fr _ (HG.out.xt (HX0.out.trans (HX2.out.trans HXC.out)))).mono ?_
      rintro e v2 ⟨nz, a7, rfl, hA7, hxs⟩
      replace HXC := Lib.hid (HXC.out.trans hxs)
      replace HGo := Lib.hid (HGo.out.xt hxs)
      rw [HU.out] at hA7 ⊢
      obtain ⟨zc, hz1, hz2⟩ : ∃ zc : CE, zc.1 = copyC u ∧ zc.2 = a7 := ⟨(copyC u, a7), rfl, rfl⟩
      have hzv : copyCV u a7 = ceV zc := by rw [← ceV_copy]; obtain ⟨z1, z2⟩ := zc; simp only at hz1 hz2; rw [hz1, hz2]
      rw [hzv]
      obtain ⟨hi, hhi⟩ : ∃ hi, (World.heap v2).size = hi := ⟨_, rfl⟩
      have HAZ : Hid (ArgsS (fun b => lo ≤ b ∧ b < hi) v2 nz (.slice zc.2 zc.1.t.args.length zc.1.t.args.length) zc.1.t.args) := (by unfold Hid; rw [hz1, hz2]; show ArgsS _ _ _ (.slice a7 (copyT u.t).args.length (copyT u.t).args.length) (copyT u.t).args; rw [copyT_len, copyT_args]; exact hA7.keep (fun b h1 h2 => ⟨by rw [← hlo]; exact h1, by rw [← hhi]; exact h2⟩) (fun _ _ _ _ => rfl))
      have HHI : Hid (hi ≤ (World.heap v2).size) := Nat.le_of_eq hhi.symm
      have HZ : Hid (zc.1 = copyC u) := hz1
      clear hA7 hz1 hz2 hzv hlo hhi
      refine hK.out _ _ HXC.out (fun hHe => ?_)
      clear hK K hxs
      try simp only [Act.put, nm]
      refine wpAnyH_ready (rs := [6, 7]) (by kernel_rfl) (by simp) ?_
      refine AllReadyH.cons (o := _) rfl (fun K hK => ?_) (AllReadyH.cons (o := _) rfl (fun K hK => ?_) AllReadyH.nil)
      · go_simp
        obtain ⟨v3, hv⟩ : ∃ v, World.alloc v2 (.cells #[.pointer none] 29) = v := ⟨_, rfl⟩
        obtain ⟨k8, hk⟩ : ∃ k, (World.heap v2).size = k := ⟨_, rfl⟩
        have hxs : Xt v2 v3 := by rw [← hv]; exact (Xt.refl _).alloc _
        have HK8 : Hid (v3.heap[k8]? = some (.cells #[.pointer none] 29 (0, 0))) := by unfold Hid; rw [← hv, ← hk]; exact (MapKept.heap_alloc _ _).1
        have hlk8 : w2.heap.size ≤ k8 := by rw [← hk]; exact HXC.out.size
        have hbk8 : hi ≤ k8 := by rw [← hk]; exact HHI.out
        replace HXC := Lib.hid (HXC.out.trans hxs)
        replace HGo := Lib.hid (HGo.out.xt hxs)
        replace HAZ := Lib.hid (HAZ.out.keep (fun b h1 _ => h1) (fun b o _ hlt => World.cell?_of_block (a := ⟨b, o, none⟩) (hxs.block b hlt)))
        replace HHI := Lib.hid (Nat.le_trans HHI.out hxs.size)
        rw [hv]
        try simp only [hk]
        clear hv hk
        refine hK.out _ _ HXC.out (fun hHe => ?_)
        clear hK K hxs
        try simp only [Act.put, nm]
        refine rdH 7 (fun K hK => ?_)
        go_simp
        obtain ⟨v4, hv⟩ : ∃ v, World.alloc v3 (.cells #[.int .i64 0, .int .i64 0, .float .f64 0, .string ⟨#[]⟩, .bool false, .int .i64 0, .int .i64 0, .int .i64 0, .float .f64 0, .string ⟨#[]⟩, .bool false, .int .i64 0, .int .i64 0, .int .i64 0, .bool false, .bool false, .int .i64 0, .int .i64 0, .bool false, .bool false, .slice none 0 0] 51) = v := ⟨_, rfl⟩
        obtain ⟨k9, hk⟩ : ∃ k, (World.heap v3).size = k := ⟨_, rfl⟩
        have hxs : Xt v3 v4 := by rw [← hv]; exact (Xt.refl _).alloc _
        have HK9 : Hid (v4.heap[k9]? = some (.cells #[.int .i64 0, .int .i64 0, .float .f64 0, .string ⟨#[]⟩, .bool false, .int .i64 0, .int .i64 0, .int .i64 0, .float .f64 0, .string ⟨#[]⟩, .bool false, .int .i64 0, .int .i64 0, .int .i64 0, .bool false, .bool false, .int .i64 0, .int .i64 0, .bool false, .bool false, .slice none 0 0] 51 (0, 0))) := by unfold Hid; rw [← hv, ← hk]; exact (MapKept.heap_alloc _ _).1
        have hlk9 : w2.heap.size ≤ k9 := by rw [← hk]; exact HXC.out.size
        have hbk9 : hi ≤ k9 := by rw [← hk]; exact HHI.out
        replace HXC := Lib.hid (HXC.out.trans hxs)
        replace HGo := Lib.hid (HGo.out.xt hxs)
        replace HAZ := Lib.hid (HAZ.out.keep (fun b h1 _ => h1) (fun b o _ hlt => World.cell?_of_block (a := ⟨b, o, none⟩) (hxs.block b hlt)))
        replace HHI := Lib.hid (Nat.le_trans HHI.out hxs.size)
        replace HK8 := Lib.hid (rowX hxs HK8.out)
        rw [hv]
        try simp only [hk]
        clear hv hk
        refine hK.out _ _ HXC.out (fun hHe => ?_)
        clear hK K hxs
        try simp only [Act.put, nm]
        obtain ⟨s0, s1⟩ := one_row HK8.out
        obtain ⟨vS, vE, hvS, hvE, hS9, HXS, HXE, HE8, HE9, HGE, HAE⟩ := fill_end HXC.out HK8.out HK9.out hlk8 hlk9 HGo.out (fun V hV x hx => (HG.out.args x (HSUB.out x hx)).kept (HX0.out.trans (HX2.out.trans hV)).cellsIn) HAZ.out (fun b hb => ⟨by omega, by omega⟩)
        refine rdH 8 (fun K hK => ?_)
        go_simp
        try rw [hvS]
        refine hK.out _ _ HXS.out (fun hHe => ?_)
        clear hK K s0 s1 hvS
        try simp only [Act.put, nm]
        refine rdH 9 (fun K hK => ?_)
        rw [if_pos (by rfl)]
        refine wp_store_row (P := Tryz.prog) 51 _ _ rfl k9 #[.int .i64 zc.1.kind, .int .i64 zc.1.v.kind, .float .f64 zc.1.v.x, .string zc.1.v.s, .bool zc.1.v.b, .int .i64 zc.1.v.f, .int .i64 zc.1.t.kind, .int .i64 zc.1.t.op, .float .f64 zc.1.t.x, .string zc.1.t.s, .bool zc.1.t.b, .int .i64 zc.1.t.f, .int .i64 zc.1.t.ref.a.1, .int .i64 zc.1.t.ref.a.2, .bool zc.1.t.ref.cf, .bool zc.1.t.ref.rf, .int .i64 zc.1.t.to.a.1, .int .i64 zc.1.t.to.a.2, .bool zc.1.t.to.cf, .bool zc.1.t.to.rf, .slice zc.2 zc.1.t.args.length zc.1.t.args.length] rfl rfl 51 _ hS9 (by kernel_rfl) rfl (by simp [Value.oneCell']) ?_
        try rw [hvE]
        refine hK.out _ _ HXE.out (fun hHe => ?_)
        clear hK K hvE hS9
        refine wpAnyH_done (by kernel_rfl) ?_ _
        go_wp2_with fail
        go_meet
        case rel => exact ⟨k8, k9, go, mo, nz, Mo0, zc, rfl, rfl, HXE, HE8, HE9, HGE, HEo, hmo2, hlk8, hlk9, HZ, HAE⟩
      · go_simp
        obtain ⟨v5, hv⟩ : ∃ v, World.alloc v2 (.cells #[.int .i64 0, .int .i64 0, .float .f64 0, .string ⟨#[]⟩, .bool false, .int .i64 0, .int .i64 0, .int .i64 0, .float .f64 0, .string ⟨#[]⟩, .bool false, .int .i64 0, .int .i64 0, .int .i64 0, .bool false, .bool false, .int .i64 0, .int .i64 0, .bool false, .bool false, .slice none 0 0] 51) = v := ⟨_, rfl⟩
        obtain ⟨k9, hk⟩ : ∃ k, (World.heap v2).size = k := ⟨_, rfl⟩
        have hxs : Xt v2 v5 := by rw [← hv]; exact (Xt.refl _).alloc _
        have HK9 : Hid (v5.heap[k9]? = some (.cells #[.int .i64 0, .int .i64 0, .float .f64 0, .string ⟨#[]⟩, .bool false, .int .i64 0, .int .i64 0, .int .i64 0, .float .f64 0, .string ⟨#[]⟩, .bool false, .int .i64 0, .int .i64 0, .int .i64 0, .bool false, .bool false, .int .i64 0, .int .i64 0, .bool false, .bool false, .slice none 0 0] 51 (0, 0))) := by unfold Hid; rw [← hv, ← hk]; exact (MapKept.heap_alloc _ _).1
        have hlk9 : w2.heap.size ≤ k9 := by rw [← hk]; exact HXC.out.size
        have hbk9 : hi ≤ k9 := by rw [← hk]; exact HHI.out
        replace HXC := Lib.hid (HXC.out.trans hxs)
        replace HGo := Lib.hid (HGo.out.xt hxs)
        replace HAZ := Lib.hid (HAZ.out.keep (fun b h1 _ => h1) (fun b o _ hlt => World.cell?_of_block (a := ⟨b, o, none⟩) (hxs.block b hlt)))
        replace HHI := Lib.hid (Nat.le_trans HHI.out hxs.size)
        rw [hv]
        try simp only [hk]
        clear hv hk
        refine hK.out _ _ HXC.out (fun hHe => ?_)
        clear hK K hxs
        try simp only [Act.put, nm]
        refine rdH 6 (fun K hK => ?_)
        go_simp
        obtain ⟨v6, hv⟩ : ∃ v, World.alloc v5 (.cells #[.pointer none] 29) = v := ⟨_, rfl⟩
        obtain ⟨k8, hk⟩ : ∃ k, (World.heap v5).size = k := ⟨_, rfl⟩
        have hxs : Xt v5 v6 := by rw [← hv]; exact (Xt.refl _).alloc _
        have HK8 : Hid (v6.heap[k8]? = some (.cells #[.pointer none] 29 (0, 0))) := by unfold Hid; rw [← hv, ← hk]; exact (MapKept.heap_alloc _ _).1
        have hlk8 : w2.heap.size ≤ k8 := by rw [← hk]; exact HXC.out.size
        have hbk8 : hi ≤ k8 := by rw [← hk]; exact HHI.out
        replace HXC := Lib.hid (HXC.out.trans hxs)
        replace HGo := Lib.hid (HGo.out.xt hxs)
        replace HAZ := Lib.hid (HAZ.out.keep (fun b h1 _ => h1) (fun b o _ hlt => World.cell?_of_block (a := ⟨b, o, none⟩) (hxs.block b hlt)))
        replace HHI := Lib.hid (Nat.le_trans HHI.out hxs.size)
        replace HK9 := Lib.hid (rowX hxs HK9.out)
        rw [hv]
        try simp only [hk]
        clear hv hk
        refine hK.out _ _ HXC.out (fun hHe => ?_)
        clear hK K hxs
        try simp only [Act.put, nm]
        obtain ⟨s0, s1⟩ := one_row HK8.out
        obtain ⟨vS, vE, hvS, hvE, hS9, HXS, HXE, HE8, HE9, HGE, HAE⟩ := fill_end HXC.out HK8.out HK9.out hlk8 hlk9 HGo.out (fun V hV x hx => (HG.out.args x (HSUB.out x hx)).kept (HX0.out.trans (HX2.out.trans hV)).cellsIn) HAZ.out (fun b hb => ⟨by omega, by omega⟩)
        refine rdH 8 (fun K hK => ?_)
        go_simp
        try rw [hvS]
        refine hK.out _ _ HXS.out (fun hHe => ?_)
        clear hK K s0 s1 hvS
        try simp only [Act.put, nm]
        refine rdH 9 (fun K hK => ?_)
        rw [if_pos (by rfl)]
        refine wp_store_row (P := Tryz.prog) 51 _ _ rfl k9 #[.int .i64 zc.1.kind, .int .i64 zc.1.v.kind, .float .f64 zc.1.v.x, .string zc.1.v.s, .bool zc.1.v.b, .int .i64 zc.1.v.f, .int .i64 zc.1.t.kind, .int .i64 zc.1.t.op, .float .f64 zc.1.t.x, .string zc.1.t.s, .bool zc.1.t.b, .int .i64 zc.1.t.f, .int .i64 zc.1.t.ref.a.1, .int .i64 zc.1.t.ref.a.2, .bool zc.1.t.ref.cf, .bool zc.1.t.ref.rf, .int .i64 zc.1.t.to.a.1, .int .i64 zc.1.t.to.a.2, .bool zc.1.t.to.cf, .bool zc.1.t.to.rf, .slice zc.2 zc.1.t.args.length zc.1.t.args.length] rfl rfl 51 _ hS9 (by kernel_rfl) rfl (by simp [Value.oneCell']) ?_
        try rw [hvE]
        refine hK.out _ _ HXE.out (fun hHe => ?_)
        clear hK K hvE hS9
        refine wpAnyH_done (by kernel_rfl) ?_ _
        go_wp2_with fail
        go_meet
        case rel => exact ⟨k8, k9, go, mo, nz, Mo0, zc, rfl, rfl, HXE, HE8, HE9, HGE, HEo, hmo2, hlk8, hlk9, HZ, HAE⟩
    · go_simp
      obtain ⟨v7, hv⟩ : ∃ v, World.alloc v1 (.cells #[.pointer none] 29) = v := ⟨_, rfl⟩
      obtain ⟨k8, hk⟩ : ∃ k, (World.heap v1).size = k := ⟨_, rfl⟩
      have hxs : Xt v1 v7 := by rw [← hv]; exact (Xt.refl _).alloc _
      have HK8 : Hid (v7.heap[k8]? = some (.cells #[.pointer none] 29 (0, 0))) := by unfold Hid; rw [← hv, ← hk]; exact (MapKept.heap_alloc _ _).1
      have hlk8 : w2.heap.size ≤ k8 := by rw [← hk]; exact HXC.out.size
      replace HXC := Lib.hid (HXC.out.trans hxs)
      replace HGo := Lib.hid (HGo.out.xt hxs)
      rw [hv]
      try simp only [hk]
      clear hv hk
      refine hK.out _ _ HXC.out (fun hHe => ?_)
      clear hK K hxs
      try simp only [Act.put, nm]
      refine wpAnyH_ready (rs := [5, 7]) (by kernel_rfl) (by simp) ?_
      refine AllReadyH.cons (o := _) rfl (fun K hK => ?_) (AllReadyH.cons (o := _) rfl (fun K hK => ?_) AllReadyH.nil)
      · go_simp
        obtain ⟨lo, hlo⟩ : ∃ lo, (World.heap v7).size = lo := ⟨_, rfl⟩
        have hbk8 : k8 < lo := by rw [← hlo]; exact (Array.getElem?_eq_some_iff.1 HK8.out).1
        refine (gget_any gb mb M fr _ (HG.out.xt (HX0.out.trans (HX2.out.trans HXC.out)))).mono ?_
        rintro e v8 ⟨nz, a7, rfl, hA7, hxs⟩
        replace HXC := Lib.hid (HXC.out.trans hxs)
        replace HGo := Lib.hid (HGo.out.xt hxs)
        replace HK8 := Lib.hid (rowX hxs HK8.out)
        rw [HU.out] at hA7 ⊢
        obtain ⟨zc, hz1, hz2⟩ : ∃ zc : CE, zc.1 = copyC u ∧ zc.2 = a7 := ⟨(copyC u, a7), rfl, rfl⟩
        have hzv : copyCV u a7 = ceV zc := by rw [← ceV_copy]; obtain ⟨z1, z2⟩ := zc; simp only at hz1 hz2; rw [hz1, hz2]
        rw [hzv]
        obtain ⟨hi, hhi⟩ : ∃ hi, (World.heap v8).size = hi := ⟨_, rfl⟩
        have HAZ : Hid (ArgsS (fun b => lo ≤ b ∧ b < hi) v8 nz (.slice zc.2 zc.1.t.args.length zc.1.t.args.length) zc.1.t.args) := (by unfold Hid; rw [hz1, hz2]; show ArgsS _ _ _ (.slice a7 (copyT u.t).args.length (copyT u.t).args.length) (copyT u.t).args; rw [copyT_len, copyT_args]; exact hA7.keep (fun b h1 h2 => ⟨by rw [← hlo]; exact h1, by rw [← hhi]; exact h2⟩) (fun _ _ _ _ => rfl))
        have HHI : Hid (hi ≤ (World.heap v8).size) := Nat.le_of_eq hhi.symm
        have HZ : Hid (zc.1 = copyC u) := hz1
        clear hA7 hz1 hz2 hzv hlo hhi
        refine hK.out _ _ HXC.out (fun hHe => ?_)
        clear hK K hxs
        try simp only [Act.put, nm]
        refine rdH 7 (fun K hK => ?_)
        go_simp
        obtain ⟨v9, hv⟩ : ∃ v, World.alloc v8 (.cells #[.int .i64 0, .int .i64 0, .float .f64 0, .string ⟨#[]⟩, .bool false, .int .i64 0, .int .i64 0, .int .i64 0, .float .f64 0, .string ⟨#[]⟩, .bool false, .int .i64 0, .int .i64 0, .int .i64 0, .bool false, .bool false, .int .i64 0, .int .i64 0, .bool false, .bool false, .slice none 0 0] 51) = v := ⟨_, rfl⟩
        obtain ⟨k9, hk⟩ : ∃ k, (World.heap v8).size = k := ⟨_, rfl⟩
        have hxs : Xt v8 v9 := by rw [← hv]; exact (Xt.refl _).alloc _
        have HK9 : Hid (v9.heap[k9]? = some (.cells #[.int .i64 0, .int .i64 0, .float .f64 0, .string ⟨#[]⟩, .bool false, .int .i64 0, .int .i64 0, .int .i64 0, .float .f64 0, .string ⟨#[]⟩, .bool false, .int .i64 0, .int .i64 0, .int .i64 0, .bool false, .bool false, .int .i64 0, .int .i64 0, .bool false, .bool false, .slice none 0 0] 51 (0, 0))) := by unfold Hid; rw [← hv, ← hk]; exact (MapKept.heap_alloc _ _).1
        have hlk9 : w2.heap.size ≤ k9 := by rw [← hk]; exact HXC.out.size
        have hbk9 : hi ≤ k9 := by rw [← hk]; exact HHI.out
        replace HXC := Lib.hid (HXC.out.trans hxs)
        replace HGo := Lib.hid (HGo.out.xt hxs)
        replace HK8 := Lib.hid (rowX hxs HK8.out)
        replace HAZ := Lib.hid (HAZ.out.keep (fun b h1 _ => h1) (fun b o _ hlt => World.cell?_of_block (a := ⟨b, o, none⟩) (hxs.block b hlt)))
        replace HHI := Lib.hid (Nat.le_trans HHI.out hxs.size)
        rw [hv]
        try simp only [hk]
        clear hv hk
        refine hK.out _ _ HXC.out (fun hHe => ?_)
        clear hK K hxs
        try simp only [Act.put, nm]
        obtain ⟨s0, s1⟩ := one_row HK8.out
        obtain ⟨vS, vE, hvS, hvE, hS9, HXS, HXE, HE8, HE9, HGE, HAE⟩ := fill_end HXC.out HK8.out HK9.out hlk8 hlk9 HGo.out (fun V hV x hx => (HG.out.args x (HSUB.out x hx)).kept (HX0.out.trans (HX2.out.trans hV)).cellsIn) HAZ.out (fun b hb => ⟨by omega, by omega⟩)
        refine rdH 8 (fun K hK => ?_)
        go_simp
        try rw [hvS]
        refine hK.out _ _ HXS.out (fun hHe => ?_)
        clear hK K s0 s1 hvS
        try simp only [Act.put, nm]
        refine rdH 9 (fun K hK => ?_)
        rw [if_pos (by rfl)]
        refine wp_store_row (P := Tryz.prog) 51 _ _ rfl k9 #[.int .i64 zc.1.kind, .int .i64 zc.1.v.kind, .float .f64 zc.1.v.x, .string zc.1.v.s, .bool zc.1.v.b, .int .i64 zc.1.v.f, .int .i64 zc.1.t.kind, .int .i64 zc.1.t.op, .float .f64 zc.1.t.x, .string zc.1.t.s, .bool zc.1.t.b, .int .i64 zc.1.t.f, .int .i64 zc.1.t.ref.a.1, .int .i64 zc.1.t.ref.a.2, .bool zc.1.t.ref.cf, .bool zc.1.t.ref.rf, .int .i64 zc.1.t.to.a.1, .int .i64 zc.1.t.to.a.2, .bool zc.1.t.to.cf, .bool zc.1.t.to.rf, .slice zc.2 zc.1.t.args.length zc.1.t.args.length] rfl rfl 51 _ hS9 (by kernel_rfl) rfl (by simp [Value.oneCell']) ?_
        try rw [hvE]
        refine hK.out _ _ HXE.out (fun hHe => ?_)
        clear hK K hvE hS9
        refine wpAnyH_done (by kernel_rfl) ?_ _
        go_wp2_with fail
        go_meet
        case rel => exact ⟨k8, k9, go, mo, nz, Mo0, zc, rfl, rfl, HXE, HE8, HE9, HGE, HEo, hmo2, hlk8, hlk9, HZ, HAE⟩
      · go_simp
        obtain ⟨v10, hv⟩ : ∃ v, World.alloc v7 (.cells #[.int .i64 0, .int .i64 0, .float .f64 0, .string ⟨#[]⟩, .bool false, .int .i64 0, .int .i64 0, .int .i64 0, .float .f64 0, .string ⟨#[]⟩, .bool false, .int .i64 0, .int .i64 0, .int .i64 0, .bool false, .bool false, .int .i64 0, .int .i64 0, .bool false, .bool false, .slice none 0 0] 51) = v := ⟨_, rfl⟩
        obtain ⟨k9, hk⟩ : ∃ k, (World.heap v7).size = k := ⟨_, rfl⟩
        have hxs : Xt v7 v10 := by rw [← hv]; exact (Xt.refl _).alloc _
        have HK9 : Hid (v10.heap[k9]? = some (.cells #[.int .i64 0, .int .i64 0, .float .f64 0, .string ⟨#[]⟩, .bool false, .int .i64 0, .int .i64 0, .int .i64 0, .float .f64 0, .string ⟨#[]⟩, .bool false, .int .i64 0, .int .i64 0, .int .i64 0, .bool false, .bool false, .int .i64 0, .int .i64 0, .bool false, .bool false, .slice none 0 0] 51 (0, 0))) := by unfold Hid; rw [← hv, ← hk]; exact (MapKept.heap_alloc _ _).1
        have hlk9 : w2.heap.size ≤ k9 := by rw [← hk]; exact HXC.out.size
        replace HXC := Lib.hid (HXC.out.trans hxs)
        replace HGo := Lib.hid (HGo.out.xt hxs)
        replace HK8 := Lib.hid (rowX hxs HK8.out)
        rw [hv]
        try simp only [hk]
        clear hv hk
        refine hK.out _ _ HXC.out (fun hHe => ?_)
        clear hK K hxs
        try simp only [Act.put, nm]
        refine rdH 5 (fun K hK => ?_)
        go_simp
        obtain ⟨lo, hlo⟩ : ∃ lo, (World.heap v10).size = lo := ⟨_, rfl⟩
        have hbk8 : k8 < lo := by rw [← hlo]; exact (Array.getElem?_eq_some_iff.1 HK8.out).1
        have hbk9 : k9 < lo := by rw [← hlo]; exact (Array.getElem?_eq_some_iff.1 HK9.out).1
        refine (gget_any gb mb M fr _ (HG.out.xt (HX0.out.trans (HX2.out.trans HXC.out)))).mono ?_
        rintro e v11 ⟨nz, a7, rfl, hA7, hxs⟩
        replace HXC := Lib.hid (HXC.out.trans hxs)
        replace HGo := Lib.hid (HGo.out.xt hxs)
        replace HK8 := Lib.hid (rowX hxs HK8.out)
        replace HK9 := Lib.hid (rowX hxs HK9.out)
        rw [HU.out] at hA7 ⊢
        obtain ⟨zc, hz1, hz2⟩ : ∃ zc : CE, zc.1 = copyC u ∧ zc.2 = a7 := ⟨(copyC u, a7), rfl, rfl⟩
        have hzv : copyCV u a7 = ceV zc := by rw [← ceV_copy]; obtain ⟨z1, z2⟩ := zc; simp only at hz1 hz2; rw [hz1, hz2]
        rw [hzv]
        obtain ⟨hi, hhi⟩ : ∃ hi, (World.heap v11).size = hi := ⟨_, rfl⟩
        have HAZ : Hid (ArgsS (fun b => lo ≤ b ∧ b < hi) v11 nz (.slice zc.2 zc.1.t.args.length zc.1.t.args.length) zc.1.t.args) := (by unfold Hid; rw [hz1, hz2]; show ArgsS _ _ _ (.slice a7 (copyT u.t).args.length (copyT u.t).args.length) (copyT u.t).args; rw [copyT_len, copyT_args]; exact hA7.keep (fun b h1 h2 => ⟨by rw [← hlo]; exact h1, by rw [← hhi]; exact h2⟩) (fun _ _ _ _ => rfl))
        have HHI : Hid (hi ≤ (World.heap v11).size) := Nat.le_of_eq hhi.symm
        have HZ : Hid (zc.1 = copyC u) := hz1
        clear hA7 hz1 hz2 hzv hlo hhi
        refine hK.out _ _ HXC.out (fun hHe => ?_)
        clear hK K hxs
        try simp only [Act.put, nm]
        obtain ⟨s0, s1⟩ := one_row HK8.out
        obtain ⟨vS, vE, hvS, hvE, hS9, HXS, HXE, HE8, HE9, HGE, HAE⟩ := fill_end HXC.out HK8.out HK9.out hlk8 hlk9 HGo.out (fun V hV x hx => (HG.out.args x (HSUB.out x hx)).kept (HX0.out.trans (HX2.out.trans hV)).cellsIn) HAZ.out (fun b hb => ⟨by omega, by omega⟩)
        refine rdH 8 (fun K hK => ?_)
        go_simp
        try rw [hvS]
        refine hK.out _ _ HXS.out (fun hHe => ?_)
        clear hK K s0 s1 hvS
        try simp only [Act.put, nm]
        refine rdH 9 (fun K hK => ?_)
        rw [if_pos (by rfl)]
        refine wp_store_row (P := Tryz.prog) 51 _ _ rfl k9 #[.int .i64 zc.1.kind, .int .i64 zc.1.v.kind, .float .f64 zc.1.v.x, .string zc.1.v.s, .bool zc.1.v.b, .int .i64 zc.1.v.f, .int .i64 zc.1.t.kind, .int .i64 zc.1.t.op, .float .f64 zc.1.t.x, .string zc.1.t.s, .bool zc.1.t.b, .int .i64 zc.1.t.f, .int .i64 zc.1.t.ref.a.1, .int .i64 zc.1.t.ref.a.2, .bool zc.1.t.ref.cf, .bool zc.1.t.ref.rf, .int .i64 zc.1.t.to.a.1, .int .i64 zc.1.t.to.a.2, .bool zc.1.t.to.cf, .bool zc.1.t.to.rf, .slice zc.2 zc.1.t.args.length zc.1.t.args.length] rfl rfl 51 _ hS9 (by kernel_rfl) rfl (by simp [Value.oneCell']) ?_
        try rw [hvE]
        refine hK.out _ _ HXE.out (fun hHe => ?_)
        clear hK K hvE hS9
        refine wpAnyH_done (by kernel_rfl) ?_ _
        go_wp2_with fail
        go_meet
        case rel => exact ⟨k8, k9, go, mo, nz, Mo0, zc, rfl, rfl, HXE, HE8, HE9, HGE, HEo, hmo2, hlk8, hlk9, HZ, HAE⟩
    · go_simp
      obtain ⟨v12, hv⟩ : ∃ v, World.alloc v1 (.cells #[.int .i64 0, .int .i64 0, .float .f64 0, .string ⟨#[]⟩, .bool false, .int .i64 0, .int .i64 0, .int .i64 0, .float .f64 0, .string ⟨#[]⟩, .bool false, .int .i64 0, .int .i64 0, .int .i64 0, .bool false, .bool false, .int .i64 0, .int .i64 0, .bool false, .bool false, .slice none 0 0] 51) = v := ⟨_, rfl⟩
      obtain ⟨k9, hk⟩ : ∃ k, (World.heap v1).size = k := ⟨_, rfl⟩
      have hxs : Xt v1 v12 := by rw [← hv]; exact (Xt.refl _).alloc _
      have HK9 : Hid (v12.heap[k9]? = some (.cells #[.int .i64 0, .int .i64 0, .float .f64 0, .string ⟨#[]⟩, .bool false, .int .i64 0, .int .i64 0, .int .i64 0, .float .f64 0, .string ⟨#[]⟩, .bool false, .int .i64 0, .int .i64 0, .int .i64 0, .bool false, .bool false, .int .i64 0, .int .i64 0, .bool false, .bool false, .slice none 0 0] 51 (0, 0))) := by unfold Hid; rw [← hv, ← hk]; exact (MapKept.heap_alloc _ _).1
      have hlk9 : w2.heap.size ≤ k9 := by rw [← hk]; exact HXC.out.size
      replace HXC := Lib.hid (HXC.out.trans hxs)
      replace HGo := Lib.hid (HGo.out.xt hxs)
      rw [hv]
      try simp only [hk]
      clear hv hk
      refine hK.out _ _ HXC.out (fun hHe => ?_)
      clear hK K hxs
      try simp only [Act.put, nm]
      refine wpAnyH_ready (rs := [5, 6]) (by kernel_rfl) (by simp) ?_
      refine AllReadyH.cons (o := _) rfl (fun K hK => ?_) (AllReadyH.cons (o := _) rfl (fun K hK => ?_) AllReadyH.nil)
      · go_simp
        obtain ⟨lo, hlo⟩ : ∃ lo, (World.heap v12).size = lo := ⟨_, rfl⟩
        have hbk9 : k9 < lo := by rw [← hlo]; exact (Array.getElem?_eq_some_iff.1 HK9.out).1
        refine (gget_any gb mb M fr _ (HG.out.xt (HX0.out.trans (HX2.out.trans HXC.out)))).mono ?_
        rintro e v13 ⟨nz, a7, rfl, hA7, hxs⟩
        replace HXC := Lib.hid (HXC.out.trans hxs)
        replace HGo := Lib.hid (HGo.out.xt hxs)
        replace HK9 := Lib.hid (rowX hxs HK9.out)
        rw [HU.out] at hA7 ⊢
        obtain ⟨zc, hz1, hz2⟩ : ∃ zc : CE, zc.1 = copyC u ∧ zc.2 = a7 := ⟨(copyC u, a7), rfl, rfl⟩
        have hzv : copyCV u a7 = ceV zc := by rw [← ceV_copy]; obtain ⟨z1, z2⟩ := zc; simp only at hz1 hz2; rw [hz1, hz2]
        rw [hzv]
        obtain ⟨hi, hhi⟩ : ∃ hi, (World.heap v13).size = hi := ⟨_, rfl⟩
        have HAZ : Hid (ArgsS (fun b => lo ≤ b ∧ b < hi) v13 nz (.slice zc.2 zc.1.t.args.length zc.1.t.args.length) zc.1.t.args) := (by unfold Hid; rw [hz1, hz2]; show ArgsS _ _ _ (.slice a7 (copyT u.t).args.length (copyT u.t).args.length) (copyT u.t).args; rw [copyT_len, copyT_args]; exact hA7.keep (fun b h1 h2 => ⟨by rw [← hlo]; exact h1, by rw [← hhi]; exact h2⟩) (fun _ _ _ _ => rfl))
        have HHI : Hid (hi ≤ (World.heap v13).size) := Nat.le_of_eq hhi.symm
        have HZ : Hid (zc.1 = copyC u) := hz1
        clear hA7 hz1 hz2 hzv hlo hhi
        refine hK.out _ _ HXC.out (fun hHe => ?_)
        clear hK K hxs
        try simp only [Act.put, nm]
        refine rdH 6 (fun K hK => ?_)
        go_simp
        obtain ⟨v14, hv⟩ : ∃ v, World.alloc v13 (.cells #[.pointer none] 29) = v := ⟨_, rfl⟩
        obtain ⟨k8, hk⟩ : ∃ k, (World.heap v13).size = k := ⟨_, rfl⟩
        have hxs : Xt v13 v14 := by rw [← hv]; exact (Xt.refl _).alloc _
        have HK8 : Hid (v14.heap[k8]? = some (.cells #[.pointer none] 29 (0, 0))) := by unfold Hid; rw [← hv, ← hk]; exact (MapKept.heap_alloc _ _).1
        have hlk8 : w2.heap.size ≤ k8 := by rw [← hk]; exact HXC.out.size
        have hbk8 : hi ≤ k8 := by rw [← hk]; exact HHI.out
        replace HXC := Lib.hid (HXC.out.trans hxs)
        replace HGo := Lib.hid (HGo.out.xt hxs)
        replace HK9 := Lib.hid (rowX hxs HK9.out)
        replace HAZ := Lib.hid (HAZ.out.keep (fun b h1 _ => h1) (fun b o _ hlt => World.cell?_of_block (a := ⟨b, o, none⟩) (hxs.block b hlt)))
        replace HHI := Lib.hid (Nat.le_trans HHI.out hxs.size)
        rw [hv]
        try simp only [hk]
        clear hv hk
        refine hK.out _ _ HXC.out (fun hHe => ?_)
        clear hK K hxs
        try simp only [Act.put, nm]
        obtain ⟨s0, s1⟩ := one_row HK8.out
        obtain ⟨vS, vE, hvS, hvE, hS9, HXS, HXE, HE8, HE9, HGE, HAE⟩ := fill_end HXC.out HK8.out HK9.out hlk8 hlk9 HGo.out (fun V hV x hx => (HG.out.args x (HSUB.out x hx)).kept (HX0.out.trans (HX2.out.trans hV)).cellsIn) HAZ.out (fun b hb => ⟨by omega, by omega⟩)
        refine rdH 8 (fun K hK => ?_)
        go_simp
        try rw [hvS]
        refine hK.out _ _ HXS.out (fun hHe => ?_)
        clear hK K s0 s1 hvS
        try simp only [Act.put, nm]
        refine rdH 9 (fun K hK => ?_)
        rw [if_pos (by rfl)]
        refine wp_store_row (P := Tryz.prog) 51 _ _ rfl k9 #[.int .i64 zc.1.kind, .int .i64 zc.1.v.kind, .float .f64 zc.1.v.x, .string zc.1.v.s, .bool zc.1.v.b, .int .i64 zc.1.v.f, .int .i64 zc.1.t.kind, .int .i64 zc.1.t.op, .float .f64 zc.1.t.x, .string zc.1.t.s, .bool zc.1.t.b, .int .i64 zc.1.t.f, .int .i64 zc.1.t.ref.a.1, .int .i64 zc.1.t.ref.a.2, .bool zc.1.t.ref.cf, .bool zc.1.t.ref.rf, .int .i64 zc.1.t.to.a.1, .int .i64 zc.1.t.to.a.2, .bool zc.1.t.to.cf, .bool zc.1.t.to.rf, .slice zc.2 zc.1.t.args.length zc.1.t.args.length] rfl rfl 51 _ hS9 (by kernel_rfl) rfl (by simp [Value.oneCell']) ?_
        try rw [hvE]
        refine hK.out _ _ HXE.out (fun hHe => ?_)
        clear hK K hvE hS9
        refine wpAnyH_done (by kernel_rfl) ?_ _
        go_wp2_with fail
        go_meet
        case rel => exact ⟨k8, k9, go, mo, nz, Mo0, zc, rfl, rfl, HXE, HE8, HE9, HGE, HEo, hmo2, hlk8, hlk9, HZ, HAE⟩
      · go_simp
        obtain ⟨v15, hv⟩ : ∃ v, World.alloc v12 (.cells #[.pointer none] 29) = v := ⟨_, rfl⟩
        obtain ⟨k8, hk⟩ : ∃ k, (World.heap v12).size = k := ⟨_, rfl⟩
        have hxs : Xt v12 v15 := by rw [← hv]; exact (Xt.refl _).alloc _
        have HK8 : Hid (v15.heap[k8]? = some (.cells #[.pointer none] 29 (0, 0))) := by unfold Hid; rw [← hv, ← hk]; exact (MapKept.heap_alloc _ _).1
        have hlk8 : w2.heap.size ≤ k8 := by rw [← hk]; exact HXC.out.size
        replace HXC := Lib.hid (HXC.out.trans hxs)
        replace HGo := Lib.hid (HGo.out.xt hxs)
        replace HK9 := Lib.hid (rowX hxs HK9.out)
        rw [hv]
        try simp only [hk]
        clear hv hk
        refine hK.out _ _ HXC.out (fun hHe => ?_)
        clear hK K hxs
        try simp only [Act.put, nm]
        refine rdH 5 (fun K hK => ?_)
        go_simp
        obtain ⟨lo, hlo⟩ : ∃ lo, (World.heap v15).size = lo := ⟨_, rfl⟩
        have hbk8 : k8 < lo := by rw [← hlo]; exact (Array.getElem?_eq_some_iff.1 HK8.out).1
        have hbk9 : k9 < lo := by rw [← hlo]; exact (Array.getElem?_eq_some_iff.1 HK9.out).1
        refine (gget_any gb mb M fr _ (HG.out.xt (HX0.out.trans (HX2.out.trans HXC.out)))).mono ?_
        rintro e v16 ⟨nz, a7, rfl, hA7, hxs⟩
        replace HXC := Lib.hid (HXC.out.trans hxs)
        replace HGo := Lib.hid (HGo.out.xt hxs)
        replace HK9 := Lib.hid (rowX hxs HK9.out)
        replace HK8 := Lib.hid (rowX hxs HK8.out)
        rw [HU.out] at hA7 ⊢
        obtain ⟨zc, hz1, hz2⟩ : ∃ zc : CE, zc.1 = copyC u ∧ zc.2 = a7 := ⟨(copyC u, a7), rfl, rfl⟩
        have hzv : copyCV u a7 = ceV zc := by rw [← ceV_copy]; obtain ⟨z1, z2⟩ := zc; simp only at hz1 hz2; rw [hz1, hz2]
        rw [hzv]
        obtain ⟨hi, hhi⟩ : ∃ hi, (World.heap v16).size = hi := ⟨_, rfl⟩
        have HAZ : Hid (ArgsS (fun b => lo ≤ b ∧ b < hi) v16 nz (.slice zc.2 zc.1.t.args.length zc.1.t.args.length) zc.1.t.args) := (by unfold Hid; rw [hz1, hz2]; show ArgsS _ _ _ (.slice a7 (copyT u.t).args.length (copyT u.t).args.length) (copyT u.t).args; rw [copyT_len, copyT_args]; exact hA7.keep (fun b h1 h2 => ⟨by rw [← hlo]; exact h1, by rw [← hhi]; exact h2⟩) (fun _ _ _ _ => rfl))
        have HHI : Hid (hi ≤ (World.heap v16).size) := Nat.le_of_eq hhi.symm
        have HZ : Hid (zc.1 = copyC u) := hz1
        clear hA7 hz1 hz2 hzv hlo hhi
        refine hK.out _ _ HXC.out (fun hHe => ?_)
        clear hK K hxs
        try simp only [Act.put, nm]
        obtain ⟨s0, s1⟩ := one_row HK8.out
        obtain ⟨vS, vE, hvS, hvE, hS9, HXS, HXE, HE8, HE9, HGE, HAE⟩ := fill_end HXC.out HK8.out HK9.out hlk8 hlk9 HGo.out (fun V hV x hx => (HG.out.args x (HSUB.out x hx)).kept (HX0.out.trans (HX2.out.trans hV)).cellsIn) HAZ.out (fun b hb => ⟨by omega, by omega⟩)
        refine rdH 8 (fun K hK => ?_)
        go_simp
        try rw [hvS]
        refine hK.out _ _ HXS.out (fun hHe => ?_)
        clear hK K s0 s1 hvS
        try simp only [Act.put, nm]
        refine rdH 9 (fun K hK => ?_)
        rw [if_pos (by rfl)]
        refine wp_store_row (P := Tryz.prog) 51 _ _ rfl k9 #[.int .i64 zc.1.kind, .int .i64 zc.1.v.kind, .float .f64 zc.1.v.x, .string zc.1.v.s, .bool zc.1.v.b, .int .i64 zc.1.v.f, .int .i64 zc.1.t.kind, .int .i64 zc.1.t.op, .float .f64 zc.1.t.x, .string zc.1.t.s, .bool zc.1.t.b, .int .i64 zc.1.t.f, .int .i64 zc.1.t.ref.a.1, .int .i64 zc.1.t.ref.a.2, .bool zc.1.t.ref.cf, .bool zc.1.t.ref.rf, .int .i64 zc.1.t.to.a.1, .int .i64 zc.1.t.to.a.2, .bool zc.1.t.to.cf, .bool zc.1.t.to.rf, .slice zc.2 zc.1.t.args.length zc.1.t.args.length] rfl rfl 51 _ hS9 (by kernel_rfl) rfl (by simp [Value.oneCell']) ?_
        try rw [hvE]
        refine hK.out _ _ HXE.out (fun hHe => ?_)
        clear hK K hvE hS9
        refine wpAnyH_done (by kernel_rfl) ?_ _
        go_wp2_with fail
        go_meet
        case rel => exact ⟨k8, k9, go, mo, nz, Mo0, zc, rfl, rfl, HXE, HE8, HE9, HGE, HEo, hmo2, hlk8, hlk9, HZ, HAE⟩
  · go_simp
    obtain ⟨v17, hv⟩ : ∃ v, World.alloc w2.drew (.cells #[.pointer none] 29) = v := ⟨_, rfl⟩
    obtain ⟨k8, hk⟩ : ∃ k, (World.heap w2.drew).size = k := ⟨_, rfl⟩
    have hxs : Xt w2.drew v17 := by rw [← hv]; exact (Xt.refl _).alloc _
    have HK8 : Hid (v17.heap[k8]? = some (.cells #[.pointer none] 29 (0, 0))) := by unfold Hid; rw [← hv, ← hk]; exact (MapKept.heap_alloc _ _).1
    have hlk8 : w2.heap.size ≤ k8 := by rw [← hk]; exact HXC.out.size
    replace HXC := Lib.hid (HXC.out.trans hxs)
    rw [show (World.alloc w2 (.cells #[.pointer none] 29)).drew = v17 from hv]
    try simp only [show w2.heap.size = k8 from hk]
    clear hv hk
    refine hK.out _ _ HXC.out (fun hHe => ?_)
    clear hK K hxs
    try simp only [Act.put, nm]
    refine wpAnyH_ready (rs := [2, 7]) (by kernel_rfl) (by simp) ?_
    refine AllReadyH.cons (o := _) rfl (fun K hK => ?_) (AllReadyH.cons (o := _) rfl (fun K hK => ?_) AllReadyH.nil)
    · go_simp
      refine (cleared_any t gb mb M _ (HG.out.xt (HX0.out.trans (HX2.out.trans HXC.out))) (HT.out.xt (HX0.out.trans (HX2.out.trans HXC.out))) HO.out).mono ?_
      rintro e v18 ⟨hxs, go, mo, Mo0, rfl, hGo, hEo, hmo, hgo, hsub⟩
      have hszc := HXC.out.size
      have hmo2 : w2.heap.size ≤ mo ∧ w2.heap.size ≤ go := by omega
      replace HXC := Lib.hid (HXC.out.trans hxs)
      replace HK8 := Lib.hid (rowX hxs HK8.out)
      have HGo := Lib.hid hGo
      have HEo := Lib.hid hEo
      have HSUB := Lib.hid hsub
      clear hGo hEo hmo hgo hsub hszc
      refine hK.out _ _ HXC.out (fun hHe => ?_)
      clear hK K hxs
      try simp only [Act.put, nm]
      refine wpAnyH_ready (rs := [5, 7]) (by kernel_rfl) (by simp) ?_
      refine AllReadyH.cons (o := _) rfl (fun K hK => ?_) (AllReadyH.cons (o := _) rfl (fun K hK => ?_) AllReadyH.nil)
      · go_simp
        obtain ⟨lo, hlo⟩ : ∃ lo, (World.heap v18).size = lo := ⟨_, rfl⟩
        have hbk8 : k8 < lo := by rw [← hlo]; exact (Array.getElem?_eq_some_iff.1 HK8.out).1
        refine (gget_any gb mb M fr _ (HG.out.xt (HX0.out.trans (HX2.out.trans HXC.out)))).mono ?_
        rintro e v19 ⟨nz, a7, rfl, hA7, hxs⟩
        replace HXC := Lib.hid (HXC.out.trans hxs)
        replace HK8 := Lib.hid (rowX hxs HK8.out)
        replace HGo := Lib.hid (HGo.out.xt hxs)
        rw [HU.out] at hA7 ⊢
        obtain ⟨zc, hz1, hz2⟩ : ∃ zc : CE, zc.1 = copyC u ∧ zc.2 = a7 := ⟨(copyC u, a7), rfl, rfl⟩
        have hzv : copyCV u a7 = ceV zc := by rw [← ceV_copy]; obtain ⟨z1, z2⟩ := zc; simp only at hz1 hz2; rw [hz1, hz2]
        rw [hzv]
        obtain ⟨hi, hhi⟩ : ∃ hi, (World.heap v19).size = hi := ⟨_, rfl⟩
        have HAZ : Hid (ArgsS (fun b => lo ≤ b ∧ b < hi) v19 nz (.slice zc.2 zc.1.t.args.length zc.1.t.args.length) zc.1.t.args) := (by unfold Hid; rw [hz1, hz2]; show ArgsS _ _ _ (.slice a7 (copyT u.t).args.length (copyT u.t).args.length) (copyT u.t).args; rw [copyT_len, copyT_args]; exact hA7.keep (fun b h1 h2 => ⟨by rw [← hlo]; exact h1, by rw [← hhi]; exact h2⟩) (fun _ _ _ _ => rfl))
        have HHI : Hid (hi ≤ (World.heap v19).size) := Nat.le_of_eq hhi.symm
        have HZ : Hid (zc.1 = copyC u) := hz1
        clear hA7 hz1 hz2 hzv hlo hhi
        refine hK.out _ _ HXC.out (fun hHe => ?_)
        clear hK K hxs
        try simp only [Act.put, nm]
        refine rdH 7 (fun K hK => ?_)
        go_simp
        obtain ⟨v20, hv⟩ : ∃ v, World.alloc v19 (.cells #[.int .i64 0, .int .i64 0, .float .f64 0, .string ⟨#[]⟩, .bool false, .int .i64 0, .int .i64 0, .int .i64 0, .float .f64 0, .string ⟨#[]⟩, .bool false, .int .i64 0, .int .i64 0, .int .i64 0, .bool false, .bool false, .int .i64 0, .int .i64 0, .bool false, .bool false, .slice none 0 0] 51) = v := ⟨_, rfl⟩
        obtain ⟨k9, hk⟩ : ∃ k, (World.heap v19).size = k := ⟨_, rfl⟩
        have hxs : Xt v19 v20 := by rw [← hv]; exact (Xt.refl _).alloc _
        have HK9 : Hid (v20.heap[k9]? = some (.cells #[.int .i64 0, .int .i64 0, .float .f64 0, .string ⟨#[]⟩, .bool false, .int .i64 0, .int .i64 0, .int .i64 0, .float .f64 0, .string ⟨#[]⟩, .bool false, .int .i64 0, .int .i64 0, .int .i64 0, .bool false, .bool false, .int .i64 0, .int .i64 0, .bool false, .bool false, .slice none 0 0] 51 (0, 0))) := by unfold Hid; rw [← hv, ← hk]; exact (MapKept.heap_alloc _ _).1
        have hlk9 : w2.heap.size ≤ k9 := by rw [← hk]; exact HXC.out.size
        have hbk9 : hi ≤ k9 := by rw [← hk]; exact HHI.out
        replace HXC := Lib.hid (HXC.out.trans hxs)
        replace HK8 := Lib.hid (rowX hxs HK8.out)
        replace HGo := Lib.hid (HGo.out.xt hxs)
        replace HAZ := Lib.hid (HAZ.out.keep (fun b h1 _ => h1) (fun b o _ hlt => World.cell?_of_block (a := ⟨b, o, none⟩) (hxs.block b hlt)))
        replace HHI := Lib.hid (Nat.le_trans HHI.out hxs.size)
        rw [hv]
        try simp only [hk]
        clear hv hk
        refine hK.out _ _ HXC.out (fun hHe => ?_)
        clear hK K hxs
        try simp only [Act.put, nm]
        obtain ⟨s0, s1⟩ := one_row HK8.out
        obtain ⟨vS, vE, hvS, hvE, hS9, HXS, HXE, HE8, HE9, HGE, HAE⟩ := fill_end HXC.out HK8.out HK9.out hlk8 hlk9 HGo.out (fun V hV x hx => (HG.out.args x (HSUB.out x hx)).kept (HX0.out.trans (HX2.out.trans hV)).cellsIn) HAZ.out (fun b hb => ⟨by omega, by omega⟩)
        refine rdH 8 (fun K hK => ?_)
        go_simp
        try rw [hvS]
        refine hK.out _ _ HXS.out (fun hHe => ?_)
        clear hK K s0 s1 hvS
        try simp only [Act.put, nm]
        refine rdH 9 (fun K hK => ?_)
        rw [if_pos (by rfl)]
        refine wp_store_row (P := Tryz.prog) 51 _ _ rfl k9 #[.int .i64 zc.1.kind, .int .i64 zc.1.v.kind, .float .f64 zc.1.v.x, .string zc.1.v.s, .bool zc.1.v.b, .int .i64 zc.1.v.f, .int .i64 zc.1.t.kind, .int .i64 zc.1.t.op, .float .f64 zc.1.t.x, .string zc.1.t.s, .bool zc.1.t.b, .int .i64 zc.1.t.f, .int .i64 zc.1.t.ref.a.1, .int .i64 zc.1.t.ref.a.2, .bool zc.1.t.ref.cf, .bool zc.1.t.ref.rf, .int .i64 zc.1.t.to.a.1, .int .i64 zc.1.t.to.a.2, .bool zc.1.t.to.cf, .bool zc.1.t.to.rf, .slice zc.2 zc.1.t.args.length zc.1.t.args.length] rfl rfl 51 _ hS9 (by kernel_rfl) rfl (by simp [Value.oneCell']) ?_
        try rw [hvE]
        refine hK.out _ _ HXE.out (fun hHe => ?_)
        clear hK K hvE hS9
        refine wpAnyH_done (by kernel_rfl) ?_ _
        go_wp2_with fail
        go_meet
        case rel => exact ⟨k8, k9, go, mo, nz, Mo0, zc, rfl, rfl, HXE, HE8, HE9, HGE, HEo, hmo2, hlk8, hlk9, HZ, HAE⟩
      · go_simp
        obtain ⟨v21, hv⟩ : ∃ v, World.alloc v18 (.cells #[.int .i64 0, .int .i64 0, .float .f64 0, .string ⟨#[]⟩, .bool false, .int .i64 0, .int .i64 0, .int .i64 0, .float .f64 0, .string ⟨#[]⟩, .bool false, .int .i64 0, .int .i64 0, .int .i64 0, .bool false, .bool false, .int .i64 0, .int .i64 0, .bool false, .bool false, .slice none 0 0] 51) = v := ⟨_, rfl⟩
        obtain ⟨k9, hk⟩ : ∃ k, (World.heap v18).size = k := ⟨_, rfl⟩
        have hxs : Xt v18 v21 := by rw [← hv]; exact (Xt.refl _).alloc _
        have HK9 : Hid (v21.heap[k9]? = some (.cells #[.int .i64 0, .int .i64 0, .float .f64 0, .string ⟨#[]⟩, .bool false, .int .i64 0, .int .i64 0, .int .i64 0, .float .f64 0, .string ⟨#[]⟩, .bool false, .int .i64 0, .int .i64 0, .int .i64 0, .bool false, .bool false, .int .i64 0, .int .i64 0, .bool false, .bool false, .slice none 0 0] 51 (0, 0))) := by unfold Hid; rw [← hv, ← hk]; exact (MapKept.heap_alloc _ _).1
        have hlk9 : w2.heap.size ≤ k9 := by rw [← hk]; exact HXC.out.size
        replace HXC := Lib.hid (HXC.out.trans hxs)
        replace HK8 := Lib.hid (rowX hxs HK8.out)
        replace HGo := Lib.hid (HGo.out.xt hxs)
        rw [hv]
        try simp only [hk]
        clear hv hk
        refine hK.out _ _ HXC.out (fun hHe => ?_)
        clear hK K hxs
        try simp only [Act.put, nm]
        refine rdH 5 (fun K hK => ?_)
        go_simp
        obtain ⟨lo, hlo⟩ : ∃ lo, (World.heap v21).size = lo := ⟨_, rfl⟩
        have hbk8 : k8 < lo := by rw [← hlo]; exact (Array.getElem?_eq_some_iff.1 HK8.out).1
        have hbk9 : k9 < lo := by rw [← hlo]; exact (Array.getElem?_eq_some_iff.1 HK9.out).1
        refine (gget_any gb mb M fr _ (HG.out.xt (HX0.out.trans (HX2.out.trans HXC.out)))).mono ?_
        rintro e v22 ⟨nz, a7, rfl, hA7, hxs⟩
        replace HXC := Lib.hid (HXC.out.trans hxs)
        replace HK8 := Lib.hid (rowX hxs HK8.out)
        replace HGo := Lib.hid (HGo.out.xt hxs)
        replace HK9 := Lib.hid (rowX hxs HK9.out)
        rw [HU.out] at hA7 ⊢
        obtain ⟨zc, hz1, hz2⟩ : ∃ zc : CE, zc.1 = copyC u ∧ zc.2 = a7 := ⟨(copyC u, a7), rfl, rfl⟩
        have hzv : copyCV u a7 = ceV zc := by rw [← ceV_copy]; obtain ⟨z1, z2⟩ := zc; simp only at hz1 hz2; rw [hz1, hz2]
        rw [hzv]
        obtain ⟨hi, hhi⟩ : ∃ hi, (World.heap v22).size = hi := ⟨_, rfl⟩
        have HAZ : Hid (ArgsS (fun b => lo ≤ b ∧ b < hi) v22 nz (.slice zc.2 zc.1.t.args.length zc.1.t.args.length) zc.1.t.args) := (by unfold Hid; rw [hz1, hz2]; show ArgsS _ _ _ (.slice a7 (copyT u.t).args.length (copyT u.t).args.length) (copyT u.t).args; rw [copyT_len, copyT_args]; exact hA7.keep (fun b h1 h2 => ⟨by rw [← hlo]; exact h1, by rw [← hhi]; exact h2⟩) (fun _ _ _ _ => rfl))
        have HHI : Hid (hi ≤ (World.heap v22).size) := Nat.le_of_eq hhi.symm
        have HZ : Hid (zc.1 = copyC u) := hz1
        clear hA7 hz1 hz2 hzv hlo hhi
        refine hK.out _ _ HXC.out (fun hHe => ?_)
        clear hK K hxs
        try simp only [Act.put, nm]
        obtain ⟨s0, s1⟩ := one_row HK8.out
        obtain ⟨vS, vE, hvS, hvE, hS9, HXS, HXE, HE8, HE9, HGE, HAE⟩ := fill_end HXC.out HK8.out HK9.out hlk8 hlk9 HGo.out (fun V hV x hx => (HG.out.args x (HSUB.out x hx)).kept (HX0.out.trans (HX2.out.trans hV)).cellsIn) HAZ.out (fun b hb => ⟨by omega, by omega⟩)
        refine rdH 8 (fun K hK => ?_)
        go_simp
        try rw [hvS]
        refine hK.out _ _ HXS.out (fun hHe => ?_)
        clear hK K s0 s1 hvS
        try simp only [Act.put, nm]
        refine rdH 9 (fun K hK => ?_)
        rw [if_pos (by rfl)]
        refine wp_store_row (P := Tryz.prog) 51 _ _ rfl k9 #[.int .i64 zc.1.kind, .int .i64 zc.1.v.kind, .float .f64 zc.1.v.x, .string zc.1.v.s, .bool zc.1.v.b, .int .i64 zc.1.v.f, .int .i64 zc.1.t.kind, .int .i64 zc.1.t.op, .float .f64 zc.1.t.x, .string zc.1.t.s, .bool zc.1.t.b, .int .i64 zc.1.t.f, .int .i64 zc.1.t.ref.a.1, .int .i64 zc.1.t.ref.a.2, .bool zc.1.t.ref.cf, .bool zc.1.t.ref.rf, .int .i64 zc.1.t.to.a.1, .int .i64 zc.1.t.to.a.2, .bool zc.1.t.to.cf, .bool zc.1.t.to.rf, .slice zc.2 zc.1.t.args.length zc.1.t.args.length] rfl rfl 51 _ hS9 (by kernel_rfl) rfl (by simp [Value.oneCell']) ?_
        try rw [hvE]
        refine hK.out _ _ HXE.out (fun hHe => ?_)
        clear hK K hvE hS9
        refine wpAnyH_done (by kernel_rfl) ?_ _
        go_wp2_with fail
        go_meet
        case rel => exact ⟨k8, k9, go, mo, nz, Mo0, zc, rfl, rfl, HXE, HE8, HE9, HGE, HEo, hmo2, hlk8, hlk9, HZ, HAE⟩
    · go_simp
      obtain ⟨v23, hv⟩ : ∃ v, World.alloc v17 (.cells #[.int .i64 0, .int .i64 0, .float .f64 0, .string ⟨#[]⟩, .bool false, .int .i64 0, .int .i64 0, .int .i64 0, .float .f64 0, .string ⟨#[]⟩, .bool false, .int .i64 0, .int .i64 0, .int .i64 0, .bool false, .bool false, .int .i64 0, .int .i64 0, .bool false, .bool false, .slice none 0 0] 51) = v := ⟨_, rfl⟩
      obtain ⟨k9, hk⟩ : ∃ k, (World.heap v17).size = k := ⟨_, rfl⟩
      have hxs : Xt v17 v23 := by rw [← hv]; exact (Xt.refl _).alloc _
      have HK9 : Hid (v23.heap[k9]? = some (.cells #[.int .i64 0, .int .i64 0, .float .f64 0, .string ⟨#[]⟩, .bool false, .int .i64 0, .int .i64 0, .int .i64 0, .float .f64 0, .string ⟨#[]⟩, .bool false, .int .i64 0, .int .i64 0, .int .i64 0, .bool false, .bool false, .int .i64 0, .int .i64 0, .bool false, .bool false, .slice none 0 0] 51 (0, 0))) := by unfold Hid; rw [← hv, ← hk]; exact (MapKept.heap_alloc _ _).1
      have hlk9 : w2.heap.size ≤ k9 := by rw [← hk]; exact HXC.out.size
      replace HXC := Lib.hid (HXC.out.trans hxs)
      replace HK8 := Lib.hid (rowX hxs HK8.out)
      rw [hv]
      try simp only [hk]
      clear hv hk
      refine hK.out _ _ HXC.out (fun hHe => ?_)
      clear hK K hxs
      try simp only [Act.put, nm]
      refine rdH 2 (fun K hK => ?_)
      go_simp
      refine (cleared_any t gb mb M _ (HG.out.xt (HX0.out.trans (HX2.out.trans HXC.out))) (HT.out.xt (HX0.out.trans (HX2.out.trans HXC.out))) HO.out).mono ?_
      rintro e v24 ⟨hxs, go, mo, Mo0, rfl, hGo, hEo, hmo, hgo, hsub⟩
      have hszc := HXC.out.size
      have hmo2 : w2.heap.size ≤ mo ∧ w2.heap.size ≤ go := by omega
      replace HXC := Lib.hid (HXC.out.trans hxs)
      replace HK8 := Lib.hid (rowX hxs HK8.out)
      replace HK9 := Lib.hid (rowX hxs HK9.out)
      have HGo := Lib.hid hGo
      have HEo := Lib.hid hEo
      have HSUB := Lib.hid hsub
      clear hGo hEo hmo hgo hsub hszc
      refine hK.out _ _ HXC.out (fun hHe => ?_)
      clear hK K hxs
      try simp only [Act.put, nm]
      refine rdH 5 (fun K hK => ?_)
      go_simp
      obtain ⟨lo, hlo⟩ : ∃ lo, (World.heap v24).size = lo := ⟨_, rfl⟩
      have hbk8 : k8 < lo := by rw [← hlo]; exact (Array.getElem?_eq_some_iff.1 HK8.out).1
      have hbk9 : k9 < lo := by rw [← hlo]; exact (Array.getElem?_eq_some_iff.1 HK9.out).1
      refine (gget_any gb mb M fr _ (HG.out.xt (HX0.out.trans (HX2.out.trans HXC.out)))).mono ?_
      rintro e v25 ⟨nz, a7, rfl, hA7, hxs⟩
      replace HXC := Lib.hid (HXC.out.trans hxs)
      replace HK8 := Lib.hid (rowX hxs HK8.out)
      replace HK9 := Lib.hid (rowX hxs HK9.out)
      replace HGo := Lib.hid (HGo.out.xt hxs)
      rw [HU.out] at hA7 ⊢
      obtain ⟨zc, hz1, hz2⟩ : ∃ zc : CE, zc.1 = copyC u ∧ zc.2 = a7 := ⟨(copyC u, a7), rfl, rfl⟩
      have hzv : copyCV u a7 = ceV zc := by rw [← ceV_copy]; obtain ⟨z1, z2⟩ := zc; simp only at hz1 hz2; rw [hz1, hz2]
      rw [hzv]
      obtain ⟨hi, hhi⟩ : ∃ hi, (World.heap v25).size = hi := ⟨_, rfl⟩
      have HAZ : Hid (ArgsS (fun b => lo ≤ b ∧ b < hi) v25 nz (.slice zc.2 zc.1.t.args.length zc.1.t.args.length) zc.1.t.args) := (by unfold Hid; rw [hz1, hz2]; show ArgsS _ _ _ (.slice a7 (copyT u.t).args.length (copyT u.t).args.length) (copyT u.t).args; rw [copyT_len, copyT_args]; exact hA7.keep (fun b h1 h2 => ⟨by rw [← hlo]; exact h1, by rw [← hhi]; exact h2⟩) (fun _ _ _ _ => rfl))
      have HHI : Hid (hi ≤ (World.heap v25).size) := Nat.le_of_eq hhi.symm
      have HZ : Hid (zc.1 = copyC u) := hz1
      clear hA7 hz1 hz2 hzv hlo hhi
      refine hK.out _ _ HXC.out (fun hHe => ?_)
      clear hK K hxs
      try simp only [Act.put, nm]
      obtain ⟨s0, s1⟩ := one_row HK8.out
      obtain ⟨vS, vE, hvS, hvE, hS9, HXS, HXE, HE8, HE9, HGE, HAE⟩ := fill_end HXC.out HK8.out HK9.out hlk8 hlk9 HGo.out (fun V hV x hx => (HG.out.args x (HSUB.out x hx)).kept (HX0.out.trans (HX2.out.trans hV)).cellsIn) HAZ.out (fun b hb => ⟨by omega, by omega⟩)
      refine rdH 8 (fun K hK => ?_)
      go_simp
      try rw [hvS]
      refine hK.out _ _ HXS.out (fun hHe => ?_)
      clear hK K s0 s1 hvS
      try simp only [Act.put, nm]
      refine rdH 9 (fun K hK => ?_)
      rw [if_pos (by rfl)]
      refine wp_store_row (P := Tryz.prog) 51 _ _ rfl k9 #[.int .i64 zc.1.kind, .int .i64 zc.1.v.kind, .float .f64 zc.1.v.x, .string zc.1.v.s, .bool zc.1.v.b, .int .i64 zc.1.v.f, .int .i64 zc.1.t.kind, .int .i64 zc.1.t.op, .float .f64 zc.1.t.x, .string zc.1.t.s, .bool zc.1.t.b, .int .i64 zc.1.t.f, .int .i64 zc.1.t.ref.a.1, .int .i64 zc.1.t.ref.a.2, .bool zc.1.t.ref.cf, .bool zc.1.t.ref.rf, .int .i64 zc.1.t.to.a.1, .int .i64 zc.1.t.to.a.2, .bool zc.1.t.to.cf, .bool zc.1.t.to.rf, .slice zc.2 zc.1.t.args.length zc.1.t.args.length] rfl rfl 51 _ hS9 (by kernel_rfl) rfl (by simp [Value.oneCell']) ?_
      try rw [hvE]
      refine hK.out _ _ HXE.out (fun hHe => ?_)
      clear hK K hvE hS9
      refine wpAnyH_done (by kernel_rfl) ?_ _
      go_wp2_with fail
      go_meet
      case rel => exact ⟨k8, k9, go, mo, nz, Mo0, zc, rfl, rfl, HXE, HE8, HE9, HGE, HEo, hmo2, hlk8, hlk9, HZ, HAE⟩
  · go_simp
    obtain ⟨v26, hv⟩ : ∃ v, World.alloc w2.drew (.cells #[.int .i64 0, .int .i64 0, .float .f64 0, .string ⟨#[]⟩, .bool false, .int .i64 0, .int .i64 0, .int .i64 0, .float .f64 0, .string ⟨#[]⟩, .bool false, .int .i64 0, .int .i64 0, .int .i64 0, .bool false, .bool false, .int .i64 0, .int .i64 0, .bool false, .bool false, .slice none 0 0] 51) = v := ⟨_, rfl⟩
    obtain ⟨k9, hk⟩ : ∃ k, (World.heap w2.drew).size = k := ⟨_, rfl⟩
    have hxs : Xt w2.drew v26 := by rw [← hv]; exact (Xt.refl _).alloc _
    have HK9 : Hid (v26.heap[k9]? = some (.cells #[.int .i64 0, .int .i64 0, .float .f64 0, .string ⟨#[]⟩, .bool false, .int .i64 0, .int .i64 0, .int .i64 0, .float .f64 0, .string ⟨#[]⟩, .bool false, .int .i64 0, .int .i64 0, .int .i64 0, .bool false, .bool false, .int .i64 0, .int .i64 0, .bool false, .bool false, .slice none 0 0] 51 (0, 0))) := by unfold Hid; rw [← hv, ← hk]; exact (MapKept.heap_alloc _ _).1
    have hlk9 : w2.heap.size ≤ k9 := by rw [← hk]; exact HXC.out.size
    replace HXC := Lib.hid (HXC.out.trans hxs)
    rw [show (World.alloc w2 (.cells #[.int .i64 0, .int .i64 0, .float .f64 0, .string ⟨#[]⟩, .bool false, .int .i64 0, .int .i64 0, .int .i64 0, .float .f64 0, .string ⟨#[]⟩, .bool false, .int .i64 0, .int .i64 0, .int .i64 0, .bool false, .bool false, .int .i64 0, .int .i64 0, .bool false, .bool false, .slice none 0 0] 51)).drew = v26 from hv]
    try simp only [show w2.heap.size = k9 from hk]
    clear hv hk
    refine hK.out _ _ HXC.out (fun hHe => ?_)
    clear hK K hxs
    try simp only [Act.put, nm]
    refine wpAnyH_ready (rs := [2, 6]) (by kernel_rfl) (by simp) ?_
    refine AllReadyH.cons (o := _) rfl (fun K hK => ?_) (AllReadyH.cons (o := _) rfl (fun K hK => ?_) AllReadyH.nil)
    · go_simp
      refine (cleared_any t gb mb M _ (HG.out.xt (HX0.out.trans (HX2.out.trans HXC.out))) (HT.out.xt (HX0.out.trans (HX2.out.trans HXC.out))) HO.out).mono ?_
      rintro e v27 ⟨hxs, go, mo, Mo0, rfl, hGo, hEo, hmo, hgo, hsub⟩
      have hszc := HXC.out.size
      have hmo2 : w2.heap.size ≤ mo ∧ w2.heap.size ≤ go := by omega
      replace HXC := Lib.hid (HXC.out.trans hxs)
      replace HK9 := Lib.hid (rowX hxs HK9.out)
      have HGo := Lib.hid hGo
      have HEo := Lib.hid hEo
      have HSUB := Lib.hid hsub
      clear hGo hEo hmo hgo hsub hszc
      refine hK.out _ _ HXC.out (fun hHe => ?_)
      clear hK K hxs
      try simp only [Act.put, nm]
      refine wpAnyH_ready (rs := [5, 6]) (by kernel_rfl) (by simp) ?_
      refine AllReadyH.cons (o := _) rfl (fun K hK => ?_) (AllReadyH.cons (o := _) rfl (fun K hK => ?_) AllReadyH.nil)
      · go_simp
        obtain ⟨lo, hlo⟩ : ∃ lo, (World.heap v27).size = lo := ⟨_, rfl⟩
        have hbk9 : k9 < lo := by rw [← hlo]; exact (Array.getElem?_eq_some_iff.1 HK9.out).1
        refine (gget_any gb mb M fr _ (HG.out.xt (HX0.out.trans (HX2.out.trans HXC.out)))).mono ?_
        rintro e v28 ⟨nz, a7, rfl, hA7, hxs⟩
        replace HXC := Lib.hid (HXC.out.trans hxs)
        replace HK9 := Lib.hid (rowX hxs HK9.out)
        replace HGo := Lib.hid (HGo.out.xt hxs)
        rw [HU.out] at hA7 ⊢
        obtain ⟨zc, hz1, hz2⟩ : ∃ zc : CE, zc.1 = copyC u ∧ zc.2 = a7 := ⟨(copyC u, a7), rfl, rfl⟩
        have hzv : copyCV u a7 = ceV zc := by rw [← ceV_copy]; obtain ⟨z1, z2⟩ := zc; simp only at hz1 hz2; rw [hz1, hz2]
        rw [hzv]
        obtain ⟨hi, hhi⟩ : ∃ hi, (World.heap v28).size = hi := ⟨_, rfl⟩
        have HAZ : Hid (ArgsS (fun b => lo ≤ b ∧ b < hi) v28 nz (.slice zc.2 zc.1.t.args.length zc.1.t.args.length) zc.1.t.args) := (by unfold Hid; rw [hz1, hz2]; show ArgsS _ _ _ (.slice a7 (copyT u.t).args.length (copyT u.t).args.length) (copyT u.t).args; rw [copyT_len, copyT_args]; exact hA7.keep (fun b h1 h2 => ⟨by rw [← hlo]; exact h1, by rw [← hhi]; exact h2⟩) (fun _ _ _ _ => rfl))
        have HHI : Hid (hi ≤ (World.heap v28).size) := Nat.le_of_eq hhi.symm
        have HZ : Hid (zc.1 = copyC u) := hz1
        clear hA7 hz1 hz2 hzv hlo hhi
        refine hK.out _ _ HXC.out (fun hHe => ?_)
        clear hK K hxs
        try simp only [Act.put, nm]
        refine rdH 6 (fun K hK => ?_)
        go_simp
        obtain ⟨v29, hv⟩ : ∃ v, World.alloc v28 (.cells #[.pointer none] 29) = v := ⟨_, rfl⟩
        obtain ⟨k8, hk⟩ : ∃ k, (World.heap v28).size = k := ⟨_, rfl⟩
        have hxs : Xt v28 v29 := by rw [← hv]; exact (Xt.refl _).alloc _
        have HK8 : Hid (v29.heap[k8]? = some (.cells #[.pointer none] 29 (0, 0))) := by unfold Hid; rw [← hv, ← hk]; exact (MapKept.heap_alloc _ _).1
        have hlk8 : w2.heap.size ≤ k8 := by rw [← hk]; exact HXC.out.size
        have hbk8 : hi ≤ k8 := by rw [← hk]; exact HHI.out
        replace HXC := Lib.hid (HXC.out.trans hxs)
        replace HK9 := Lib.hid (rowX hxs HK9.out)
        replace HGo := Lib.hid (HGo.out.xt hxs)
        replace HAZ := Lib.hid (HAZ.out.keep (fun b h1 _ => h1) (fun b o _ hlt => World.cell?_of_block (a := ⟨b, o, none⟩) (hxs.block b hlt)))
        replace HHI := Lib.hid (Nat.le_trans HHI.out hxs.size)
        rw [hv]
        try simp only [hk]
        clear hv hk
        refine hK.out _ _ HXC.out (fun hHe => ?_)
        clear hK K hxs
        try simp only [Act.put, nm]
        obtain ⟨s0, s1⟩ := one_row HK8.out
        obtain ⟨vS, vE, hvS, hvE, hS9, HXS, HXE, HE8, HE9, HGE, HAE⟩ := fill_end HXC.out HK8.out HK9.out hlk8 hlk9 HGo.out (fun V hV x hx => (HG.out.args x (HSUB.out x hx)).kept (HX0.out.trans (HX2.out.trans hV)).cellsIn) HAZ.out (fun b hb => ⟨by omega, by omega⟩)
        refine rdH 8 (fun K hK => ?_)
        go_simp
        try rw [hvS]
        refine hK.out _ _ HXS.out (fun hHe => ?_)
        clear hK K s0 s1 hvS
        try simp only [Act.put, nm]
        refine rdH 9 (fun K hK => ?_)
        rw [if_pos (by rfl)]
        refine wp_store_row (P := Tryz.prog) 51 _ _ rfl k9 #[.int .i64 zc.1.kind, .int .i64 zc.1.v.kind, .float .f64 zc.1.v.x, .string zc.1.v.s, .bool zc.1.v.b, .int .i64 zc.1.v.f, .int .i64 zc.1.t.kind, .int .i64 zc.1.t.op, .float .f64 zc.1.t.x, .string zc.1.t.s, .bool zc.1.t.b, .int .i64 zc.1.t.f, .int .i64 zc.1.t.ref.a.1, .int .i64 zc.1.t.ref.a.2, .bool zc.1.t.ref.cf, .bool zc.1.t.ref.rf, .int .i64 zc.1.t.to.a.1, .int .i64 zc.1.t.to.a.2, .bool zc.1.t.to.cf, .bool zc.1.t.to.rf, .slice zc.2 zc.1.t.args.length zc.1.t.args.length] rfl rfl 51 _ hS9 (by kernel_rfl) rfl (by simp [Value.oneCell']) ?_
        try rw [hvE]
        refine hK.out _ _ HXE.out (fun hHe => ?_)
        clear hK K hvE hS9
        refine wpAnyH_done (by kernel_rfl) ?_ _
        go_wp2_with fail
        go_meet
        case rel => exact ⟨k8, k9, go, mo, nz, Mo0, zc, rfl, rfl, HXE, HE8, HE9, HGE, HEo, hmo2, hlk8, hlk9, HZ, HAE⟩
      · go_simp
        obtain ⟨v30, hv⟩ : ∃ v, World.alloc v27 (.cells #[.pointer none] 29) = v := ⟨_, rfl⟩
        obtain ⟨k8, hk⟩ : ∃ k, (World.heap v27).size = k := ⟨_, rfl⟩
        have hxs : Xt v27 v30 := by rw [← hv]; exact (Xt.refl _).alloc _
        have HK8 : Hid (v30.heap[k8]? = some (.cells #[.pointer none] 29 (0, 0))) := by unfold Hid; rw [← hv, ← hk]; exact (MapKept.heap_alloc _ _).1
        have hlk8 : w2.heap.size ≤ k8 := by rw [← hk]; exact HXC.out.size
        replace HXC := Lib.hid (HXC.out.trans hxs)
        replace HK9 := Lib.hid (rowX hxs HK9.out)
        replace HGo := Lib.hid (HGo.out.xt hxs)
        rw [hv]
        try simp only [hk]
        clear hv hk
        refine hK.out _ _ HXC.out (fun hHe => ?_)
        clear hK K hxs
        try simp only [Act.put, nm]
        refine rdH 5 (fun K hK => ?_)
        go_simp
        obtain ⟨lo, hlo⟩ : ∃ lo, (World.heap v30).size = lo := ⟨_, rfl⟩
        have hbk8 : k8 < lo := by rw [← hlo]; exact (Array.getElem?_eq_some_iff.1 HK8.out).1
        have hbk9 : k9 < lo := by rw [← hlo]; exact (Array.getElem?_eq_some_iff.1 HK9.out).1
        refine (gget_any gb mb M fr _ (HG.out.xt (HX0.out.trans (HX2.out.trans HXC.out)))).mono ?_
        rintro e v31 ⟨nz, a7, rfl, hA7, hxs⟩
        replace HXC := Lib.hid (HXC.out.trans hxs)
        replace HK9 := Lib.hid (rowX hxs HK9.out)
        replace HGo := Lib.hid (HGo.out.xt hxs)
        replace HK8 := Lib.hid (rowX hxs HK8.out)
        rw [HU.out] at hA7 ⊢
        obtain ⟨zc, hz1, hz2⟩ : ∃ zc : CE, zc.1 = copyC u ∧ zc.2 = a7 := ⟨(copyC u, a7), rfl, rfl⟩
        have hzv : copyCV u a7 = ceV zc := by rw [← ceV_copy]; obtain ⟨z1, z2⟩ := zc; simp only at hz1 hz2; rw [hz1, hz2]
        rw [hzv]
        obtain ⟨hi, hhi⟩ : ∃ hi, (World.heap v31).size = hi := ⟨_, rfl⟩
        have HAZ : Hid (ArgsS (fun b => lo ≤ b ∧ b < hi) v31 nz (.slice zc.2 zc.1.t.args.length zc.1.t.args.length) zc.1.t.args) := (by unfold Hid; rw [hz1, hz2]; show ArgsS _ _ _ (.slice a7 (copyT u.t).args.length (copyT u.t).args.length) (copyT u.t).args; rw [copyT_len, copyT_args]; exact hA7.keep (fun b h1 h2 => ⟨by rw [← hlo]; exact h1, by rw [← hhi]; exact h2⟩) (fun _ _ _ _ => rfl))
        have HHI : Hid (hi ≤ (World.heap v31).size) := Nat.le_of_eq hhi.symm
        have HZ : Hid (zc.1 = copyC u) := hz1
        clear hA7 hz1 hz2 hzv hlo hhi
        refine hK.out _ _ HXC.out (fun hHe => ?_)
        clear hK K hxs
        try simp only [Act.put, nm]
        obtain ⟨s0, s1⟩ := one_row HK8.out
        obtain ⟨vS, vE, hvS, hvE, hS9, HXS, HXE, HE8, HE9, HGE, HAE⟩ := fill_end HXC.out HK8.out HK9.out hlk8 hlk9 HGo.out (fun V hV x hx => (HG.out.args x (HSUB.out x hx)).kept (HX0.out.trans (HX2.out.trans hV)).cellsIn) HAZ.out (fun b hb => ⟨by omega, by omega⟩)
        refine rdH 8 (fun K hK => ?_)
        go_simp
        try rw [hvS]
        refine hK.out _ _ HXS.out (fun hHe => ?_)
        clear hK K s0 s1 hvS
        try simp only [Act.put, nm]
        refine rdH 9 (fun K hK => ?_)
        rw [if_pos (by rfl)]
        refine wp_store_row (P := Tryz.prog) 51 _ _ rfl k9 #[.int .i64 zc.1.kind, .int .i64 zc.1.v.kind, .float .f64 zc.1.v.x, .string zc.1.v.s, .bool zc.1.v.b, .int .i64 zc.1.v.f, .int .i64 zc.1.t.kind, .int .i64 zc.1.t.op, .float .f64 zc.1.t.x, .string zc.1.t.s, .bool zc.1.t.b, .int .i64 zc.1.t.f, .int .i64 zc.1.t.ref.a.1, .int .i64 zc.1.t.ref.a.2, .bool zc.1.t.ref.cf, .bool zc.1.t.ref.rf, .int .i64 zc.1.t.to.a.1, .int .i64 zc.1.t.to.a.2, .bool zc.1.t.to.cf, .bool zc.1.t.to.rf, .slice zc.2 zc.1.t.args.length zc.1.t.args.length] rfl rfl 51 _ hS9 (by kernel_rfl) rfl (by simp [Value.oneCell']) ?_
        try rw [hvE]
        refine hK.out _ _ HXE.out (fun hHe => ?_)
        clear hK K hvE hS9
        refine wpAnyH_done (by kernel_rfl) ?_ _
        go_wp2_with fail
        go_meet
        case rel => exact ⟨k8, k9, go, mo, nz, Mo0, zc, rfl, rfl, HXE, HE8, HE9, HGE, HEo, hmo2, hlk8, hlk9, HZ, HAE⟩
    · go_simp
      obtain ⟨v32, hv⟩ : ∃ v, World.alloc v26 (.cells #[.pointer none] 29) = v := ⟨_, rfl⟩
      obtain ⟨k8, hk⟩ : ∃ k, (World.heap v26).size = k := ⟨_, rfl⟩
      have hxs : Xt v26 v32 := by rw [← hv]; exact (Xt.refl _).alloc _
      have HK8 : Hid (v32.heap[k8]? = some (.cells #[.pointer none] 29 (0, 0))) := by unfold Hid; rw [← hv, ← hk]; exact (MapKept.heap_alloc _ _).1
      have hlk8 : w2.heap.size ≤ k8 := by rw [← hk]; exact HXC.out.size
      replace HXC := Lib.hid (HXC.out.trans hxs)
      replace HK9 := Lib.hid (rowX hxs HK9.out)
      rw [hv]
      try simp only [hk]
      clear hv hk
      refine hK.out _ _ HXC.out (fun hHe => ?_)
      clear hK K hxs
      try simp only [Act.put, nm]
      refine rdH 2 (fun K hK => ?_)
      go_simp
      refine (cleared_any t gb mb M _ (HG.out.xt (HX0.out.trans (HX2.out.trans HXC.out))) (HT.out.xt (HX0.out.trans (HX2.out.trans HXC.out))) HO.out).mono ?_
      rintro e v33 ⟨hxs, go, mo, Mo0, rfl, hGo, hEo, hmo, hgo, hsub⟩
      have hszc := HXC.out.size
      have hmo2 : w2.heap.size ≤ mo ∧ w2.heap.size ≤ go := by omega
      replace HXC := Lib.hid (HXC.out.trans hxs)
      replace HK9 := Lib.hid (rowX hxs HK9.out)
      replace HK8 := Lib.hid (rowX hxs HK8.out)
      have HGo := Lib.hid hGo
      have HEo := Lib.hid hEo
      have HSUB := Lib.hid hsub
      clear hGo hEo hmo hgo hsub hszc
      refine hK.out _ _ HXC.out (fun hHe => ?_)
      clear hK K hxs
      try simp only [Act.put, nm]
      refine rdH 5 (fun K hK => ?_)
      go_simp
      obtain ⟨lo, hlo⟩ : ∃ lo, (World.heap v33).size = lo := ⟨_, rfl⟩
      have hbk8 : k8 < lo := by rw [← hlo]; exact (Array.getElem?_eq_some_iff.1 HK8.out).1
      have hbk9 : k9 < lo := by rw [← hlo]; exact (Array.getElem?_eq_some_iff.1 HK9.out).1
      refine (gget_any gb mb M fr _ (HG.out.xt (HX0.out.trans (HX2.out.trans HXC.out)))).mono ?_
      rintro e v34 ⟨nz, a7, rfl, hA7, hxs⟩
      replace HXC := Lib.hid (HXC.out.trans hxs)
      replace HK9 := Lib.hid (rowX hxs HK9.out)
      replace HK8 := Lib.hid (rowX hxs HK8.out)
      replace HGo := Lib.hid (HGo.out.xt hxs)
      rw [HU.out] at hA7 ⊢
      obtain ⟨zc, hz1, hz2⟩ : ∃ zc : CE, zc.1 = copyC u ∧ zc.2 = a7 := ⟨(copyC u, a7), rfl, rfl⟩
      have hzv : copyCV u a7 = ceV zc := by rw [← ceV_copy]; obtain ⟨z1, z2⟩ := zc; simp only at hz1 hz2; rw [hz1, hz2]
      rw [hzv]
      obtain ⟨hi, hhi⟩ : ∃ hi, (World.heap v34).size = hi := ⟨_, rfl⟩
      have HAZ : Hid (ArgsS (fun b => lo ≤ b ∧ b < hi) v34 nz (.slice zc.2 zc.1.t.args.length zc.1.t.args.length) zc.1.t.args) := (by unfold Hid; rw [hz1, hz2]; show ArgsS _ _ _ (.slice a7 (copyT u.t).args.length (copyT u.t).args.length) (copyT u.t).args; rw [copyT_len, copyT_args]; exact hA7.keep (fun b h1 h2 => ⟨by rw [← hlo]; exact h1, by rw [← hhi]; exact h2⟩) (fun _ _ _ _ => rfl))
      have HHI : Hid (hi ≤ (World.heap v34).size) := Nat.le_of_eq hhi.symm
      have HZ : Hid (zc.1 = copyC u) := hz1
      clear hA7 hz1 hz2 hzv hlo hhi
      refine hK.out _ _ HXC.out (fun hHe => ?_)
      clear hK K hxs
      try simp only [Act.put, nm]
      obtain ⟨s0, s1⟩ := one_row HK8.out
      obtain ⟨vS, vE, hvS, hvE, hS9, HXS, HXE, HE8, HE9, HGE, HAE⟩ := fill_end HXC.out HK8.out HK9.out hlk8 hlk9 HGo.out (fun V hV x hx => (HG.out.args x (HSUB.out x hx)).kept (HX0.out.trans (HX2.out.trans hV)).cellsIn) HAZ.out (fun b hb => ⟨by omega, by omega⟩)
      refine rdH 8 (fun K hK => ?_)
      go_simp
      try rw [hvS]
      refine hK.out _ _ HXS.out (fun hHe => ?_)
      clear hK K s0 s1 hvS
      try simp only [Act.put, nm]
      refine rdH 9 (fun K hK => ?_)
      rw [if_pos (by rfl)]
      refine wp_store_row (P := Tryz.prog) 51 _ _ rfl k9 #[.int .i64 zc.1.kind, .int .i64 zc.1.v.kind, .float .f64 zc.1.v.x, .string zc.1.v.s, .bool zc.1.v.b, .int .i64 zc.1.v.f, .int .i64 zc.1.t.kind, .int .i64 zc.1.t.op, .float .f64 zc.1.t.x, .string zc.1.t.s, .bool zc.1.t.b, .int .i64 zc.1.t.f, .int .i64 zc.1.t.ref.a.1, .int .i64 zc.1.t.ref.a.2, .bool zc.1.t.ref.cf, .bool zc.1.t.ref.rf, .int .i64 zc.1.t.to.a.1, .int .i64 zc.1.t.to.a.2, .bool zc.1.t.to.cf, .bool zc.1.t.to.rf, .slice zc.2 zc.1.t.args.length zc.1.t.args.length] rfl rfl 51 _ hS9 (by kernel_rfl) rfl (by simp [Value.oneCell']) ?_
      try rw [hvE]
      refine hK.out _ _ HXE.out (fun hHe => ?_)
      clear hK K hvE hS9
      refine wpAnyH_done (by kernel_rfl) ?_ _
      go_wp2_with fail
      go_meet
      case rel => exact ⟨k8, k9, go, mo, nz, Mo0, zc, rfl, rfl, HXE, HE8, HE9, HGE, HEo, hmo2, hlk8, hlk9, HZ, HAE⟩
 case rest =>
  obtain ⟨k8, k9, go, mo, nz, Mo0, zc, rfl, rfl, HXr, HK8, HK9, HGo, HEo, hmo, hk8, hk9, HZ, HAZ⟩ := hcut
  obtain ⟨w3, hw3⟩ : ∃ w3, w3 = wc := ⟨_, rfl⟩
  subst hw3
  have HX03 : Hid (Xt w0 w3) := HX2.out.trans HXr.out
  have HXw3 : Hid (Xt w w3) := HX0.out.trans HX03.out
  obtain ⟨c8, f8⟩ := one_row HK8.out
  have ck : w3.cell? ⟨k9, 0, none⟩ = some (.int .i64 zc.1.kind) := by have := HK9.out; simp [World.cell?, this]
  obtain ⟨r1, g1⟩ := one_row (rowX HX03.out HR2.out)
  obtain ⟨r2, g2⟩ := one_row (rowX HX03.out HR3.out)
  have hzk : zc.1.kind = u.kind := by rw [HZ.out]; rfl
  by_cases h0 : u.kind = 0
  · have hkb : (zc.1.kind == 0) = true := by rw [hzk]; simp [h0]
    have H0 := Lib.hid h0
    clear h0 hzk
    go_wp2_with fail
    obtain ⟨W', hW'⟩ : ∃ W', (w3.setCell ⟨B + 1 + 1, 0, none⟩ (.pointer (some ⟨go, 0, none⟩))).setCell ⟨B + 1 + 1 + 1, 0, none⟩ (.int .i64 0) = W' := ⟨_, rfl⟩
    have k1 : W'.cell? ⟨B + 1 + 1, 0, none⟩ = some (.pointer (some ⟨go, 0, none⟩)) := by rw [← hW', World.cell?_setCell_other _ _ _ _ (by simp)]; exact World.cell?_setCell_same _ _ _ r1
    have k2 : W'.cell? ⟨B + 1 + 1 + 1, 0, none⟩ = some (.int .i64 0) := by rw [← hW']; exact World.cell?_setCell_same _ _ _ ((World.cell?_setCell_other _ _ _ _ (by simp)).trans r2)
    have hgW : Wr (fun b => b = B + 1 + 1 ∨ b = B + 1 + 1 + 1) w3 W' := by rw [← hW']; exact (Wr.cell _ (Or.inl rfl)).trans (Wr.cell _ (Or.inr rfl))
    have hxE : Xt w W' := hgW.xt HXw3.out (fun b hb => by rcases hb with e | e <;> omega)
    have HC1c := rowX HX03.out HR2.out
    have HC2c := rowX HX03.out HR3.out
    have hGW : GridIs W' go mo Mo0 := by
     have hk : ∀ b, b ≠ B + 1 + 1 → b ≠ B + 1 + 1 + 1 → W'.heap[b]? = w3.heap[b]? := fun b h1 h2 => by rw [← hW']; exact (Below.heap_setCell _ _ _ _ h2).trans (Below.heap_setCell _ _ _ _ h1)
     exact HGo.out.far (P := fun b => b = B + 1 + 1 ∨ b = B + 1 + 1 + 1) (fun b hb => hk b (fun e => hb (Or.inl e)) (fun e => hb (Or.inr e)))
      (fun b hb o u hu => by
       rcases hb with rfl | rfl
       · exact one_cell HC1c hu
       · exact one_cell HC2c hu) (by have := gone_ne HGo.out HC1c; have := gone_ne HGo.out HC2c; omega) (by omega)
    rw [hW']
    exact ⟨_, results_two rfl _ _ (B + 1 + 1) (B + 1 + 1 + 1) (.pointer (some ⟨go, 0, none⟩)) (.int .i64 0) rfl rfl (load_pgrid _ _ _ k1) (load_err _ _ _ k2), hxE, Or.inr ⟨go, mo, Mo0, rfl, hGW, filled_0 HU.out H0.out HEo.out, by omega⟩⟩
  · have hkb : (zc.1.kind == 0) = false := by rw [hzk]; simpa using h0
    have H0 := Lib.hid h0
    obtain ⟨cu, hcu, hmu⟩ : ∃ cu, lkM fr (er M) = some cu ∧ cu = u := by
     have h1 := HU.out
     rw [er_getD] at h1
     cases e : lkM fr (er M) with
     | none => rw [e] at h1; exact absurd (by rw [← h1]; rfl) h0
     | some cu => rw [e] at h1; exact ⟨cu, rfl, h1⟩
    subst hmu
    obtain ⟨v0, v1, v2, v3, v4⟩ := HO.out.each _ (lkM_mem hcu)
    simp only at v1 v2 v3 v4
    have HCU : Hid (gvalidB cu = true ∧ (cu.kind == 0) = false ∧ copyC cu = cu ∧ cu.ok) := ⟨v1, v2, v3, v4⟩
    have hgz : gvalidB zc.1 = true := by rw [HZ.out]; exact (gvalidB_copy cu).trans v1
    have hokz : zc.1.ok := by rw [HZ.out]; exact okC_copy v4
    have hsmu : smallT zc.1.t := by
     rw [HZ.out]
     refine smallT_copy _ ?_
     have h2 := HG.out.lookIn fr
     have h3 := h2.1
     rw [HU.out] at h3
     exact h3
    have HGZ := Lib.hid hgz
    have HOKZ := Lib.hid hokz
    have HSMZ := Lib.hid hsmu
    have hFA := HF.out w3 HXr.out
    obtain ⟨y0, y1, x0, x1, x2, x3⟩ := hFA
    clear h0 hzk v0 v1 v2 v3 v4 hcu hgz hokz hsmu r1 g1 r2 g2 c8 f8
    go_wp2_with (first
     | (go_at_call 39; refine (acells_any t w3).mono ?_; rintro e w' ⟨rfl, hw4⟩; subst hw4))
    obtain ⟨W0, hW0⟩ : ∃ W0, w3.alloc (.cells #[.int .i64 t.a, .int .i64 t.b, .int .i64 t.c, .int .i64 t.d] 26) = W0 := ⟨_, rfl⟩
    have HX3W : Hid (Xt w3 W0) := by unfold Hid; rw [← hW0]; exact (Xt.refl _).alloc _
    have HB12 : Hid (W0.heap[w3.heap.size]? = some (.cells #[.int .i64 t.a, .int .i64 t.b, .int .i64 t.c, .int .i64 t.d] 26 (0, 0))) := by unfold Hid; rw [← hW0]; exact (MapKept.heap_alloc w3 _).1
    obtain ⟨b12, hb12⟩ : ∃ b, w3.heap.size = b := ⟨_, rfl⟩
    rw [hb12] at HB12
    simp only [hW0, hb12]
    have HXW : Hid (Xt w W0) := HXw3.out.trans HX3W.out
    have HX2W : Hid (Xt w2 W0) := HXr.out.trans HX3W.out
    have HGoW : Hid (GridIs W0 go mo Mo0) := HGo.out.xt HX3W.out
    have HR2W := Lib.hid (rowX (HX2.out.trans HX2W.out) HR2.out)
    have HR3W := Lib.hid (rowX (HX2.out.trans HX2W.out) HR3.out)
    have HRCW := Lib.hid (rowX HX3W.out HK8.out)
    have HK9W := Lib.hid (rowX HX3W.out HK9.out)
    have HAZW : Hid (ArgsIn W0 nz (.slice zc.2 zc.1.t.args.length zc.1.t.args.length) zc.1.t.args) := HAZ.out.xt HX3W.out
    have HR0W := Lib.hid (rowX (HX2.out.trans HX2W.out) HR0.out)
    have hgml := HGoW.out.lt
    have hk8l : k8 < W0.heap.size := (Array.getElem?_eq_some_iff.1 HRCW.out).1
    have hk9l : k9 < W0.heap.size := (Array.getElem?_eq_some_iff.1 HK9W.out).1
    have hBW1 : B + 1 + 1 < W0.heap.size := by have := HX2W.out.size; have := HX2.out.size; omega
    have hBW2 : B + 1 + 1 + 1 < W0.heap.size := by have := HX2W.out.size; have := HX2.out.size; omega
    have hk8m : k8 ≠ mo := fun e => by
     obtain ⟨E, hm, _⟩ := HGoW.out.map
     obtain ⟨es, clk, h1, _⟩ := hm
     rw [← e, HRCW.out] at h1; cases h1
    have hk9m : k9 ≠ mo := fun e => by
     obtain ⟨E, hm, _⟩ := HGoW.out.map
     obtain ⟨es, clk, h1, _⟩ := hm
     rw [← e, HK9W.out] at h1; cases h1
    clear y0 y1 x0 x1 x2 x3 ck
    generalize hA0 : Act.mk _ _ = a0
    refine (wpIn_wide (n := 25)).1 ?_
    refine rangeFunc_near (n := 25) (by omega) (gf := 79) (lb := #[.pointer (some ⟨b12, 0, none⟩)]) (by subst hA0; rfl) (enters_of Tryz.func79 (by kernel_rfl) rfl)
     (cells1_near (25 - 1) b12 t W0 HB12.out HVT.out) (fun h k => h.trans k) (fun W l o o' hl ho hc hw => KC.putObj o' ho hc) (Below.refl _ _) (fun _ => rfl)
     (fun pre W => MN W0 W0.heap.size go mo (flAll fr cu (clearP t (er M))) pre W)
     (fun c pre W => c = .ret ∧ Xt w W ∧ W.heap[B + 1 + 1]? = some (.cells #[.pointer none] 29 (0, 0)) ∧ flAll fr cu (clearP t (er M)) pre = none ∧ W.heap[B + 1 + 1 + 1]? = some (.cells #[.int .i64 41] 35 (0, 0)))
     (MN.near (by omega) (by omega))
     (fun c s X Y hs hn => ⟨hs.1, Below.trans hs.2.1 (hn.below.mono (by have := HXW.out.size; omega)), (hn.block _ hBW1).trans hs.2.2.1, hs.2.2.2.1, (hn.block _ hBW2).trans hs.2.2.2.2⟩)
     (MN.start HGoW.out (by rw [HEo.out]; rfl))
     (fun x a' W => ∃ Bx, W.heap[Bx]? = some (.cells #[.int .i64 x.1, .int .i64 x.2] 24 (0, 0)) ∧ inA t x = true ∧ a' = { tmps := (a0.tmps.setIfInBounds 34 (adW x)).setIfInBounds 10 (.pointer (some ⟨Bx, 0, none⟩)), defers := [] })
     (fun x a' _ X Y row hs hg hr => by
      obtain ⟨Bx, h1, h2, h3⟩ := hs
      exact ⟨Bx, rowCells_own h1 hg (fun r e => (hr r e).2), h2, h3⟩)
     ?assign ?body ?done ?stop
    case stop =>
     rintro D c pre W hD hS ⟨rfl, hxW, k1, hno, k2⟩ hK
     subst hA0
     refine (wpIn_wide (n := 25)).2 ?_
     go_wp2_with fail
     refine ⟨by simp, .inl ⟨_, _, rfl, run_takeDeferred hK, ?_⟩⟩
     have k1' : (W.putObj D (.deferred none)).heap[B + 1 + 1]? = some (.cells #[.pointer none] 29 (0, 0)) := (World.putObj_heap_other (by omega)).trans k1
     have k2' : (W.putObj D (.deferred none)).heap[B + 1 + 1 + 1]? = some (.cells #[.int .i64 41] 35 (0, 0)) := (World.putObj_heap_other (by omega)).trans k2
     have hxE : Xt w (W.putObj D (.deferred none)) := hxW.grownB (grownBy_putObj' W D _) (fun q hq => by cases hq; have := HXW.out.size; omega)
     refine ⟨_, results_two rfl _ _ (B + 1 + 1) (B + 1 + 1 + 1) (.pointer none) (.int .i64 41) rfl rfl (load_pgrid _ _ _ (one_row k1').1) (load_err _ _ _ (one_row k2').1), hxE, Or.inl ⟨rfl, ?_⟩⟩
     rw [filled_1 HU.out H0.out]
     obtain ⟨l, hl⟩ := hS
     rw [← hl]
     exact flAll_none _ _ _ _ _ hno
    case done =>
     rintro D xs W hD hS hI hK
     subst hA0
     have hgr := hI.grown rfl
     obtain ⟨Mo, hGo, hEo⟩ := hI.out
     clear hI
     have HGo := Lib.hid hGo
     have HEo2 : Hid (fillP fr t (er M) = some (er Mo)) := by
      unfold Hid
      rw [filled_1 HU.out H0.out, ← hS]
      exact hEo
     clear hEo
     have r1 := (hgr.block (B + 1 + 1) (by omega) (fun e => by have := Option.some.inj e; omega)).trans HR2W.out
     have r2 := (hgr.block (B + 1 + 1 + 1) (by omega) (fun e => by have := Option.some.inj e; omega)).trans HR3W.out
     have rC := (hgr.block k8 (by omega) (fun e => by have := Option.some.inj e; omega)).trans HRCW.out
     obtain ⟨c1, f1⟩ := one_row r1
     obtain ⟨c2, f2⟩ := one_row r2
     obtain ⟨cGG, _⟩ := one_row rC
     have HxW : Hid (Xt w W) := HXW.out.grownB hgr (fun q hq => by cases hq; omega)
     have HK := Lib.hid hK
     have HC1c := Lib.hid r1
     have HC2c := Lib.hid r2
     clear hGo hS hgr r1 r2 rC hK
     go_wp2_with fail
     obtain ⟨W', hW'⟩ : ∃ W', (W.setCell ⟨B + 1 + 1, 0, none⟩ (.pointer (some ⟨go, 0, none⟩))).setCell ⟨B + 1 + 1 + 1, 0, none⟩ (.int .i64 0) = W' := ⟨_, rfl⟩
     have k1 : W'.cell? ⟨B + 1 + 1, 0, none⟩ = some (.pointer (some ⟨go, 0, none⟩)) := by rw [← hW', World.cell?_setCell_other _ _ _ _ (by simp)]; exact World.cell?_setCell_same _ _ _ c1
     have k2 : W'.cell? ⟨B + 1 + 1 + 1, 0, none⟩ = some (.int .i64 0) := by rw [← hW']; exact World.cell?_setCell_same _ _ _ ((World.cell?_setCell_other _ _ _ _ (by simp)).trans c2)
     have hgW : Wr (fun b => b = B + 1 + 1 ∨ b = B + 1 + 1 + 1) W W' := by rw [← hW']; exact (Wr.cell _ (Or.inl rfl)).trans (Wr.cell _ (Or.inr rfl))
     have hKW : W'.heap[D]? = some (.deferred (some [])) := (hgW.block D (Array.getElem?_eq_some_iff.1 HK.out).1 (fun e => by omega)).trans HK.out
     have hGW : GridIs (W'.putObj D (.deferred none)) go mo Mo := by
      have hk : ∀ b, b ≠ B + 1 + 1 → b ≠ B + 1 + 1 + 1 → b ≠ D → (W'.putObj D (.deferred none)).heap[b]? = W.heap[b]? := fun b h1 h2 h3 => (World.putObj_heap_other h3).trans (by rw [← hW']; exact (Below.heap_setCell _ _ _ _ h2).trans (Below.heap_setCell _ _ _ _ h1))
      exact HGo.out.far (P := fun b => b = B + 1 + 1 ∨ b = B + 1 + 1 + 1 ∨ b = D) (fun b hb => hk b (fun e => hb (Or.inl e)) (fun e => hb (Or.inr (Or.inl e))) (fun e => hb (Or.inr (Or.inr e))))
       (fun b hb o u hu => by
        rcases hb with rfl | rfl | rfl
        · exact one_cell HC1c.out hu
        · exact one_cell HC2c.out hu
        · rw [World.cell?, HK.out] at hu; cases hu) (by omega) (by omega)
     rw [hW']
     refine ⟨by simp, .inl ⟨_, _, rfl, run_takeDeferred hKW, ?_⟩⟩
     have hcell : ∀ b, b ≠ D → ∀ u, W'.cell? ⟨b, 0, none⟩ = some u → (W'.putObj D (.deferred none)).cell? ⟨b, 0, none⟩ = some u := fun b hb u hu => (World.cell?_of_block (w := W') (a := ⟨b, 0, none⟩) (World.putObj_heap_other (by exact hb))).trans hu
     have hxE : Xt w (W'.putObj D (.deferred none)) := by
      have h1 : Xt w W' := hgW.xt HxW.out (fun b hb => by rcases hb with e | e <;> omega)
      exact h1.grownB (grownBy_putObj' W' D _) (fun q hq => by cases hq; have := HXW.out.size; omega)
     exact ⟨_, results_two rfl _ _ (B + 1 + 1) (B + 1 + 1 + 1) (.pointer (some ⟨go, 0, none⟩)) (.int .i64 0) rfl rfl (load_pgrid _ _ _ (hcell _ (by omega) _ k1)) (load_err _ _ _ (hcell _ (by omega) _ k2)), hxE, Or.inr ⟨go, mo, Mo, rfl, hGW, HEo2.out, by omega⟩⟩
    case assign =>
     rintro l0 pre x W K hI ⟨V, hIV, ht⟩ hK
     subst hA0
     obtain ⟨c, d⟩ := x
     have HI := Lib.hid hI
     have HTT := Lib.hid ht
     obtain ⟨wA, hwA, hbA, hsA, kA0, kA1⟩ := box1 W c d 24
     have hrA : wA.heap[W.heap.size]? = some (.cells #[.int .i64 c, .int .i64 d] 24 (0, 0)) := by rw [← hwA]; exact World.alloc_heap_new W _
     have HXA : Hid (Xt W wA) := hbA
     have HRA := Lib.hid hrA
     clear hrA hbA kA0 kA1 hI ht hIV
     gi_wp2_with fail
     refine hK _ _ (keepsFrom_xt HXA.out _) (KC.of_xt HXA.out) (HI.out.xt (Nat.le_refl _) HXA.out) ⟨W.heap.size, HRA.out, HTT.out, ?_⟩
     simp only [List.setIfInBounds_toArray, List.set_cons_zero, List.set_cons_succ]
    case body =>
     rintro l0 pre x a' W hl0 ⟨r, hr⟩ hI ⟨Bx, hBx, hin, rfl⟩ hlt
     subst hA0
     obtain ⟨c, d⟩ := x
     have hgr := hI.grown rfl
     obtain ⟨Mo, hGo2, hEo2⟩ := hI.out
     have HI := Lib.hid hI
     have HGo2 := Lib.hid hGo2
     have HGr := Lib.hid hgr
     have hgs := hgr.size
     have bk : ∀ b o, b ≠ mo → b < W0.heap.size → W0.heap[b]? = some o → W.heap[b]? = some o := fun b o hb hl h => (hgr.block b hl (fun e => hb (Option.some.inj e))).trans h
     obtain ⟨cC, _⟩ := one_row (bk k8 _ hk8m hk8l HRCW.out)
     have HK9R := Lib.hid (bk k9 _ hk9m hk9l HK9W.out)
     have r0 := bk B _ (by omega) (by have := HX2W.out.size; omega) HR0W.out
     have r1 := bk (B + 1 + 1) _ (by omega) (by have := HX2W.out.size; omega) HR2W.out
     have r2 := bk (B + 1 + 1 + 1) _ (by omega) (by have := HX2W.out.size; omega) HR3W.out
     obtain ⟨y0, y1, _, _⟩ := cells2 r0
     obtain ⟨x0, x1, _, _⟩ := cells2 hBx
     have HRB1 := Lib.hid r1
     have HRB2 := Lib.hid r2
     have HXWW : Hid (Xt w W) := HXW.out.grownB hgr (fun q hq => by have := Option.some.inj hq; omega)
     have hin2 := inA_le hin
     have hyv : validB c d = true := by
      have := validA_le HVT.out
      refine validB_of ?_
      simp only at hin2; omega
     obtain ⟨_, v1, v2, v3, v4⟩ : True ∧ _ := ⟨trivial, HCU.out⟩
     have hAz : ArgsIn W nz (.slice zc.2 zc.1.t.args.length zc.1.t.args.length) zc.1.t.args := argsIn_map HAZW.out hgr HGoW.out
     have HP := Lib.hid (laid_any nz go mo Mo zc.1 zc.2 zc.1.t.args.length fr (c, d) W hGo2 (HT.out.xt HXWW.out) HOKZ.out HSMZ.out hAz HGZ.out)
     obtain ⟨dx, hdx⟩ : ∃ dx, (byG fr (c, d)).1 = dx := ⟨_, rfl⟩
     obtain ⟨dy, hdy⟩ : ∃ dy, (byG fr (c, d)).2 = dy := ⟨_, rfl⟩
     rw [hdx, hdy] at HP
     obtain ⟨cd, hcd⟩ : ∃ cd, putCode Mo (c, d) (shC dx dy zc.1) = cd := ⟨_, rfl⟩
     have hcd2 : codeP (er Mo) (c, d) (shC dx dy (copyC cu)) = cd := by rw [← HZ.out, ← er_code]; exact hcd
     have hst : flAll fr cu (clearP t (er M)) (pre ++ [(c, d)]) = cpStep (some (er Mo)) (c, d) (shC dx dy (copyC cu)) := by
      rw [flAll_snoc, hEo2, ← hdx, ← hdy]; rfl
     have HPO : Hid (∀ zz, cd = 0 → flAll fr cu (clearP t (er M)) (pre ++ [(c, d)]) = some (er (putTo Mo (c, d) (shC dx dy zc.1) zz))) := Lib.hid fun zz h => by
      rw [hst, cpStep_ok (hcd2.trans h), er_put, HZ.out]
     have HPN : Hid (cd ≠ 0 → flAll fr cu (clearP t (er M)) (pre ++ [(c, d)]) = none) := Lib.hid fun h => by
      rw [hst]; exact cpStep_no (by rw [hcd2]; exact h)
     have hcd3 : cd ≠ 0 → cd = 41 := fun h => by rw [← hcd2] at h ⊢; exact code_41 hyv v1 v2 h
     have HCD := Lib.hid hcd
     have hfl : Fence.wide.fn 70 := trivial
     clear hGo2 hEo2 hgr r0 r1 r2 hBx hr hlt hin hin2 hyv hcd2 hst v1 v2 v3 v4 hAz hdx hdy hI bk
     simp only [List.setIfInBounds_toArray, List.set_cons_zero, List.set_cons_succ]
     by_cases h0 : cd = 0
     · have hcb : (cd != 0) = false := by simp [h0]
       have H0 := Lib.hid h0
       clear h0 hcd3 hcd
       gi_wp2_with (first
        | (refine BigFrame.wpListIn_want (by rfl) (fun K hK => wpIn_load_row 51 _ rfl k9 rfl 51 _ (0, 0) _ HK9R.out Tryz.underlying51 rfl (by kernel_rfl) (hK _ _ ?_)); clear hK K)
        | (gi_at_call 70; refine (callsIn_round HP.out).mono ?_; rintro e w8 ⟨zz, rfl, hG8, hg8⟩; rw [HCD.out]; have HG8 := Lib.hid hG8; have Hg8 := Lib.hid hg8; clear hG8 hg8))
       have hgW := Hg8.out
       have hg2 := grownBy_two HGr.out hgW
       refine ⟨⟨hgW.size, fun k o hB hk _ => (hgW.block k (Array.getElem?_eq_some_iff.1 hk).1 (fun e => by have := Option.some.inj e; omega)).trans hk⟩, ⟨hgW.size, fun k o hk hc => (hgW.block k (Array.getElem?_eq_some_iff.1 hk).1 (fun e => ?_)).trans hk⟩, ⟨fun k hk hne => hg2.block k hk (fun e => hne (Option.some.inj e)), hg2.os, hg2.tape, hg2.output, hg2.size, _, HG8.out, HPO.out _ H0.out⟩⟩
       obtain ⟨E, hm, _⟩ := HGo2.out.map
       obtain ⟨es, clk, h1, _⟩ := hm
       have e1 := Option.some.inj e
       rw [e1, h1] at hk
       cases hk
       cases hc
     · have hcb : (cd != 0) = true := by simpa using h0
       have H0 := Lib.hid h0
       have h41 := Lib.hid (hcd3 h0)
       clear h0 hcd3 hcd
       gi_wp2_with (first
        | (refine BigFrame.wpListIn_want (by rfl) (fun K hK => wpIn_load_row 51 _ rfl k9 rfl 51 _ (0, 0) _ HK9R.out Tryz.underlying51 rfl (by kernel_rfl) (hK _ _ ?_)); clear hK K)
        | (gi_at_call 70; refine (callsIn_round HP.out).mono ?_; rintro e w8 ⟨zz, rfl, hG8, hg8⟩; rw [HCD.out]; have Hg8 := Lib.hid hg8; have q1 := (hg8.block (B + 1 + 1) (Array.getElem?_eq_some_iff.1 HRB1.out).1 (fun e => by have := Option.some.inj e; omega)).trans HRB1.out; have q2 := (hg8.block (B + 1 + 1 + 1) (Array.getElem?_eq_some_iff.1 HRB2.out).1 (fun e => by have := Option.some.inj e; omega)).trans HRB2.out; have HQ1 := Lib.hid q1; have HQ2 := Lib.hid q2; obtain ⟨k1, g1⟩ := one_row q1; obtain ⟨k2, g2⟩ := one_row q2; clear hG8 hg8 q1 q2))
       have hgW := Hg8.out
       have hW8 : Wr (fun b => b = mo) W w8 := ⟨hgW.os, hgW.tape, hgW.output, hgW.size, fun b hb hn => hgW.block b hb (fun e => hn (Option.some.inj e))⟩
       have hWE : Wr (fun b => b = mo ∨ b = B + 1 + 1 ∨ b = B + 1 + 1 + 1) W ((w8.setCell ⟨B + 1 + 1, 0, none⟩ (.pointer none)).setCell ⟨B + 1 + 1 + 1, 0, none⟩ (.int .i64 cd)) := Wr.trans (b := w8.setCell ⟨B + 1 + 1, 0, none⟩ (.pointer none)) (Wr.trans (b := w8) (hW8.weak (fun b e => Or.inl e)) (Wr.cell _ (Or.inr (Or.inl rfl)))) (Wr.cell _ (Or.inr (Or.inr rfl)))
       have hxE : Xt w ((w8.setCell ⟨B + 1 + 1, 0, none⟩ (.pointer none)).setCell ⟨B + 1 + 1 + 1, 0, none⟩ (.int .i64 cd)) := hWE.xt HXWW.out (fun b hb => by rcases hb with e | e | e <;> omega)
       refine ⟨⟨hWE.size, fun k o hB hk _ => (hWE.block k (Array.getElem?_eq_some_iff.1 hk).1 (fun e => by rcases e with e | e | e <;> omega)).trans hk⟩, rfl, hxE, ?_, HPN.out H0.out, ?_⟩
       · exact (Below.heap_setCell _ _ _ _ (by simp)).trans (setCell_row HQ1.out 0 _)
       · rw [h41.out]; exact setCell_row ((Below.heap_setCell _ _ _ _ (by simp)).trans HQ2.out) 0 _
end Go.Proofs.YtdoeejhdenifpaaGreatDoor
/- Two grids' maps are equal: maps.EqualFunc under grid.Same. -/
namespace Go.Proofs.YtdoeejhdenifpaaGreatDoor
open Go.RowKit Go.Sort Go.Maps
theorem lk_in {c : Ad} {v : Value} : ∀ {E : List (Ad × Value)}, (E.map (·.1)).Nodup → (c, v) ∈ E → lk c E = some v
 | [], _, h => by simp at h
 | x :: r, hn, h => by
  unfold lk
  rw [List.map_cons, List.nodup_cons] at hn
  rcases List.mem_cons.1 h with rfl | h
  · simp
  · have : ¬ x.1 = c := fun e => hn.1 (e ▸ List.mem_map.2 ⟨_, h, rfl⟩)
    simp only [this, if_false]
    exact lk_in hn.2 h
noncomputable def okAt (M1 M2 : GM) (a : Ad) : Bool := match lkM a M1, lkM a M2 with
 | some x, some y => sameCB x.1 y.1
 | _, _ => false
noncomputable def eqMB (M1 M2 : GM) : Bool := decide (M1.length = M2.length) && (M1.map (·.1)).all (okAt M1 M2)
theorem eqMB_len {M1 M2 : GM} (h : ¬ M1.length = M2.length) : eqMB M1 M2 = false := by simp [eqMB, h]
theorem eqMB_no {M1 M2 : GM} {a : Ad} (ha : a ∈ M1.map (·.1)) (h : okAt M1 M2 a = false) : eqMB M1 M2 = false := by
 have : (M1.map (·.1)).all (okAt M1 M2) = false := by
  rw [List.all_eq_false]; exact ⟨a, ha, by simp [h]⟩
 simp [eqMB, this]
theorem eqMB_yes {M1 M2 : GM} (h : M1.length = M2.length) (hk : ∀ a ∈ M1.map (·.1), okAt M1 M2 a = true) : eqMB M1 M2 = true := by
 have : (M1.map (·.1)).all (okAt M1 M2) = true := List.all_eq_true.2 hk
 simp [eqMB, this, h]
structure MapG (w : World) (mb : Nat) (M : GM) : Prop where
 map : ∃ E, MapIs w mb E ∧ (∀ a, lk a E = (lkM a M).map ceV) ∧ E.length = M.length ∧ (E.map (·.1)).Perm (M.map (·.1))
 args : ∀ x ∈ M, ceIn w x.2
theorem GridIs.mapG {w : World} {gb mb : Nat} {M : GM} (h : GridIs w gb mb M) : MapG w mb M := by
 obtain ⟨E, hm, he⟩ := h.map
 exact ⟨⟨E, hm, he, h.len hm he, h.keys hm he⟩, h.args⟩
theorem MapG.xt {w w' : World} {mb : Nat} {M : GM} (h : MapG w mb M) (hx : Xt w w') : MapG w' mb M := by
 obtain ⟨E, hm, r⟩ := h.map
 exact ⟨⟨E, hm.of_heap (hx.block mb hm.lt), r⟩, fun x hx' => (h.args x hx').kept hx.cellsIn⟩
theorem args_up {w : World} : ∀ {n m : Nat} {av : Value} {l : List NodeT}, n ≤ m → ArgsIn w n av l → ArgsIn w m av l
 | 0, 0, _, _, _, h => h
 | 0, m + 1, _, _, _, h => by obtain ⟨rfl, a, cap, rfl, hc⟩ := h; exact ⟨a, cap, rfl, Nat.zero_le _, hc, fun h => absurd rfl h⟩
 | n + 1, 0, _, _, hl, _ => absurd hl (by omega)
 | n + 1, m + 1, _, _, hl, h => by
  obtain ⟨a, cap, rfl, h1, h2, h3⟩ := h
  refine ⟨a, cap, rfl, h1, h2, fun hne => ?_⟩
  obtain ⟨b, off, rfl, hc⟩ := h3 hne
  exact ⟨b, off, rfl, fun k t ht => let ⟨av', q1, q2⟩ := hc k t ht; ⟨av', q1, args_up (by omega) q2⟩⟩
theorem gsame_in {w : World} {x y : CE} (hx : ceIn w x) (hy : ceIn w y) : Calls Tryz.prog 17 #[ceV x, ceV y] w fun e w' => e = .returned (.bool (sameCB x.1 y.1)) ∧ Gr w w' := by
 obtain ⟨_, n, h1⟩ := hx
 obtain ⟨_, m, h2⟩ := hy
 exact gsame_any (max n m) x.1 y.1 x.2 y.2 _ _ w (args_up (Nat.le_max_left ..) h1) (args_up (Nat.le_max_right ..) h2)
set_option maxRecDepth 100000 in
set_option maxHeartbeats 4000000 in
theorem meq_any (b1 b2 : Nat) (M1 M2 : GM) (w : World) (h1 : MapG w b1 M1) (h2 : MapG w b2 M2) :
    Calls Tryz.prog 55 #[.map (some b1), .map (some b2), .func (.func 17) #[] #[]] w fun e w' => e = .returned (.bool (eqMB M1 M2)) ∧ Xt w w' := by
 have H1 := Lib.hid h1
 have H2 := Lib.hid h2
 obtain ⟨E1, hm1, he1, hl1, hp1⟩ := h1.map
 obtain ⟨E2, hm2, he2, hl2, hp2⟩ := h2.map
 have q1 : ∀ ty, (Builtin.len_ #[100] ty #[.map (some b1)]).run Tryz.prog w = .ok (.int .i64 M1.length) w := fun ty => by rw [← hl1]; exact hm1.len Tryz.underlying100
 have q2 : ∀ ty, (Builtin.len_ #[100] ty #[.map (some b2)]).run Tryz.prog w = .ok (.int .i64 M2.length) w := fun ty => by rw [← hl2]; exact hm2.len Tryz.underlying100
 by_cases hl : M1.length = M2.length
 rotate_left
 · have hne : ((M1.length : Int) == (M2.length : Int)) = false := by simp; omega
   have HN := Lib.hid (eqMB_len hl)
   clear hl h1 h2 hm1 he1 hl1 hp1 hm2 he2 hl2 hp2
   go_enter Tryz.func55, Tryz.ntmps55
   go_wp2_with fail
   go_ret
   exact ⟨by rw [HN.out]; rfl, Xt.refl _⟩
 have HL := Lib.hid hl
 have HE1 := Lib.hid he1
 have HE2 := Lib.hid he2
 have HP1 := Lib.hid hp1
 have HND := Lib.hid hm1.nodup
 rw [← hl] at q2
 clear hl h1 h2 he1 hl1 hp1 he2 hl2 hp2
 go_enter Tryz.func55, Tryz.ntmps55
 go_wp2_with (first | (at_range; refine wpList_range_it _ rfl _ 100 24 51 rfl Tryz.underlying100 b1 E1 rfl hm1 ?_; intro w2 hI hg2 hs2; go_frame))
 have HX2 : Hid (Xt w w2) := hg2.xt
 obtain ⟨r, hr⟩ : ∃ r, w.heap.size = r := ⟨_, rfl⟩
 rw [hr] at hI hs2 ⊢
 have HR := Lib.hid hr
 clear hr hg2 hs2 q1 q2
 go_loopg [18] E1.length (fun k _ wr => ∃ left cur ks, left.length = k ∧ Hid ((ks ++ left.map (·.1)).Perm (E1.map (·.1))) ∧ Hid (∀ x ∈ left, x ∈ E1) ∧ IterIs wr r b1 E1 left cur ∧ Hid (∀ a ∈ ks, okAt M1 M2 a = true) ∧ Hid (Xt w wr))
 case atStart => exact ⟨E1, none, [], rfl, by unfold Hid; simp, fun _ h => h, hI, fun _ h => absurd h (by simp), HX2⟩
 case round =>
  clear HX2 hI
  obtain ⟨left, cur, ks, rfl, HP, HIN, hI1, HOK, HX⟩ := hrel
  go_wp2_with (at_next; refine wpList_next_it _ rfl _ rfl _ _ _ _ _ rfl hI1 ?_ ?_)
  · intro hdone
    subst hdone
    go_wp2_with fail
    go_ret
    have hp := HP.out
    simp only [List.map_nil, List.append_nil] at hp
    refine ⟨?_, HX.out⟩
    rw [eqMB_yes HL.out fun a ha => HOK.out a (hp.mem_iff.2 (HP1.out.mem_iff.2 ha))]
    rfl
  · intro c d v l1 l2 w3 hl hI2 hg3 hs3 hen
    have HL3 := Lib.hid hl
    have HP' : Hid (((ks ++ [(c, d)]) ++ (l1 ++ l2).map (·.1)).Perm (E1.map (·.1))) := by
     refine List.Perm.trans ?_ HP.out
     rw [hl]
     simp only [List.map_append, List.map_cons, List.append_assoc, List.singleton_append]
     exact List.Perm.append_left _ List.perm_middle.symm
    have HIN' : Hid (∀ x ∈ l1 ++ l2, x ∈ E1) := fun x hx => HIN.out x (by rw [hl]; rcases List.mem_append.1 hx with h | h <;> simp [h])
    have hlk : lk (c, d) E1 = some v := lk_in HND.out (HIN.out _ (by rw [hl]; simp))
    have hin : (c, d) ∈ M1.map (·.1) := HP1.out.mem_iff.1 (List.mem_map.2 ⟨_, HIN.out ((c, d), v) (by rw [hl]; simp), rfl⟩)
    rw [HE1.out] at hlk
    obtain ⟨x, hx, rfl⟩ := Option.map_eq_some_iff.1 hlk
    have HXM := Lib.hid hx
    have HIM := Lib.hid hin
    have hX3 : Xt w w3 := HX.out.grownB hg3 (fun m hm => by cases hm; rw [HR.out]; exact Nat.le_refl _)
    clear hl hI1 hs3 hg3 hlk hin hx HIN HP
    obtain ⟨wA, hwA, hbA, hsA, kA0, kA1⟩ := box1 w3 c d 24
    obtain ⟨wZ, wB, hwZ, hwB, hrZ, hrB, hxB1, hsB, hxZ, hsZ⟩ := boxR wA x
    rw [hsA] at hrZ hrB hwB
    have hxB : Xt w3 wB := by refine Xt.trans ?_ hxB1; rw [← hwA]; exact (Xt.refl w3).alloc _
    rw [hsA] at hsB
    have hmB := H2.out.xt (hX3.trans hxB)
    obtain ⟨E2', hm2', he2', _, _⟩ := hmB.map
    have hlook := MapIs.lookup_ok (P := Tryz.prog) (t := 100) (k := 24) (e := 51) adrKey Tryz.underlying100 zeroCon hm2' (c, d)
    have hcx : ceIn w (x.1, x.2) := H1.out.args _ (lkM_mem HXM.out)
    have HCX := Lib.hid (fun W (h : Xt w W) => hcx.kept h.cellsIn)
    have HCY := Lib.hid (fun W (y : CE) (hy : lkM (c, d) M2 = some y) (h : Xt w W) => (H2.out.args _ (lkM_mem hy)).kept h.cellsIn)
    have kB0 : wB.cell? ⟨w3.heap.size, 0, none⟩ = some (.int .i64 c) := ((hxB1.cells).1 _ 0 (by omega)).trans kA0
    have kB1 : wB.cell? ⟨w3.heap.size, 1, none⟩ = some (.int .i64 d) := ((hxB1.cells).1 _ 1 (by omega)).trans kA1
    rw [he2'] at hlook
    have HRB := Lib.hid hrB
    have HXB := Lib.hid hxB
    have HX3 := Lib.hid hX3
    have HRZ := Lib.hid hrZ
    have HWB := Lib.hid hwB
    clear hmB hm2' he2' hcx hrB hxB hX3 hbA kA0 kA1 hrZ hwB hxB1 hxZ
    cases hy : lkM (c, d) M2 with
    | none =>
     rw [hy] at hlook
     have hlk2 : (Instr.lookup 100 (.map (some b2)) (.agg #[.int .i64 c, .int .i64 d]) true).run Tryz.prog wB = .ok (.tuple #[contV zeroC none 0 0, .bool false]) wB := hlook
     have HNO : Hid (eqMB M1 M2 = false) := eqMB_no HIM.out (by unfold okAt; rw [HXM.out, hy])
     obtain ⟨wN, wE, hwN, hwE, hrN, hrE, hxE, hsE, hxN, hsN⟩ := boxR wB (zeroC, none)
     rw [hsB] at hrN hwE
     have HRN := Lib.hid hrN
     have HWN := Lib.hid hwE
     have HXE := Lib.hid (HX3.out.trans (HXB.out.trans hxE))
     clear hlook hy hrN hwE hrE hxE hxN
     go_wp2_with (first | (refine wpList_store_row (P := Tryz.prog) rfl 51 _ _ rfl (w3.heap.size + 1) #[.int .i64 x.1.kind, .int .i64 x.1.v.kind, .float .f64 x.1.v.x, .string x.1.v.s, .bool x.1.v.b, .int .i64 x.1.v.f, .int .i64 x.1.t.kind, .int .i64 x.1.t.op, .float .f64 x.1.t.x, .string x.1.t.s, .bool x.1.t.b, .int .i64 x.1.t.f, .int .i64 x.1.t.ref.a.1, .int .i64 x.1.t.ref.a.2, .bool x.1.t.ref.cf, .bool x.1.t.ref.rf, .int .i64 x.1.t.to.a.1, .int .i64 x.1.t.to.a.2, .bool x.1.t.to.cf, .bool x.1.t.to.rf, .slice x.2 x.1.t.args.length x.1.t.args.length] rfl rfl 51 _ HRZ.out (by kernel_rfl) rfl (by simp [Value.oneCell']) ?_; rw [HWB.out]) | (refine wpList_store_row (P := Tryz.prog) rfl 51 _ _ rfl (w3.heap.size + 2) #[.int .i64 zeroC.kind, .int .i64 zeroC.v.kind, .float .f64 zeroC.v.x, .string zeroC.v.s, .bool zeroC.v.b, .int .i64 zeroC.v.f, .int .i64 zeroC.t.kind, .int .i64 zeroC.t.op, .float .f64 zeroC.t.x, .string zeroC.t.s, .bool zeroC.t.b, .int .i64 zeroC.t.f, .int .i64 zeroC.t.ref.a.1, .int .i64 zeroC.t.ref.a.2, .bool zeroC.t.ref.cf, .bool zeroC.t.ref.rf, .int .i64 zeroC.t.to.a.1, .int .i64 zeroC.t.to.a.2, .bool zeroC.t.to.cf, .bool zeroC.t.to.rf, .slice none zeroC.t.args.length zeroC.t.args.length] rfl rfl 51 _ HRN.out (by kernel_rfl) rfl (by simp [Value.oneCell']) ?_; rw [HWN.out]))
     go_ret
     exact ⟨by rw [HNO.out]; rfl, HXE.out⟩
    | some y =>
     rw [hy] at hlook
     have hlk2 : (Instr.lookup 100 (.map (some b2)) (.agg #[.int .i64 c, .int .i64 d]) true).run Tryz.prog wB = .ok (.tuple #[ceV y, .bool true]) wB := hlook
     obtain ⟨wN, wE, hwN, hwE, hrN, hrE, hxE, hsE, hxN, hsN⟩ := boxR wB y
     rw [hsB] at hrN hwE hrE
     have HRN := Lib.hid hrN
     have HWN := Lib.hid hwE
     have hrB2 := (hxE.block (w3.heap.size + 1) (by omega)).trans HRB.out
     have HRX := Lib.hid hrB2
     have HRY := Lib.hid hrE
     have HXE := Lib.hid (HX3.out.trans (HXB.out.trans hxE))
     have HC := Lib.hid (gsame_in (HCX.out _ HXE.out) (HCY.out _ y hy HXE.out))
     have HOKA : Hid (okAt M1 M2 (c, d) = sameCB x.1 y.1) := by unfold Hid okAt; rw [HXM.out, hy]
     have hIE := hI2.of_heap (w' := wE) (((HXB.out.trans hxE).block b1 hI2.map.lt)) ((HXB.out.trans hxE).block r hI2.lt)
     clear hlook hy hrE hxE hrB2 hI2 hrN hwE hxN
     cases hsm : sameCB x.1 y.1
     · rw [hsm] at HC HOKA
       go_wp2_with (first
        | (refine wpList_store_row (P := Tryz.prog) rfl 51 _ _ rfl (w3.heap.size + 1) #[.int .i64 x.1.kind, .int .i64 x.1.v.kind, .float .f64 x.1.v.x, .string x.1.v.s, .bool x.1.v.b, .int .i64 x.1.v.f, .int .i64 x.1.t.kind, .int .i64 x.1.t.op, .float .f64 x.1.t.x, .string x.1.t.s, .bool x.1.t.b, .int .i64 x.1.t.f, .int .i64 x.1.t.ref.a.1, .int .i64 x.1.t.ref.a.2, .bool x.1.t.ref.cf, .bool x.1.t.ref.rf, .int .i64 x.1.t.to.a.1, .int .i64 x.1.t.to.a.2, .bool x.1.t.to.cf, .bool x.1.t.to.rf, .slice x.2 x.1.t.args.length x.1.t.args.length] rfl rfl 51 _ HRZ.out (by kernel_rfl) rfl (by simp [Value.oneCell']) ?_; rw [HWB.out])
        | (refine wpList_store_row (P := Tryz.prog) rfl 51 _ _ rfl (w3.heap.size + 2) #[.int .i64 y.1.kind, .int .i64 y.1.v.kind, .float .f64 y.1.v.x, .string y.1.v.s, .bool y.1.v.b, .int .i64 y.1.v.f, .int .i64 y.1.t.kind, .int .i64 y.1.t.op, .float .f64 y.1.t.x, .string y.1.t.s, .bool y.1.t.b, .int .i64 y.1.t.f, .int .i64 y.1.t.ref.a.1, .int .i64 y.1.t.ref.a.2, .bool y.1.t.ref.cf, .bool y.1.t.ref.rf, .int .i64 y.1.t.to.a.1, .int .i64 y.1.t.to.a.2, .bool y.1.t.to.cf, .bool y.1.t.to.rf, .slice y.2 y.1.t.args.length y.1.t.args.length] rfl rfl 51 _ HRN.out (by kernel_rfl) rfl (by simp [Value.oneCell']) ?_; rw [HWN.out])
        | (refine BigFrame.wpList_want (by rfl) (fun K hK => wp_load_row 51 _ rfl (w3.heap.size + 1) rfl 51 _ (0, 0) _ HRX.out Tryz.underlying51 rfl (by kernel_rfl) (hK _ _ ?_)); clear hK K)
        | (refine BigFrame.wpList_want (by rfl) (fun K hK => wp_load_row 51 _ rfl (w3.heap.size + 2) rfl 51 _ (0, 0) _ HRY.out Tryz.underlying51 rfl (by kernel_rfl) (hK _ _ ?_)); clear hK K)
        | (refine (HC.out).mono ?_; rintro e w6 ⟨rfl, hg6⟩; have HG6 := Lib.hid hg6; clear hg6))
       go_ret
       exact ⟨by rw [eqMB_no HIM.out HOKA.out]; rfl, HXE.out.trans HG6.out.xt⟩
     · rw [hsm] at HC HOKA
       go_wp2_with (first
        | (refine wpList_store_row (P := Tryz.prog) rfl 51 _ _ rfl (w3.heap.size + 1) #[.int .i64 x.1.kind, .int .i64 x.1.v.kind, .float .f64 x.1.v.x, .string x.1.v.s, .bool x.1.v.b, .int .i64 x.1.v.f, .int .i64 x.1.t.kind, .int .i64 x.1.t.op, .float .f64 x.1.t.x, .string x.1.t.s, .bool x.1.t.b, .int .i64 x.1.t.f, .int .i64 x.1.t.ref.a.1, .int .i64 x.1.t.ref.a.2, .bool x.1.t.ref.cf, .bool x.1.t.ref.rf, .int .i64 x.1.t.to.a.1, .int .i64 x.1.t.to.a.2, .bool x.1.t.to.cf, .bool x.1.t.to.rf, .slice x.2 x.1.t.args.length x.1.t.args.length] rfl rfl 51 _ HRZ.out (by kernel_rfl) rfl (by simp [Value.oneCell']) ?_; rw [HWB.out])
        | (refine wpList_store_row (P := Tryz.prog) rfl 51 _ _ rfl (w3.heap.size + 2) #[.int .i64 y.1.kind, .int .i64 y.1.v.kind, .float .f64 y.1.v.x, .string y.1.v.s, .bool y.1.v.b, .int .i64 y.1.v.f, .int .i64 y.1.t.kind, .int .i64 y.1.t.op, .float .f64 y.1.t.x, .string y.1.t.s, .bool y.1.t.b, .int .i64 y.1.t.f, .int .i64 y.1.t.ref.a.1, .int .i64 y.1.t.ref.a.2, .bool y.1.t.ref.cf, .bool y.1.t.ref.rf, .int .i64 y.1.t.to.a.1, .int .i64 y.1.t.to.a.2, .bool y.1.t.to.cf, .bool y.1.t.to.rf, .slice y.2 y.1.t.args.length y.1.t.args.length] rfl rfl 51 _ HRN.out (by kernel_rfl) rfl (by simp [Value.oneCell']) ?_; rw [HWN.out])
        | (refine BigFrame.wpList_want (by rfl) (fun K hK => wp_load_row 51 _ rfl (w3.heap.size + 1) rfl 51 _ (0, 0) _ HRX.out Tryz.underlying51 rfl (by kernel_rfl) (hK _ _ ?_)); clear hK K)
        | (refine BigFrame.wpList_want (by rfl) (fun K hK => wp_load_row 51 _ rfl (w3.heap.size + 2) rfl 51 _ (0, 0) _ HRY.out Tryz.underlying51 rfl (by kernel_rfl) (hK _ _ ?_)); clear hK K)
        | (refine (HC.out).mono ?_; rintro e w6 ⟨rfl, hg6⟩; have HG6 := Lib.hid hg6; clear hg6))
       have hI6 := hIE.of_heap (w' := w6) (HG6.out.xt.block b1 hIE.map.lt) (HG6.out.xt.block r hIE.lt)
       go_roundg (l1 ++ l2).length
       case rel => exact ⟨l1 ++ l2, _, ks ++ [(c, d)], rfl, HP', HIN', hI6, fun a ha => by rcases List.mem_append.1 ha with h | h; exact HOK.out a h; rw [List.mem_singleton.1 h]; exact HOKA.out, HXE.out.trans HG6.out.xt⟩
       case measure => rw [HL3.out]; simp
end Go.Proofs.YtdoeejhdenifpaaGreatDoor
/- Equal of two grids. -/
namespace Go.Proofs.YtdoeejhdenifpaaGreatDoor
open Go.RowKit Go.Sort Go.Maps
set_option maxRecDepth 100000 in
set_option maxHeartbeats 4000000 in
theorem gequal_any (g1 g2 b1 b2 : Nat) (M1 M2 : GM) (w : World) (h1 : GridIs w g1 b1 M1) (h2 : GridIs w g2 b2 M2) :
    Calls Tryz.prog 21 #[.pointer (some ⟨g1, 0, none⟩), .pointer (some ⟨g2, 0, none⟩)] w fun e w' => e = .returned (.bool (eqMB M1 M2)) ∧ Xt w w' := by
 have c1 := h1.cell
 have c2 := h2.cell
 have HM := Lib.hid (meq_any b1 b2 M1 M2 w.drew (h1.mapG.xt (Xt.refl w).drew) (h2.mapG.xt (Xt.refl w).drew))
 clear h1 h2
 go_enter Tryz.func21, Tryz.ntmps21
 go_wp2_with fail
 refine wp_region_still_tail 15 (by kernel_rfl) (by kernel_rfl) ?_
 change wpStill _ _ (World.drew _) _ _ _
 simp only [List.take_succ_cons, List.take_zero, List.drop_succ_cons, List.drop_zero]
 still_step
 still_step
 still_step
 still_step
 still_step
 still_step
 still_step
 still_step
 still_step
 still_step
 still_step
 still_step
 still_step
 still_step
 still_step
 refine wpStill_nil ?_
 change wpList _ _ _ _ _ (World.drew _)
 refine wpList_step (fun K hK => ?_)
 go_simp
 refine HM.out.mono ?_
 rintro e w5 ⟨rfl, hx⟩
 refine hK _ _ ?_
 clear hK K
 have HX := Lib.hid hx
 clear hx
 go_wp2_with fail
 go_ret
 exact ⟨rfl, (Xt.refl w).drew.trans HX.out⟩
end Go.Proofs.YtdoeejhdenifpaaGreatDoor
/- Grids that are equal; their lengths; their bulk. -/
namespace Go.Proofs.YtdoeejhdenifpaaGreatDoor
open Go.RowKit Go.Sort Go.Maps Go.Shelf Go.MapKept
attribute [local go_sem] Oper.semAt_some
theorem eqM_er {M1 M2 : GM} (h : er M1 = er M2) : eqMB M1 M2 = true := by
 refine eqMB_yes (by rw [← er_len M1, ← er_len M2, h]) (fun a ha => ?_)
 obtain ⟨x, hx⟩ := Option.isSome_iff_exists.1 (lkM_mem_iff.2 ha)
 have h1 := er_lk a M1
 rw [h, er_lk, hx] at h1
 cases hy : lkM a M2 with
 | none => rw [hy] at h1; cases h1
 | some y =>
  rw [hy] at h1
  have e : y.1 = x.1 := Option.some.inj h1
  unfold okAt
  rw [hx, hy]
  simp only
  rw [e]; exact sameCB_refl _
theorem equal_er (g1 g2 b1 b2 : Nat) (M1 M2 : GM) (w : World) (h1 : GridIs w g1 b1 M1) (h2 : GridIs w g2 b2 M2) (he : er M1 = er M2) :
    Calls Tryz.prog 21 #[.pointer (some ⟨g1, 0, none⟩), .pointer (some ⟨g2, 0, none⟩)] w fun e w' => e = .returned (.bool true) ∧ Xt w w' := by
 have h := gequal_any g1 g2 b1 b2 M1 M2 w h1 h2
 rw [eqM_er he] at h
 exact h
end Go.Proofs.YtdoeejhdenifpaaGreatDoor
/- What MoveCopies' walk needs of plain facts. -/
namespace Go.Proofs.YtdoeejhdenifpaaGreatDoor
open Go.RowKit Go.Sort Go.Maps Go.Shelf Go.MapKept
theorem CopyR.no {w : World} {e : Ending} {w' : World} (h : CopyR none w e w') : Xt w w' ∧ e = .returned (.tuple #[.pointer none, .int .i64 41]) := by
 obtain ⟨hx, ⟨h1, _⟩ | ⟨_, _, _, _, _, h2, _⟩⟩ := h
 · exact ⟨hx, h1⟩
 · cases h2
theorem small_mv9 (x : ArT) (y : Ad) : Mv (smallA x) ⟨(smallC y).1, (smallC y).2, (smallA x).c + ((smallC y).1 - (smallA x).a), (smallA x).d + ((smallC y).2 - (smallA x).b)⟩ ((smallC y).1 - (smallA x).a) ((smallC y).2 - (smallA x).b) := by
 have b1 := pickZ_lt (c := x.a) (n := 6) (by omega)
 have b2 := pickZ_lt (c := x.b) (n := 6) (by omega)
 have b3 := pickZ_lt (c := x.c) (n := 3) (by omega)
 have b4 := pickZ_lt (c := x.d) (n := 3) (by omega)
 have b5 := pickZ_lt (c := y.1) (n := 7) (by omega)
 have b6 := pickZ_lt (c := y.2) (n := 7) (by omega)
 unfold smallA smallC
 refine ⟨by simp only; omega, by simp only; omega, by simp only; omega, by simp only; omega, by simp only; omega, by simp only; omega, ?_, by simp only; omega, by simp only; omega, by simp only; omega, by simp only; omega⟩
 simp only [ArT.mk.injEq, true_and]
 refine ⟨?_, ?_, trivial⟩ <;> omega
theorem argsIn_nil9 (w : World) (a : Option Addr) (l : List NodeT) (h : l = []) : ArgsIn w 1 (.slice a l.length l.length) l := by
 subst h
 exact ⟨a, 0, rfl, by simp, by simp, fun hne => absurd rfl hne⟩
section
variable {f gl : ArT} {cc rr : Int} {g : Ad}
end
end Go.Proofs.YtdoeejhdenifpaaGreatDoor
/- Ways out of move's Copy, Move, Clear and Fill before anything is made (made by mkt10.py). -/
namespace Go.Proofs.YtdoeejhdenifpaaGreatDoor
open Go.RowKit Go.Sort Go.Maps Go.Shelf Go.MapKept
theorem two_end {w : World} {b1 b2 : Nat} {x y u v : Value} (h1 : w.cell? ⟨b1, 0, none⟩ = some x) (h2 : w.cell? ⟨b2, 0, none⟩ = some y) (hne : b1 ≠ b2) :
    ((w.setCell ⟨b1, 0, none⟩ u).setCell ⟨b2, 0, none⟩ v).cell? ⟨b1, 0, none⟩ = some u ∧ ((w.setCell ⟨b1, 0, none⟩ u).setCell ⟨b2, 0, none⟩ v).cell? ⟨b2, 0, none⟩ = some v :=
 ⟨(World.cell?_setCell_other _ _ _ _ (by simp <;> omega)).trans (World.cell?_setCell_same _ _ _ h1), World.cell?_setCell_same _ _ _ ((World.cell?_setCell_other _ _ _ _ (by simp <;> omega)).trans h2)⟩
set_option maxRecDepth 100000 in
set_option maxHeartbeats 4000000 in
theorem mcopy_bad (f : ArT) (g : Ad) (gb : Nat) (w : World) (hv : validA f.a f.b f.c f.d = false) :
    Calls Tryz.prog 27 #[.pointer (some ⟨gb, 0, none⟩), arT f, .agg #[.int .i64 g.1, .int .i64 g.2]] w fun e w' => e = .returned (.tuple #[.pointer none, .int .i64 1]) ∧ Xt w w' := by
 obtain ⟨B, hB⟩ : ∃ B, w.heap.size = B := ⟨_, rfl⟩
 obtain ⟨wx0, hwx0⟩ : ∃ W, w.alloc (.cells #[.int .i64 f.a, .int .i64 f.b, .int .i64 f.c, .int .i64 f.d] 26) = W := ⟨_, rfl⟩
 have hswx0 : wx0.heap.size = B + 1 := by rw [← hwx0]; simp [hB]
 obtain ⟨wx1, hwx1⟩ : ∃ W, wx0.alloc (.cells #[.int .i64 g.1, .int .i64 g.2] 24) = W := ⟨_, rfl⟩
 have hswx1 : wx1.heap.size = B + 1 + 1 := by rw [← hwx1]; simp [hswx0]
 obtain ⟨wx2, hwx2⟩ : ∃ W, wx1.alloc (.cells #[.pointer none] 29) = W := ⟨_, rfl⟩
 have hswx2 : wx2.heap.size = B + 1 + 1 + 1 := by rw [← hwx2]; simp [hswx1]
 obtain ⟨w0, hw0⟩ : ∃ W, wx2.alloc (.cells #[.int .i64 0] 35) = W := ⟨_, rfl⟩
 have hsw0 : w0.heap.size = B + 1 + 1 + 1 + 1 := by rw [← hw0]; simp [hswx2]
 have HX0 : Hid (Xt w w0) := by unfold Hid; rw [← hw0, ← hwx2, ← hwx1, ← hwx0]; exact ((((Xt.refl _).alloc _).alloc _).alloc _).alloc _
 have HR0 : Hid (w0.heap[B]? = some (.cells #[.int .i64 f.a, .int .i64 f.b, .int .i64 f.c, .int .i64 f.d] 26 (0, 0))) := rowX (w := wx0) (by rw [← hw0, ← hwx2, ← hwx1]; exact (((Xt.refl _).alloc _).alloc _).alloc _) (by rw [← hwx0, ← hB]; exact (MapKept.heap_alloc w _).1)
 have HR1 : Hid (w0.heap[B + 1]? = some (.cells #[.int .i64 g.1, .int .i64 g.2] 24 (0, 0))) := rowX (w := wx1) (by rw [← hw0, ← hwx2]; exact ((Xt.refl _).alloc _).alloc _) (by rw [← hwx1, ← hswx0]; exact (MapKept.heap_alloc wx0 _).1)
 have HR2 : Hid (w0.heap[B + 1 + 1]? = some (.cells #[.pointer none] 29 (0, 0))) := rowX (w := wx2) (by rw [← hw0]; exact (Xt.refl _).alloc _) (by rw [← hwx2, ← hswx1]; exact (MapKept.heap_alloc wx1 _).1)
 have HR3 : Hid (w0.heap[B + 1 + 1 + 1]? = some (.cells #[.int .i64 0] 35 (0, 0))) := by unfold Hid; rw [← hw0, ← hswx2]; exact (MapKept.heap_alloc wx2 _).1
 have HVA := Lib.hid (fun V => validArea_any f.a f.b f.c f.d V)
 rw [hv] at HVA
 obtain ⟨⟨a0, a1, a2, a3⟩, _⟩ := cells4 (HR0.out)
 obtain ⟨b0, b1, _, _⟩ := cells2 (HR1.out)
 obtain ⟨p0, p1⟩ := one_row (HR2.out)
 obtain ⟨r0, r1⟩ := one_row (HR3.out)
 clear hv
 go_enter Tryz.func27, Tryz.ntmps27
 go_wp2_with (first
  | (go_at_call 40; refine (HVA.out _).mono ?_; rintro e w1 ⟨rfl, hg1⟩; have HXC : Hid (Xt w0 w1) := hg1.xt; obtain ⟨⟨a0, a1, a2, a3⟩, _⟩ := cells4 (rowX HXC.out HR0.out); obtain ⟨b0, b1, _, _⟩ := cells2 (rowX HXC.out HR1.out); obtain ⟨p0, p1⟩ := one_row (rowX HXC.out HR2.out); obtain ⟨r0, r1⟩ := one_row (rowX HXC.out HR3.out); clear hg1))
 obtain ⟨k1, k2⟩ := two_end (u := .pointer none) (v := .int .i64 1) p0 r0 (by omega)
 have hx : Xt w ((w1.setCell ⟨B + 1 + 1, 0, none⟩ (.pointer none)).setCell ⟨B + 1 + 1 + 1, 0, none⟩ (.int .i64 1)) := ((HX0.out.trans HXC.out).grownB (setCell_grown _ _ _ _) (fun q hq => by cases hq; omega)).grownB (setCell_grown _ _ _ _) (fun q hq => by cases hq; omega)
 (try simp only [Exit.inBlock, Exit.then])
 refine bodyPost_ret (results_two rfl _ _ (B + 1 + 1) (B + 1 + 1 + 1) (.pointer none) (.int .i64 1) rfl rfl (load_pgrid _ _ _ k1) (load_err _ _ _ k2)) rfl ?_
 exact ⟨rfl, hx⟩
set_option maxRecDepth 100000 in
set_option maxHeartbeats 4000000 in
theorem mcopy_far (f : ArT) (g : Ad) (gb : Nat) (w : World) (hv : validA f.a f.b f.c f.d = true) (hv1 : (validB g.1 g.2 && validB (lastOf f g).1 (lastOf f g).2) = false) :
    Calls Tryz.prog 27 #[.pointer (some ⟨gb, 0, none⟩), arT f, .agg #[.int .i64 g.1, .int .i64 g.2]] w fun e w' => e = .returned (.tuple #[.pointer none, .int .i64 20]) ∧ Xt w w' := by
 obtain ⟨B, hB⟩ : ∃ B, w.heap.size = B := ⟨_, rfl⟩
 obtain ⟨wx0, hwx0⟩ : ∃ W, w.alloc (.cells #[.int .i64 f.a, .int .i64 f.b, .int .i64 f.c, .int .i64 f.d] 26) = W := ⟨_, rfl⟩
 have hswx0 : wx0.heap.size = B + 1 := by rw [← hwx0]; simp [hB]
 obtain ⟨wx1, hwx1⟩ : ∃ W, wx0.alloc (.cells #[.int .i64 g.1, .int .i64 g.2] 24) = W := ⟨_, rfl⟩
 have hswx1 : wx1.heap.size = B + 1 + 1 := by rw [← hwx1]; simp [hswx0]
 obtain ⟨wx2, hwx2⟩ : ∃ W, wx1.alloc (.cells #[.pointer none] 29) = W := ⟨_, rfl⟩
 have hswx2 : wx2.heap.size = B + 1 + 1 + 1 := by rw [← hwx2]; simp [hswx1]
 obtain ⟨w0, hw0⟩ : ∃ W, wx2.alloc (.cells #[.int .i64 0] 35) = W := ⟨_, rfl⟩
 have hsw0 : w0.heap.size = B + 1 + 1 + 1 + 1 := by rw [← hw0]; simp [hswx2]
 have HX0 : Hid (Xt w w0) := by unfold Hid; rw [← hw0, ← hwx2, ← hwx1, ← hwx0]; exact ((((Xt.refl _).alloc _).alloc _).alloc _).alloc _
 have HR0 : Hid (w0.heap[B]? = some (.cells #[.int .i64 f.a, .int .i64 f.b, .int .i64 f.c, .int .i64 f.d] 26 (0, 0))) := rowX (w := wx0) (by rw [← hw0, ← hwx2, ← hwx1]; exact (((Xt.refl _).alloc _).alloc _).alloc _) (by rw [← hwx0, ← hB]; exact (MapKept.heap_alloc w _).1)
 have HR1 : Hid (w0.heap[B + 1]? = some (.cells #[.int .i64 g.1, .int .i64 g.2] 24 (0, 0))) := rowX (w := wx1) (by rw [← hw0, ← hwx2]; exact ((Xt.refl _).alloc _).alloc _) (by rw [← hwx1, ← hswx0]; exact (MapKept.heap_alloc wx0 _).1)
 have HR2 : Hid (w0.heap[B + 1 + 1]? = some (.cells #[.pointer none] 29 (0, 0))) := rowX (w := wx2) (by rw [← hw0]; exact (Xt.refl _).alloc _) (by rw [← hwx2, ← hswx1]; exact (MapKept.heap_alloc wx1 _).1)
 have HR3 : Hid (w0.heap[B + 1 + 1 + 1]? = some (.cells #[.int .i64 0] 35 (0, 0))) := by unfold Hid; rw [← hw0, ← hswx2]; exact (MapKept.heap_alloc wx2 _).1
 have HVA := Lib.hid (fun V => validArea_any f.a f.b f.c f.d V)
 rw [hv] at HVA
 have HTH := Lib.hid (fun V => there_any f g V)
 rw [hv1] at HTH
 obtain ⟨gl, hgl⟩ : ∃ gl, thereA f g = gl := ⟨_, rfl⟩
 rw [hgl] at HTH
 obtain ⟨⟨a0, a1, a2, a3⟩, _⟩ := cells4 (HR0.out)
 obtain ⟨b0, b1, _, _⟩ := cells2 (HR1.out)
 obtain ⟨p0, p1⟩ := one_row (HR2.out)
 obtain ⟨r0, r1⟩ := one_row (HR3.out)
 clear hv hv1
 clear hgl
 go_enter Tryz.func27, Tryz.ntmps27
 go_wp2_with (first
  | (go_at_call 40; refine (HVA.out _).mono ?_; rintro e w1 ⟨rfl, hg1⟩; have HXC : Hid (Xt w0 w1) := hg1.xt; obtain ⟨⟨a0, a1, a2, a3⟩, _⟩ := cells4 (rowX HXC.out HR0.out); obtain ⟨b0, b1, _, _⟩ := cells2 (rowX HXC.out HR1.out); obtain ⟨p0, p1⟩ := one_row (rowX HXC.out HR2.out); obtain ⟨r0, r1⟩ := one_row (rowX HXC.out HR3.out); clear hg1)
  | (go_at_call 41; refine (HTH.out _).mono ?_; rintro e w2 ⟨rfl, hx2⟩; obtain ⟨wb, hwb⟩ : ∃ wb, w2.alloc (.cells #[.int .i64 gl.a, .int .i64 gl.b, .int .i64 gl.c, .int .i64 gl.d] 26) = wb := ⟨_, rfl⟩; replace HXC : Hid (Xt w0 wb) := (by unfold Hid; rw [← hwb]; exact (HXC.out.trans hx2).alloc _); obtain ⟨⟨a0, a1, a2, a3⟩, _⟩ := cells4 (rowX HXC.out HR0.out); obtain ⟨b0, b1, _, _⟩ := cells2 (rowX HXC.out HR1.out); obtain ⟨p0, p1⟩ := one_row (rowX HXC.out HR2.out); obtain ⟨r0, r1⟩ := one_row (rowX HXC.out HR3.out); clear hx2))
 obtain ⟨k1, k2⟩ := two_end (u := .pointer none) (v := .int .i64 20) p0 r0 (by omega)
 have hx : Xt w ((wb.setCell ⟨B + 1 + 1, 0, none⟩ (.pointer none)).setCell ⟨B + 1 + 1 + 1, 0, none⟩ (.int .i64 20)) := ((HX0.out.trans HXC.out).grownB (setCell_grown _ _ _ _) (fun q hq => by cases hq; omega)).grownB (setCell_grown _ _ _ _) (fun q hq => by cases hq; omega)
 (try simp only [Exit.inBlock, Exit.then])
 refine bodyPost_ret (results_two rfl _ _ (B + 1 + 1) (B + 1 + 1 + 1) (.pointer none) (.int .i64 20) rfl rfl (load_pgrid _ _ _ k1) (load_err _ _ _ k2)) rfl ?_
 exact ⟨rfl, hx⟩
set_option maxRecDepth 100000 in
set_option maxHeartbeats 4000000 in
theorem mmove_bad (f : ArT) (g : Ad) (gb : Nat) (w : World) (hv : validA f.a f.b f.c f.d = false) :
    Calls Tryz.prog 12 #[.pointer (some ⟨gb, 0, none⟩), arT f, .agg #[.int .i64 g.1, .int .i64 g.2]] w fun e w' => e = .returned (.tuple #[.pointer none, .int .i64 1]) ∧ Xt w w' := by
 obtain ⟨B, hB⟩ : ∃ B, w.heap.size = B := ⟨_, rfl⟩
 obtain ⟨wx0, hwx0⟩ : ∃ W, w.alloc (.cells #[.int .i64 f.a, .int .i64 f.b, .int .i64 f.c, .int .i64 f.d] 26) = W := ⟨_, rfl⟩
 have hswx0 : wx0.heap.size = B + 1 := by rw [← hwx0]; simp [hB]
 obtain ⟨w0, hw0⟩ : ∃ W, wx0.alloc (.cells #[.int .i64 g.1, .int .i64 g.2] 24) = W := ⟨_, rfl⟩
 have hsw0 : w0.heap.size = B + 1 + 1 := by rw [← hw0]; simp [hswx0]
 have HX0 : Hid (Xt w w0) := by unfold Hid; rw [← hw0, ← hwx0]; exact ((Xt.refl _).alloc _).alloc _
 have HR0 : Hid (w0.heap[B]? = some (.cells #[.int .i64 f.a, .int .i64 f.b, .int .i64 f.c, .int .i64 f.d] 26 (0, 0))) := rowX (w := wx0) (by rw [← hw0]; exact (Xt.refl _).alloc _) (by rw [← hwx0, ← hB]; exact (MapKept.heap_alloc w _).1)
 have HR1 : Hid (w0.heap[B + 1]? = some (.cells #[.int .i64 g.1, .int .i64 g.2] 24 (0, 0))) := by unfold Hid; rw [← hw0, ← hswx0]; exact (MapKept.heap_alloc wx0 _).1
 have HVA := Lib.hid (fun V => validArea_any f.a f.b f.c f.d V)
 rw [hv] at HVA
 obtain ⟨⟨a0, a1, a2, a3⟩, _⟩ := cells4 (HR0.out)
 obtain ⟨b0, b1, _, _⟩ := cells2 (HR1.out)
 clear hv
 go_enter Tryz.func12, Tryz.ntmps12
 go_wp2_with (first
  | (go_at_call 40; refine (HVA.out _).mono ?_; rintro e w1 ⟨rfl, hg1⟩; have HXC : Hid (Xt w0 w1) := hg1.xt; obtain ⟨⟨a0, a1, a2, a3⟩, _⟩ := cells4 (rowX HXC.out HR0.out); obtain ⟨b0, b1, _, _⟩ := cells2 (rowX HXC.out HR1.out); clear hg1))
 go_ret2
 exact ⟨rfl, HX0.out.trans HXC.out⟩
set_option maxRecDepth 100000 in
set_option maxHeartbeats 4000000 in
theorem mmove_far (f : ArT) (g : Ad) (gb : Nat) (w : World) (hv : validA f.a f.b f.c f.d = true) (hv1 : (validB g.1 g.2 && validB (lastOf f g).1 (lastOf f g).2) = false) :
    Calls Tryz.prog 12 #[.pointer (some ⟨gb, 0, none⟩), arT f, .agg #[.int .i64 g.1, .int .i64 g.2]] w fun e w' => e = .returned (.tuple #[.pointer none, .int .i64 20]) ∧ Xt w w' := by
 obtain ⟨B, hB⟩ : ∃ B, w.heap.size = B := ⟨_, rfl⟩
 obtain ⟨wx0, hwx0⟩ : ∃ W, w.alloc (.cells #[.int .i64 f.a, .int .i64 f.b, .int .i64 f.c, .int .i64 f.d] 26) = W := ⟨_, rfl⟩
 have hswx0 : wx0.heap.size = B + 1 := by rw [← hwx0]; simp [hB]
 obtain ⟨w0, hw0⟩ : ∃ W, wx0.alloc (.cells #[.int .i64 g.1, .int .i64 g.2] 24) = W := ⟨_, rfl⟩
 have hsw0 : w0.heap.size = B + 1 + 1 := by rw [← hw0]; simp [hswx0]
 have HX0 : Hid (Xt w w0) := by unfold Hid; rw [← hw0, ← hwx0]; exact ((Xt.refl _).alloc _).alloc _
 have HR0 : Hid (w0.heap[B]? = some (.cells #[.int .i64 f.a, .int .i64 f.b, .int .i64 f.c, .int .i64 f.d] 26 (0, 0))) := rowX (w := wx0) (by rw [← hw0]; exact (Xt.refl _).alloc _) (by rw [← hwx0, ← hB]; exact (MapKept.heap_alloc w _).1)
 have HR1 : Hid (w0.heap[B + 1]? = some (.cells #[.int .i64 g.1, .int .i64 g.2] 24 (0, 0))) := by unfold Hid; rw [← hw0, ← hswx0]; exact (MapKept.heap_alloc wx0 _).1
 have HVA := Lib.hid (fun V => validArea_any f.a f.b f.c f.d V)
 rw [hv] at HVA
 have HTH := Lib.hid (fun V => there_any f g V)
 rw [hv1] at HTH
 obtain ⟨gl, hgl⟩ : ∃ gl, thereA f g = gl := ⟨_, rfl⟩
 rw [hgl] at HTH
 obtain ⟨⟨a0, a1, a2, a3⟩, _⟩ := cells4 (HR0.out)
 obtain ⟨b0, b1, _, _⟩ := cells2 (HR1.out)
 clear hv hv1
 clear hgl
 go_enter Tryz.func12, Tryz.ntmps12
 go_wp2_with (first
  | (go_at_call 40; refine (HVA.out _).mono ?_; rintro e w1 ⟨rfl, hg1⟩; have HXC : Hid (Xt w0 w1) := hg1.xt; obtain ⟨⟨a0, a1, a2, a3⟩, _⟩ := cells4 (rowX HXC.out HR0.out); obtain ⟨b0, b1, _, _⟩ := cells2 (rowX HXC.out HR1.out); clear hg1)
  | (go_at_call 41; refine (HTH.out _).mono ?_; rintro e w2 ⟨rfl, hx2⟩; obtain ⟨wb, hwb⟩ : ∃ wb, w2.alloc (.cells #[.int .i64 gl.a, .int .i64 gl.b, .int .i64 gl.c, .int .i64 gl.d] 26) = wb := ⟨_, rfl⟩; replace HXC : Hid (Xt w0 wb) := (by unfold Hid; rw [← hwb]; exact (HXC.out.trans hx2).alloc _); obtain ⟨⟨a0, a1, a2, a3⟩, _⟩ := cells4 (rowX HXC.out HR0.out); obtain ⟨b0, b1, _, _⟩ := cells2 (rowX HXC.out HR1.out); clear hx2))
 go_ret2
 exact ⟨rfl, HX0.out.trans HXC.out⟩
set_option maxRecDepth 100000 in
set_option maxHeartbeats 4000000 in
theorem mclear_bad (f : ArT) (gb : Nat) (w : World) (hv : validA f.a f.b f.c f.d = false) :
    Calls Tryz.prog 29 #[.pointer (some ⟨gb, 0, none⟩), arT f] w fun e w' => e = .returned (.tuple #[.pointer none, .int .i64 1]) ∧ Xt w w' := by
 obtain ⟨B, hB⟩ : ∃ B, w.heap.size = B := ⟨_, rfl⟩
 obtain ⟨w0, hw0⟩ : ∃ W, w.alloc (.cells #[.int .i64 f.a, .int .i64 f.b, .int .i64 f.c, .int .i64 f.d] 26) = W := ⟨_, rfl⟩
 have hsw0 : w0.heap.size = B + 1 := by rw [← hw0]; simp [hB]
 have HX0 : Hid (Xt w w0) := by unfold Hid; rw [← hw0]; exact (Xt.refl _).alloc _
 have HR0 : Hid (w0.heap[B]? = some (.cells #[.int .i64 f.a, .int .i64 f.b, .int .i64 f.c, .int .i64 f.d] 26 (0, 0))) := by unfold Hid; rw [← hw0, ← hB]; exact (MapKept.heap_alloc w _).1
 have HVA := Lib.hid (fun V => validArea_any f.a f.b f.c f.d V)
 rw [hv] at HVA
 obtain ⟨⟨a0, a1, a2, a3⟩, _⟩ := cells4 (HR0.out)
 clear hv
 go_enter Tryz.func29, Tryz.ntmps29
 go_wp2_with (first
  | (go_at_call 40; refine (HVA.out _).mono ?_; rintro e w1 ⟨rfl, hg1⟩; have HXC : Hid (Xt w0 w1) := hg1.xt; obtain ⟨⟨a0, a1, a2, a3⟩, _⟩ := cells4 (rowX HXC.out HR0.out); clear hg1))
 go_ret2
 exact ⟨rfl, HX0.out.trans HXC.out⟩
set_option maxRecDepth 100000 in
set_option maxHeartbeats 4000000 in
theorem mfill_bad (f : ArT) (g : Ad) (gb : Nat) (w : World) (hv : validA f.a f.b f.c f.d = false) :
    Calls Tryz.prog 28 #[.pointer (some ⟨gb, 0, none⟩), .agg #[.int .i64 g.1, .int .i64 g.2], arT f] w fun e w' => e = .returned (.tuple #[.pointer none, .int .i64 1]) ∧ Xt w w' := by
 obtain ⟨B, hB⟩ : ∃ B, w.heap.size = B := ⟨_, rfl⟩
 obtain ⟨wx0, hwx0⟩ : ∃ W, w.alloc (.cells #[.int .i64 g.1, .int .i64 g.2] 24) = W := ⟨_, rfl⟩
 have hswx0 : wx0.heap.size = B + 1 := by rw [← hwx0]; simp [hB]
 obtain ⟨wx1, hwx1⟩ : ∃ W, wx0.alloc (.cells #[.int .i64 f.a, .int .i64 f.b, .int .i64 f.c, .int .i64 f.d] 26) = W := ⟨_, rfl⟩
 have hswx1 : wx1.heap.size = B + 1 + 1 := by rw [← hwx1]; simp [hswx0]
 obtain ⟨wx2, hwx2⟩ : ∃ W, wx1.alloc (.cells #[.pointer none] 29) = W := ⟨_, rfl⟩
 have hswx2 : wx2.heap.size = B + 1 + 1 + 1 := by rw [← hwx2]; simp [hswx1]
 obtain ⟨w0, hw0⟩ : ∃ W, wx2.alloc (.cells #[.int .i64 0] 35) = W := ⟨_, rfl⟩
 have hsw0 : w0.heap.size = B + 1 + 1 + 1 + 1 := by rw [← hw0]; simp [hswx2]
 have HX0 : Hid (Xt w w0) := by unfold Hid; rw [← hw0, ← hwx2, ← hwx1, ← hwx0]; exact ((((Xt.refl _).alloc _).alloc _).alloc _).alloc _
 have HR0 : Hid (w0.heap[B]? = some (.cells #[.int .i64 g.1, .int .i64 g.2] 24 (0, 0))) := rowX (w := wx0) (by rw [← hw0, ← hwx2, ← hwx1]; exact (((Xt.refl _).alloc _).alloc _).alloc _) (by rw [← hwx0, ← hB]; exact (MapKept.heap_alloc w _).1)
 have HR1 : Hid (w0.heap[B + 1]? = some (.cells #[.int .i64 f.a, .int .i64 f.b, .int .i64 f.c, .int .i64 f.d] 26 (0, 0))) := rowX (w := wx1) (by rw [← hw0, ← hwx2]; exact ((Xt.refl _).alloc _).alloc _) (by rw [← hwx1, ← hswx0]; exact (MapKept.heap_alloc wx0 _).1)
 have HR2 : Hid (w0.heap[B + 1 + 1]? = some (.cells #[.pointer none] 29 (0, 0))) := rowX (w := wx2) (by rw [← hw0]; exact (Xt.refl _).alloc _) (by rw [← hwx2, ← hswx1]; exact (MapKept.heap_alloc wx1 _).1)
 have HR3 : Hid (w0.heap[B + 1 + 1 + 1]? = some (.cells #[.int .i64 0] 35 (0, 0))) := by unfold Hid; rw [← hw0, ← hswx2]; exact (MapKept.heap_alloc wx2 _).1
 have HVA := Lib.hid (fun V => validArea_any f.a f.b f.c f.d V)
 rw [hv] at HVA
 obtain ⟨b0, b1, _, _⟩ := cells2 (HR0.out)
 obtain ⟨⟨a0, a1, a2, a3⟩, _⟩ := cells4 (HR1.out)
 obtain ⟨p0, p1⟩ := one_row (HR2.out)
 obtain ⟨r0, r1⟩ := one_row (HR3.out)
 clear hv
 go_enter Tryz.func28, Tryz.ntmps28
 go_wp2_with (first
  | (go_at_call 40; refine (HVA.out _).mono ?_; rintro e w1 ⟨rfl, hg1⟩; have HXC : Hid (Xt w0 w1) := hg1.xt; obtain ⟨b0, b1, _, _⟩ := cells2 (rowX HXC.out HR0.out); obtain ⟨⟨a0, a1, a2, a3⟩, _⟩ := cells4 (rowX HXC.out HR1.out); obtain ⟨p0, p1⟩ := one_row (rowX HXC.out HR2.out); obtain ⟨r0, r1⟩ := one_row (rowX HXC.out HR3.out); clear hg1))
 obtain ⟨k1, k2⟩ := two_end (u := .pointer none) (v := .int .i64 1) p0 r0 (by omega)
 have hx : Xt w ((w1.setCell ⟨B + 1 + 1, 0, none⟩ (.pointer none)).setCell ⟨B + 1 + 1 + 1, 0, none⟩ (.int .i64 1)) := ((HX0.out.trans HXC.out).grownB (setCell_grown _ _ _ _) (fun q hq => by cases hq; omega)).grownB (setCell_grown _ _ _ _) (fun q hq => by cases hq; omega)
 (try simp only [Exit.inBlock, Exit.then])
 refine bodyPost_ret (results_two rfl _ _ (B + 1 + 1) (B + 1 + 1 + 1) (.pointer none) (.int .i64 1) rfl rfl (load_pgrid _ _ _ k1) (load_err _ _ _ k2)) rfl ?_
 exact ⟨rfl, hx⟩
set_option maxRecDepth 100000 in
set_option maxHeartbeats 4000000 in
theorem mfill_far (f : ArT) (g : Ad) (gb : Nat) (w : World) (hv : validA f.a f.b f.c f.d = true) (hv1 : validB g.1 g.2 = false) :
    Calls Tryz.prog 28 #[.pointer (some ⟨gb, 0, none⟩), .agg #[.int .i64 g.1, .int .i64 g.2], arT f] w fun e w' => e = .returned (.tuple #[.pointer none, .int .i64 20]) ∧ Xt w w' := by
 obtain ⟨B, hB⟩ : ∃ B, w.heap.size = B := ⟨_, rfl⟩
 obtain ⟨wx0, hwx0⟩ : ∃ W, w.alloc (.cells #[.int .i64 g.1, .int .i64 g.2] 24) = W := ⟨_, rfl⟩
 have hswx0 : wx0.heap.size = B + 1 := by rw [← hwx0]; simp [hB]
 obtain ⟨wx1, hwx1⟩ : ∃ W, wx0.alloc (.cells #[.int .i64 f.a, .int .i64 f.b, .int .i64 f.c, .int .i64 f.d] 26) = W := ⟨_, rfl⟩
 have hswx1 : wx1.heap.size = B + 1 + 1 := by rw [← hwx1]; simp [hswx0]
 obtain ⟨wx2, hwx2⟩ : ∃ W, wx1.alloc (.cells #[.pointer none] 29) = W := ⟨_, rfl⟩
 have hswx2 : wx2.heap.size = B + 1 + 1 + 1 := by rw [← hwx2]; simp [hswx1]
 obtain ⟨w0, hw0⟩ : ∃ W, wx2.alloc (.cells #[.int .i64 0] 35) = W := ⟨_, rfl⟩
 have hsw0 : w0.heap.size = B + 1 + 1 + 1 + 1 := by rw [← hw0]; simp [hswx2]
 have HX0 : Hid (Xt w w0) := by unfold Hid; rw [← hw0, ← hwx2, ← hwx1, ← hwx0]; exact ((((Xt.refl _).alloc _).alloc _).alloc _).alloc _
 have HR0 : Hid (w0.heap[B]? = some (.cells #[.int .i64 g.1, .int .i64 g.2] 24 (0, 0))) := rowX (w := wx0) (by rw [← hw0, ← hwx2, ← hwx1]; exact (((Xt.refl _).alloc _).alloc _).alloc _) (by rw [← hwx0, ← hB]; exact (MapKept.heap_alloc w _).1)
 have HR1 : Hid (w0.heap[B + 1]? = some (.cells #[.int .i64 f.a, .int .i64 f.b, .int .i64 f.c, .int .i64 f.d] 26 (0, 0))) := rowX (w := wx1) (by rw [← hw0, ← hwx2]; exact ((Xt.refl _).alloc _).alloc _) (by rw [← hwx1, ← hswx0]; exact (MapKept.heap_alloc wx0 _).1)
 have HR2 : Hid (w0.heap[B + 1 + 1]? = some (.cells #[.pointer none] 29 (0, 0))) := rowX (w := wx2) (by rw [← hw0]; exact (Xt.refl _).alloc _) (by rw [← hwx2, ← hswx1]; exact (MapKept.heap_alloc wx1 _).1)
 have HR3 : Hid (w0.heap[B + 1 + 1 + 1]? = some (.cells #[.int .i64 0] 35 (0, 0))) := by unfold Hid; rw [← hw0, ← hswx2]; exact (MapKept.heap_alloc wx2 _).1
 have HVA := Lib.hid (fun V => validArea_any f.a f.b f.c f.d V)
 rw [hv] at HVA
 have HVB := Lib.hid (fun V => valid_any g.1 g.2 V)
 rw [hv1] at HVB
 obtain ⟨b0, b1, _, _⟩ := cells2 (HR0.out)
 obtain ⟨⟨a0, a1, a2, a3⟩, _⟩ := cells4 (HR1.out)
 obtain ⟨p0, p1⟩ := one_row (HR2.out)
 obtain ⟨r0, r1⟩ := one_row (HR3.out)
 clear hv hv1
 go_enter Tryz.func28, Tryz.ntmps28
 go_wp2_with (first
  | (go_at_call 40; refine (HVA.out _).mono ?_; rintro e w1 ⟨rfl, hg1⟩; have HXC : Hid (Xt w0 w1) := hg1.xt; obtain ⟨b0, b1, _, _⟩ := cells2 (rowX HXC.out HR0.out); obtain ⟨⟨a0, a1, a2, a3⟩, _⟩ := cells4 (rowX HXC.out HR1.out); obtain ⟨p0, p1⟩ := one_row (rowX HXC.out HR2.out); obtain ⟨r0, r1⟩ := one_row (rowX HXC.out HR3.out); clear hg1)
  | (go_at_call 63; refine (HVB.out _).mono ?_; rintro e w2 ⟨rfl, hg2⟩; have hx2 : Xt w1 w2 := (by rw [hg2]; exact (Xt.refl _).alloc _); replace HXC := Lib.hid (HXC.out.trans hx2); obtain ⟨b0, b1, _, _⟩ := cells2 (rowX HXC.out HR0.out); obtain ⟨⟨a0, a1, a2, a3⟩, _⟩ := cells4 (rowX HXC.out HR1.out); obtain ⟨p0, p1⟩ := one_row (rowX HXC.out HR2.out); obtain ⟨r0, r1⟩ := one_row (rowX HXC.out HR3.out); clear hg2 hx2))
 obtain ⟨k1, k2⟩ := two_end (u := .pointer none) (v := .int .i64 20) p0 r0 (by omega)
 have hx : Xt w ((w2.setCell ⟨B + 1 + 1, 0, none⟩ (.pointer none)).setCell ⟨B + 1 + 1 + 1, 0, none⟩ (.int .i64 20)) := ((HX0.out.trans HXC.out).grownB (setCell_grown _ _ _ _) (fun q hq => by cases hq; omega)).grownB (setCell_grown _ _ _ _) (fun q hq => by cases hq; omega)
 (try simp only [Exit.inBlock, Exit.then])
 refine bodyPost_ret (results_two rfl _ _ (B + 1 + 1) (B + 1 + 1 + 1) (.pointer none) (.int .i64 20) rfl rfl (load_pgrid _ _ _ k1) (load_err _ _ _ k2)) rfl ?_
 exact ⟨rfl, hx⟩
end Go.Proofs.YtdoeejhdenifpaaGreatDoor
/- move, plain: two whole columns cannot be filled; what is refused. -/
namespace Go.Proofs.YtdoeejhdenifpaaGreatDoor
open Go.RowKit Go.Sort
theorem nodup_len {α : Type} [DecidableEq α] : ∀ {l m : List α}, l.Nodup → (∀ x ∈ l, x ∈ m) → l.length ≤ m.length
 | [], _, _, _ => Nat.zero_le _
 | x :: l, m, hn, hs => by
  have h1 := List.nodup_cons.1 hn
  have hx := hs x List.mem_cons_self
  have h2 := nodup_len (l := l) (m := m.erase x) h1.2 (fun y hy => (List.mem_erase_of_ne (a := y) (b := x) (fun e => h1.1 (by rw [← e]; exact hy))).2 (hs y (List.mem_cons_of_mem _ hy)))
  have h3 := List.length_erase_of_mem hx
  have h4 : 0 < m.length := List.length_pos_of_mem hx
  rw [List.length_cons]
  omega
theorem flAll_get {fr : Ad} {c : ContT} {P : PG} (hc : gvalidB c = true ∧ (c.kind == 0) = false ∧ c.ok) : ∀ {l : List Ad} {A : PG}, (∀ y ∈ l, validB y.1 y.2 = true) → GOk P → flAll fr c P l = some A → GOk A ∧ ∀ y ∈ l, y ∈ A.map (·.1) := by
 intro l
 refine snoc_ind (P := fun l => ∀ {A : PG}, (∀ y ∈ l, validB y.1 y.2 = true) → GOk P → flAll fr c P l = some A → GOk A ∧ ∀ y ∈ l, y ∈ A.map (·.1)) ?_ ?_ l
 · intro A _ hP h
   have e : P = A := Option.some.inj h
   subst e
   exact ⟨hP, fun x hx => (by cases hx)⟩
 · intro l y ih A hm hP h
   rw [flAll_snoc] at h
   obtain ⟨Q, hQ, hc0, rfl⟩ := cpStep_some h
   obtain ⟨q1, q2⟩ := ih (fun y hy => hm y (List.mem_append_left _ hy)) hP hQ
   have v4 := hm y (by simp)
   obtain ⟨c1, c2⟩ := code_sh (P := Q) (wrap64 (y.1 - fr.1)) (wrap64 (y.2 - fr.2)) v4 hc.1 hc.2.1
   have hf : fullP Q y = false := by
    cases hf : fullP Q y with
    | false => rfl
    | true => rw [c1, hf] at hc0; simp at hc0
   refine ⟨q1.put _ (shC_ok _ _ (okC_copy hc.2.2)), fun z hz => ?_⟩
   rw [c2 hf, ← lkM_mem_iff, lkM_set]
   rcases List.mem_append.1 hz with hz | hz
   · split
     · rfl
     · exact lkM_mem_iff.2 (q2 z hz)
   · rw [List.mem_singleton.1 hz, if_pos rfl]; rfl
def wideA : ArT := ⟨3, 1, 4, 4096⟩
theorem wide_in {x y : Int} (h : 3 ≤ x ∧ x ≤ 4 ∧ 1 ≤ y ∧ y ≤ 4096) : inA wideA (x, y) = true :=
 inA_of (f := wideA) (vA_o2 (by unfold wideA; simp only; omega)) (by unfold wideA; simp only; omega)
theorem wide_tail : ∀ (k : Nat) (y : Int), 1 ≤ y → y + k = 4096 → ∀ z : Int, y ≤ z → z ≤ 4096 → (3, z) ∈ restL wideA (leftN wideA (3, y)) 3 y ∧ (4, z) ∈ restL wideA (leftN wideA (3, y)) 3 y
 | 0, y, h1, h2, z, h3, h4 => by
  obtain rfl : y = 4096 := by omega
  obtain rfl : z = 4096 := by omega
  have e1 := rest_one (f := wideA) (x := 3) (y := 4096) (wide_in (by omega)) (by decide)
  have e2 := rest_end wideA
  rw [e1, show (3 : Int) + 1 = 4 from rfl]
  have e3 : restL wideA (leftN wideA (4, 4096)) 4 4096 = [(4, 4096)] := e2
  rw [e3]
  simp
 | k + 1, y, h1, h2, z, h3, h4 => by
  have e1 := rest_one (f := wideA) (x := 3) (y := y) (wide_in (by omega)) (by decide)
  have e2 := rest_row (f := wideA) (y := y) (wide_in (x := 4) (by omega)) (by show y < 4096; omega)
  have e3 : restL wideA (leftN wideA (4, y)) 4 y = (4, y) :: restL wideA (leftN wideA (3, y + 1)) 3 (y + 1) := e2
  rw [e1, show (3 : Int) + 1 = 4 from rfl, e3]
  by_cases hz : z = y
  · subst hz; simp
  · obtain ⟨i1, i2⟩ := wide_tail k (y + 1) (by omega) (by omega) z (by omega) h4
    exact ⟨List.mem_cons_of_mem _ (List.mem_cons_of_mem _ i1), List.mem_cons_of_mem _ (List.mem_cons_of_mem _ i2)⟩
theorem wide_mem {z : Int} (h : 1 ≤ z ∧ z ≤ 4096) : (3, z) ∈ cellsL wideA ∧ (4, z) ∈ cellsL wideA := wide_tail 4095 1 (by omega) (by omega) z h.1 h.2
theorem wide_valid : ∀ (n : Nat) (x y : Int), 3 ≤ x → x ≤ 4 → 1 ≤ y → y ≤ 4096 → ∀ a ∈ restL wideA n x y, validB a.1 a.2 = true
 | 0, _, _, _, _, _, _ => by intro a ha; cases ha
 | n + 1, x, y, h1, h2, h3, h4 => by
  intro a ha
  rw [restL] at ha
  rcases List.mem_cons.1 ha with rfl | ha
  · exact validB_o2 (by simp only; omega)
  · split at ha
    · cases ha
    · rename_i hne
      have hne' : ¬ (x = 4 ∧ y = 4096) := hne
      split at ha
      · rename_i hx
        have hx' : x < 4 := hx
        exact wide_valid n (x + 1) y (by omega) (by omega) h3 h4 a ha
      · rename_i hx
        have hx' : ¬ x < 4 := hx
        exact wide_valid n 3 (y + 1) (by omega) (by omega) (by omega) (by omega) a ha
theorem fill_wide {fr : Ad} {c : ContT} {P : PG} (hc : gvalidB c = true ∧ (c.kind == 0) = false ∧ c.ok) (hP : GOk P) : flAll fr c P (cellsL wideA) = none := by
 cases h : flAll fr c P (cellsL wideA) with
 | none => rfl
 | some A =>
  exfalso
  obtain ⟨h1, h2⟩ := flAll_get hc (wide_valid _ 3 1 (by omega) (by omega) (by omega) (by omega)) hP h
  have hn : ((List.range 4096).map (fun i : Nat => ((3 : Int), (i : Int) + 1)) ++ [((4 : Int), (1 : Int))]).Nodup := by
   refine List.nodup_append.2 ⟨?_, by simp, ?_⟩
   · unfold List.Nodup
     rw [List.pairwise_map]
     exact List.nodup_range.imp fun hne e => hne (by have := congrArg Prod.snd e; simp only at this; omega)
   · intro a ha b hb e
     obtain ⟨i, _, rfl⟩ := List.mem_map.1 ha
     rw [List.mem_singleton.1 hb] at e
     have := congrArg Prod.fst e
     simp at this
  have hl := nodup_len (m := A.map (·.1)) hn (fun a ha => by
   rcases List.mem_append.1 ha with ha | ha
   · obtain ⟨i, hi, rfl⟩ := List.mem_map.1 ha
     have := List.mem_range.1 hi
     exact h2 _ (wide_mem (by omega)).1
   · rw [List.mem_singleton.1 ha]
     exact h2 _ (wide_mem (by omega)).2)
  have hm := h1.many
  simp at hl
  omega
theorem fill_full {P : PG} {c : ContT} (hP : GOk P) (hc : gvalidB c = true ∧ (c.kind == 0) = false ∧ c.ok) (h0 : codeP P (1, 1) c = 0) : fillP (1, 1) ⟨3, 1, 4, 4096⟩ (putP P (1, 1) c) = none := by
 have hf : fullP P (1, 1) = false := by
  cases hf : fullP P (1, 1) with
  | false => rfl
  | true =>
   unfold codeP at h0
   rw [hc.1, hc.2.1, hf, show validB (1, 1).1 (1, 1).2 = true from rfl] at h0
   simp at h0
 have e : putP P (1, 1) c = setM (1, 1) (copyC c) P := by
  unfold putP
  rw [hc.1, hc.2.1, hf, show validB (1, 1).1 (1, 1).2 = true from rfl]
  simp
 have hl : lkM (1, 1) (putP P (1, 1) c) = some (copyC c) := by rw [e, lkM_set, if_pos rfl]
 have hk : ¬ (copyC c).kind = 0 := by
  have h2 := hc.2.1
  show ¬ c.kind = 0
  simpa using h2
 unfold fillP
 rw [hl]
 simp only [Option.getD_some]
 rw [if_neg hk]
 refine fill_wide ?_ ((hP.put (1, 1) hc.2.2).clear _)
 have hm := (hP.put (1, 1) hc.2.2).each _ (lkM_mem hl)
 exact ⟨hm.2.1, hm.2.2.1, hm.2.2.2.2⟩
end Go.Proofs.YtdoeejhdenifpaaGreatDoor
