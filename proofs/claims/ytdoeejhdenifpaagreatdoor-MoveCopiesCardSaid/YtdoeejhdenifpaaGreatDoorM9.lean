/- move: a grid whose lines are put in or taken out (made by mkm9.py). -/
import Derived.Test.YtdoeejhdenifpaaGreatDoorZ1
import Derived.Test.YtdoeejhdenifpaaGreatDoorM5
import Derived.Test.YtdoeejhdenifpaaGreatDoorA10
import Derived.Test.YtdoeejhdenifpaaGreatDoorA12
import Derived.Test.YtdoeejhdenifpaaGreatDoorA8
import Derived.Test.YtdoeejhdenifpaaGreatDoorA11
import Derived.RangeFuncWrites
import Derived.StillTailTactics
import Derived.Deep.CutBlock
namespace Go.Proofs.YtdoeejhdenifpaaGreatDoor
open Go.RowKit Go.Sort Go.Maps Go.Shelf Go.MapKept
attribute [local go_sem] Oper.semAt_some
theorem results_two {fn : Func} {p q : Tmp} {t1 t2 : TypeId} (h : fn.results = #[.cell p t1, .cell q t2]) (tmps : Array Value) (w : World) (b1 b2 : Nat) (u v : Value) (hp : tmps.getD p undef = .pointer (some ⟨b1, 0, none⟩)) (hq : tmps.getD q undef = .pointer (some ⟨b2, 0, none⟩))
    (l1 : (loadVar t1 ⟨b1, 0, none⟩).run Tryz.prog w = .ok u w) (l2 : (loadVar t2 ⟨b2, 0, none⟩).run Tryz.prog w = .ok v w) : (results fn tmps).run Tryz.prog w = .ok (.tuple #[u, v]) w := by
 have hp' : tmps[p]?.getD undef = .pointer (some ⟨b1, 0, none⟩) := by simpa using hp
 have hq' : tmps[q]?.getD undef = .pointer (some ⟨b2, 0, none⟩) := by simpa using hq
 simp [results, h, hp', hq', asAddr, l1, l2, Sem.run_bind]
theorem load_pgrid (w : World) (b : Nat) (u : Value) (h : w.cell? ⟨b, 0, none⟩ = some u) : (loadVar 29 ⟨b, 0, none⟩).run Tryz.prog w = .ok u w := by go_simp
theorem load_err (w : World) (b : Nat) (u : Value) (h : w.cell? ⟨b, 0, none⟩ = some u) : (loadVar 35 ⟨b, 0, none⟩).run Tryz.prog w = .ok u w := by go_simp
def manyL (cols : Bool) : Int := if cols then 256 else 4096
theorem lmade_any (cols : Bool) (a n : Int) (w : World) :
    Calls Tryz.prog 114 #[.bool cols, .int .i64 a, .int .i64 n] w fun e w' => e = .returned (.tuple #[linV (madeL (manyL cols) a n).1, .bool (madeL (manyL cols) a n).2]) ∧ Xt w w' := by
 cases cols
 · exact madeL_false a n w
 · exact madeL_true a n w
theorem one_row {w : World} {b : Nat} {u : Value} {T : TypeId} (h : w.heap[b]? = some (.cells #[u] T (0, 0))) : w.cell? ⟨b, 0, none⟩ = some u ∧ w.frozen? ⟨b, 0, none⟩ = false := by simp [World.cell?, World.frozen?, h]
def BrR (cols : Bool) (a n : Int) (M : GM) (w : World) (e : Ending) (w' : World) : Prop :=
 Xt w w' ∧ ((madeL (manyL cols) a n).2 = false ∧ e = .returned (.tuple #[.pointer none, .int .i64 1]) ∨
  (madeL (manyL cols) a n).2 = true ∧ (goStop (cellF cols ⟨a, n, manyL cols⟩) n (er M) = true ∧ e = .returned (.tuple #[.pointer none, .int .i64 20]) ∨
   goStop (cellF cols ⟨a, n, manyL cols⟩) n (er M) = false ∧ ∃ go mo Mo, e = .returned (.tuple #[.pointer (some ⟨go, 0, none⟩), .int .i64 0]) ∧ GridIs w' go mo Mo ∧ er Mo = goAll (cellF cols ⟨a, n, manyL cols⟩) (areaF cols ⟨a, n, manyL cols⟩) (er M) ∧ w.heap.size ≤ mo ∧ w.heap.size ≤ go))
theorem LinAt.kept {w w' : World} {pc pl m : Nat} {cols : Bool} {l : LinT} (h : LinAt w pc pl cols l) (hk : ∀ b, b < m → w'.heap[b]? = w.heap[b]?) (hm : pc < m ∧ pl < m) : LinAt w' pc pl cols l :=
 ⟨(World.cell?_of_block (w := w) (a := ⟨pc, 0, none⟩) (hk _ hm.1)).trans h.c, (World.cell?_of_block (w := w) (a := ⟨pl, 0, none⟩) (hk _ hm.2)).trans h.c0, (World.cell?_of_block (w := w) (a := ⟨pl, 1, none⟩) (hk _ hm.2)).trans h.c1, (World.cell?_of_block (w := w) (a := ⟨pl, 2, none⟩) (hk _ hm.2)).trans h.c2⟩
def tpT (x : TE) : Ad × ContT := (x.1, x.2.1)
theorem lines_road {m : Nat} (cols : Bool) (l : LinT) (pc pl : Nat) (h : pc < m ∧ pl < m) : RoadIs (fun W => LinAt W pc pl cols l ∧ m ≤ W.heap.size) m 146 148 #[.pointer (some ⟨pc, 0, none⟩), .pointer (some ⟨pl, 0, none⟩)] #[.pointer (some ⟨pc, 0, none⟩), .pointer (some ⟨pl, 0, none⟩)] (cellF cols l) (areaF cols l) ArT.ok :=
 ⟨fun w w' hE hs hk => ⟨hE.1.kept hk h, by have := hE.2; omega⟩, fun w hE => hE.2, enters_of Tryz.func146 (by kernel_rfl) rfl, enters_of Tryz.func148 (by kernel_rfl) rfl, fun a w hE => road1_any cols l a pc pl w hE.1, fun x w ho hE => road2_any cols l x ho pc pl w hE.1⟩
theorem one_cell {w : World} {b o : Nat} {u v : Value} {T : TypeId} (h : w.heap[b]? = some (.cells #[u] T (0, 0))) (hv : w.cell? ⟨b, o, none⟩ = some v) : o = 0 := by
 have h2 : (#[u] : Array Value)[o]? = some v := by simpa [World.cell?, h] using hv
 have := (Array.getElem?_eq_some_iff.1 h2).1
 simp at this; omega
theorem ArgsIn.far {w w' : World} {P : Nat → Prop} (hk : ∀ b, ¬ P b → w'.heap[b]? = w.heap[b]?) (hP : ∀ b, P b → ∀ o u, w.cell? ⟨b, o, none⟩ = some u → o = 0) : ∀ {n : Nat} {av : Value} {l : List NodeT}, ArgsIn w n av l → ArgsIn w' n av l
 | 0, _, _, h => h
 | n + 1, _, _, h => by
  obtain ⟨a, cap, rfl, h1, h2, h3⟩ := h
  refine ⟨a, cap, rfl, h1, h2, fun hne => ?_⟩
  obtain ⟨b, off, rfl, hc⟩ := h3 hne
  refine ⟨b, off, rfl, fun k t ht => ?_⟩
  obtain ⟨av', hcell, hin⟩ := hc k t ht
  have hb : ¬ P b := fun e => by
   have e1 := hP b e _ _ (hcell 1 _ rfl)
   omega
  exact ⟨av', fun i u hu => (World.cell?_of_block (w := w) (a := ⟨b, off + k * 15 + i, none⟩) (hk b hb)).trans (hcell i u hu), hin.far hk hP⟩
theorem GridIs.far {w w' : World} {P : Nat → Prop} {gb mb : Nat} {M : GM} (h : GridIs w gb mb M) (hk : ∀ b, ¬ P b → w'.heap[b]? = w.heap[b]?) (hP : ∀ b, P b → ∀ o u, w.cell? ⟨b, o, none⟩ = some u → o = 0) (hg : ¬ P gb) (hm : ¬ P mb) : GridIs w' gb mb M :=
 ⟨(World.cell?_of_block (w := w) (a := ⟨gb, 0, none⟩) (hk _ hg)).trans h.cell, let ⟨E, q1, q2⟩ := h.map; ⟨E, q1.of_heap (hk _ hm), q2⟩, h.sorted, fun x hx => ⟨(h.args x hx).1, let ⟨n, hn⟩ := (h.args x hx).2; ⟨n, hn.far hk hP⟩⟩, h.many⟩
theorem told_all {M : GM} {xs : List TE} (h : toldS M (fun _ => true) xs) : xs.map tpT = er M := by
 unfold toldS at h
 rw [List.filter_eq_self.2 (fun _ _ => rfl)] at h
 exact h
theorem goStop_pre {cG : Ad → Ad × Bool} {n : Int} {M : GM} {i : Nat} {pre : List TE} (h : toldS (M.take i) (fun _ => true) pre) (hg : goStop cG n (pre.map tpT) = true) : goStop cG n (er M) = true := by
 rw [told_all h] at hg
 unfold goStop at *
 rw [List.any_eq_true] at *
 obtain ⟨x, hx, h2⟩ := hg
 refine ⟨x, ?_, h2⟩
 unfold er at *
 rw [List.map_take] at hx
 exact List.mem_of_mem_take hx
structure BI (W0 : World) (go mo : Nat) (cG : Ad → Ad × Bool) (aG : ArT → ArT × Bool) (n : Int) (pre : List TE) (W : World) : Prop where
 grown : W0.grownBy W (some mo)
 out : ∃ Mo, GridIs W go mo Mo ∧ er Mo = goAll cG aG (pre.map tpT)
 go : goStop cG n (pre.map tpT) = false
theorem grownBy_far {a b c : World} {m : Nat} {row : Option Nat} (h : a.grownBy b (some m)) (k : b.grownBy c row) (hr : ∀ r, row = some r → a.heap.size ≤ r) : a.grownBy c (some m) :=
 ⟨k.os.trans h.os, k.tape.trans h.tape, k.output.trans h.output, Nat.le_trans h.size k.size, fun i hi hn => (k.block i (Nat.lt_of_lt_of_le hi h.size) (fun e => by have := hr i e.symm; omega)).trans (h.block i hi hn)⟩
theorem grownBy_two {a b c : World} {m : Nat} (h : a.grownBy b (some m)) (k : b.grownBy c (some m)) : a.grownBy c (some m) :=
 ⟨k.os.trans h.os, k.tape.trans h.tape, k.output.trans h.output, Nat.le_trans h.size k.size, fun i hi hn => (k.block i (Nat.lt_of_lt_of_le hi h.size) hn).trans (h.block i hi hn)⟩
theorem BI.own {W0 : World} {go mo : Nat} {cG : Ad → Ad × Bool} {aG : ArT → ArT × Bool} {n : Int} (hm : mo < W0.heap.size) : OwnFrom W0.heap.size (fun pre W => BI W0 go mo cG aG n pre W) := fun s X Y row hs hg hr => by
 obtain ⟨h1, ⟨Mo, h2, h3⟩, h4⟩ := hs
 exact ⟨grownBy_far h1 hg (fun r e => (hr r e).1), ⟨Mo, h2.kept (cellsIn_walk hg (fun r e => (hr r e).2)) (hg.block mo (by have := h1.size; omega) (fun e => by have := (hr mo e.symm).1; omega)), h3⟩, h4⟩
theorem BI.start {W0 : World} {go mo : Nat} {cG : Ad → Ad × Bool} {aG : ArT → ArT × Bool} {n : Int} (h : GridIs W0 go mo []) : BI W0 go mo cG aG n [] W0 := ⟨⟨rfl, rfl, rfl, Nat.le_refl _, fun _ _ _ => rfl⟩, ⟨[], h, rfl⟩, rfl⟩
theorem BI.xt {W0 W W' : World} {go mo : Nat} {cG : Ad → Ad × Bool} {aG : ArT → ArT × Bool} {n : Int} {pre : List TE} (h : BI W0 go mo cG aG n pre W) (hx : Xt W W') : BI W0 go mo cG aG n pre W' :=
 ⟨grownBy_far h.grown hx.grownN (fun r e => by cases e), let ⟨Mo, h2, h3⟩ := h.out; ⟨Mo, h2.xt hx, h3⟩, h.go⟩
set_option maxRecDepth 100000 in
set_option maxHeartbeats 4000000 in
theorem brought_any (cols : Bool) (at_ n : Int) (gb mb : Nat) (M : GM) (w : World) (hG : GridIs w gb mb M) (hT : Tabs w) (hO : GOk (er M)) :
    Calls Tryz.prog 73 #[.pointer (some ⟨gb, 0, none⟩), .bool cols, .int .i64 at_, .int .i64 n] w (BrR cols at_ n M w) := by
 have HG := Lib.hid hG
 have HT := Lib.hid hT
 have HO := Lib.hid hO
 obtain ⟨B, hB⟩ : ∃ B, w.heap.size = B := ⟨_, rfl⟩
 have HBw := Lib.hid hB
 obtain ⟨ok, hok⟩ : ∃ ok, (madeL (manyL cols) at_ n).2 = ok := ⟨_, rfl⟩
 have HM := Lib.hid (lmade_any cols at_ n)
 simp only [hok] at HM
 have HL : Hid ((madeL (manyL cols) at_ n).1 = ⟨at_, n, manyL cols⟩) := rfl
 rw [HL.out] at HM
 have HOK := Lib.hid hok
 obtain ⟨N, hN⟩ : ∃ N, manyL cols = N := ⟨_, rfl⟩
 rw [hN] at HM
 have HN := Lib.hid hN
 obtain ⟨wa, hwa⟩ : ∃ wa, w.alloc (.cells #[.int .i64 n] 3) = wa := ⟨_, rfl⟩
 have hsa : wa.heap.size = B + 1 := by rw [← hwa, ← hB]; simp
 obtain ⟨wb, hwb⟩ : ∃ wb, wa.alloc (.cells #[.pointer none] 29) = wb := ⟨_, rfl⟩
 have hsb : wb.heap.size = B + 1 + 1 := by rw [← hwb]; simp [hsa]
 obtain ⟨w0, hw0⟩ : ∃ w0, wb.alloc (.cells #[.int .i64 0] 35) = w0 := ⟨_, rfl⟩
 have hs0 : w0.heap.size = B + 1 + 1 + 1 := by rw [← hw0]; simp [hsb]
 have hx0 : Xt w w0 := by rw [← hw0, ← hwb, ← hwa]; exact (((Xt.refl _).alloc _).alloc _).alloc _
 have hr0 : w0.heap[B]? = some (.cells #[.int .i64 n] 3 (0, 0)) := rowX (w := wa) (by rw [← hw0, ← hwb]; exact ((Xt.refl _).alloc _).alloc _) (by rw [← hwa, ← hB]; exact (MapKept.heap_alloc w _).1)
 have hr1 : w0.heap[B + 1]? = some (.cells #[.pointer none] 29 (0, 0)) := rowX (w := wb) (by rw [← hw0]; exact (Xt.refl _).alloc _) (by rw [← hwb, ← hsa]; exact (MapKept.heap_alloc wa _).1)
 have hr2 : w0.heap[B + 1 + 1]? = some (.cells #[.int .i64 0] 35 (0, 0)) := by rw [← hw0, ← hsb]; exact (MapKept.heap_alloc wb _).1
 have hc0 : w0.cell? ⟨B, 0, none⟩ = some (.int .i64 n) := by simp [World.cell?, hr0]
 have HX0 := Lib.hid hx0
 have HR0 := Lib.hid hr0
 have HR1 := Lib.hid hr1
 have HR2 := Lib.hid hr2
 clear hG hT hO hok hN HL hr0 hr1 hr2 hx0
 refine (callsIn_wide (n := 25)).1 ?_
 refine callsIn_of_wp_marks Tryz.func73 rfl trivial ?_ rfl
 simp only [Tryz.ntmps73, List.size_toArray, List.length_cons, List.length_nil, Nat.reduceAdd, Nat.reduceSub, Array.replicate_succ, Array.replicate_zero, List.push_toArray, List.append_toArray, List.nil_append, List.cons_append]
 refine wpIn_wide.2 ?_
 refine wp_mono (Q := noPanic (bodyPostM Fence.wide 25 Tryz.prog Tryz.f73 (BrR cols at_ n M w))) ?_ noPanic_le
 cases ok
 · go_wp2_with (first
    | (go_at_call 114; refine (HM.out _).mono ?_; rintro e w1 ⟨rfl, hx1⟩; obtain ⟨wA, hwA⟩ : ∃ wA, w1.alloc (.cells #[.int .i64 at_, .int .i64 n, .int .i64 N] 147) = wA := ⟨_, rfl⟩; have HXA : Hid (Xt w0 wA) := (by unfold Hid; rw [← hwA]; exact hx1.alloc _); obtain ⟨c1, f1⟩ := one_row (rowX HXA.out HR1.out); obtain ⟨c2, f2⟩ := one_row (rowX HXA.out HR2.out); clear hx1))
   obtain ⟨W', hW'⟩ : ∃ W', (wA.setCell ⟨B + 1, 0, none⟩ (.pointer none)).setCell ⟨B + 1 + 1, 0, none⟩ (.int .i64 1) = W' := ⟨_, rfl⟩
   have k1 : W'.cell? ⟨B + 1, 0, none⟩ = some (.pointer none) := by rw [← hW', World.cell?_setCell_other _ _ _ _ (by simp)]; exact World.cell?_setCell_same _ _ _ c1
   have k2 : W'.cell? ⟨B + 1 + 1, 0, none⟩ = some (.int .i64 1) := by rw [← hW']; exact World.cell?_setCell_same _ _ _ ((World.cell?_setCell_other _ _ _ _ (by simp)).trans c2)
   have hxW : Xt w W' := by rw [← hW']; exact ((HX0.out.trans HXA.out).grownB (setCell_grown _ _ _ _) (fun q hq => by cases hq; rw [hB]; omega)).grownB (setCell_grown _ _ _ _) (fun q hq => by cases hq; rw [hB]; omega)
   rw [hW']
   exact ⟨_, results_two rfl _ _ (B + 1) (B + 1 + 1) (.pointer none) (.int .i64 1) rfl rfl (load_pgrid _ _ _ k1) (load_err _ _ _ k2), hxW, Or.inl ⟨HOK.out, rfl⟩⟩
 · go_wp2_with (first
    | (go_at_call 114; refine (HM.out _).mono ?_; rintro e w1 ⟨rfl, hx1⟩)
    | (go_at_call 115; refine (road_any cols ⟨at_, n, N⟩ _).mono ?_; rintro e w2 ⟨pc, pl, rfl, hLA, hx2⟩)
    | (go_at_call 35; refine (gnew_any _).mono ?_; rintro e w3 ⟨rfl, hGo, hg3⟩)
    | (go_at_call 37; refine ((callsIn_wide (n := 20)).1 (all_in 20 (by omega) _ _)).mono ?_; rintro e w' ⟨rfl, rfl⟩))
   simp only [World.size_alloc] at hGo
   have hx02 : Xt w0 w2 := (hx1.alloc _).trans hx2
   have hx23 : Xt w2 w3 := ((Xt.refl w2).alloc _).trans hg3.xt
   have hRR := rowX hg3.xt (MapKept.heap_alloc w2 _).1
   obtain ⟨R, hR⟩ : ∃ R, w2.heap.size = R := ⟨_, rfl⟩
   obtain ⟨G, hGs⟩ : ∃ G, w3.heap.size = G := ⟨_, rfl⟩
   obtain ⟨W0, hW0⟩ : ∃ W0, ((w3.alloc (.cells #[.pointer (some ⟨R + 1 + 1, 0, none⟩)] 29)).alloc (.cells #[.pointer (some ⟨gb, 0, none⟩)] 29)).alloc (.cells #[.func (.func 75) #[] #[]] 99) = W0 := ⟨_, rfl⟩
   simp only [hR, hGs, hW0] at hGo hRR ⊢
   have hx3W : Xt w3 W0 := by rw [← hW0]; exact (((Xt.refl w3).alloc _).alloc _).alloc _
   have hsW : W0.heap.size = G + 3 := by rw [← hW0]; simp [hGs]
   have rG : W0.heap[G]? = some (.cells #[.pointer (some ⟨R + 1 + 1, 0, none⟩)] 29 (0, 0)) := by
    rw [← hW0, ← hGs]
    exact rowX (((Xt.refl _).alloc _).alloc _) (MapKept.heap_alloc w3 _).1
   have rBg : W0.heap[G + 1]? = some (.cells #[.pointer (some ⟨gb, 0, none⟩)] 29 (0, 0)) := by
    rw [← hW0, ← hGs]
    have := rowX ((Xt.refl _).alloc (.cells #[.func (.func 75) #[] #[]] 99)) (MapKept.heap_alloc (w3.alloc (.cells #[.pointer (some ⟨R + 1 + 1, 0, none⟩)] 29)) (.cells #[.pointer (some ⟨gb, 0, none⟩)] 29)).1
    simpa using this
   have rBw : W0.heap[G + 2]? = some (.cells #[.func (.func 75) #[] #[]] 99 (0, 0)) := by
    rw [← hW0, ← hGs]
    have := (MapKept.heap_alloc ((w3.alloc (.cells #[.pointer (some ⟨R + 1 + 1, 0, none⟩)] 29)).alloc (.cells #[.pointer (some ⟨gb, 0, none⟩)] 29)) (.cells #[.func (.func 75) #[] #[]] 99)).1
    simpa using this
   have hx2W : Xt w2 W0 := hx23.trans hx3W
   have hx0W : Xt w0 W0 := hx02.trans hx2W
   have HX0W := Lib.hid hx0W
   have HXW : Hid (Xt w W0) := HX0.out.trans hx0W
   have HLAW : Hid (LinAt W0 pc pl cols ⟨at_, n, N⟩) := hLA.xt hx2W
   have HGoW : Hid (GridIs W0 (R + 1 + 1) (R + 1) []) := hGo.xt hx3W
   have HRRW := Lib.hid (rowX hx3W hRR)
   have HRG := Lib.hid rG
   have hRlt := hGo.lt.1
   have hBR : B + 1 + 1 < R := by have := hx02.size; omega
   have hwR : w.heap.size ≤ R := by have := HX0.out.size; have := hx02.size; omega
   have hplt : pc < R ∧ pl < R := ⟨by rw [← hR]; exact World.block_lt_of_cell? w2 _ hLA.c, by rw [← hR]; exact World.block_lt_of_cell? w2 _ hLA.c0⟩
   have hGR : R + 1 + 1 < G := by omega
   obtain ⟨cG, hcG⟩ : ∃ cG, cellF cols ⟨at_, n, N⟩ = cG := ⟨_, rfl⟩
   obtain ⟨aG, haG⟩ : ∃ aG, areaF cols ⟨at_, n, N⟩ = aG := ⟨_, rfl⟩
   have HCG := Lib.hid hcG
   have HAG := Lib.hid haG
   have HcgW : W0.cell? ⟨G + 1, 0, none⟩ = some (.pointer (some ⟨gb, 0, none⟩)) := by simp [World.cell?, rBg]
   clear hW0 hcG haG rG rBg hx0W hx2W hx3W hRR hx23 hx02 hGo hLA hx1 hx2 hg3 hwa hwb hw0 hc0 hGs hR
   generalize hA0 : Act.mk _ _ = a0
   refine (wpIn_wide (n := 25)).1 ?_
   refine rangeFunc_told (n := 25) (by omega) (gf := 116) (lb := #[.pointer (some ⟨G + 1, 0, none⟩), .pointer (some ⟨G + 2, 0, none⟩)]) (by subst hA0; rfl) (enters_of Tryz.func116 (by kernel_rfl) rfl)
    (some1_told (fun x => x == 2 * (R + 1) + 1) 75 #[] (enters_of Tryz.func75 (by kernel_rfl) rfl) (fun _ => true) w.heap.size w rfl (fun _ => True) (fun _ _ _ _ _ => trivial) (fun a W _ => all1_any a W) (25 - 1) (by omega) (G + 1) (G + 2) gb mb M HG.out W0 HXW.out trivial (by omega) HcgW rBw (fun k hk => by simp; omega))
    (fun h k => ⟨h.1.trans k.1, h.2.trans k.2⟩) (fun W l o o' hl ho hc hw => ⟨belowK_b (w := W0) (by omega) W l o o' hl ho hc hw, KeepsT.of_grown (grownBy_putObj' W l o') (fun j o2 e h2 => by cases e; rw [ho] at h2; cases h2; cases o <;> simp_all [keptO, Obj.isCells, Obj.isWalk])⟩) (Below.refl _ _) (fun _ => rfl)
    (fun pre W => BI W0 (R + 1 + 1) (R + 1) cG aG n pre W)
    (fun c pre W => c = .ret ∧ Xt w W ∧ W.heap[B + 1]? = some (.cells #[.pointer none] 29 (0, 0)) ∧ W.heap[B + 1 + 1]? = some (.cells #[.int .i64 20] 35 (0, 0)) ∧ goStop cG n (pre.map tpT) = true)
    (BI.own (by omega))
    (fun c s X Y row hs hg hr => ⟨hs.1, hs.2.1.grownB hg (fun q hq => by have := (hr q hq).1; omega), rowCells_own hs.2.2.1 hg (fun r e => (hr r e).2), rowCells_own hs.2.2.2.1 hg (fun r e => (hr r e).2), hs.2.2.2.2⟩)
    (BI.start HGoW.out)
    (fun x a' W => ∃ (z : CE) (Bx By nT : Nat), z.1 = copyC x.2.1 ∧ z.2 = x.2.2 ∧ W.heap[Bx]? = some (.cells #[.int .i64 x.1.1, .int .i64 x.1.2] 24 (0, 0)) ∧ W.heap[By]? = some (.cells #[.int .i64 z.1.kind, .int .i64 z.1.v.kind, .float .f64 z.1.v.x, .string z.1.v.s, .bool z.1.v.b, .int .i64 z.1.v.f, .int .i64 z.1.t.kind, .int .i64 z.1.t.op, .float .f64 z.1.t.x, .string z.1.t.s, .bool z.1.t.b, .int .i64 z.1.t.f, .int .i64 z.1.t.ref.a.1, .int .i64 z.1.t.ref.a.2, .bool z.1.t.ref.cf, .bool z.1.t.ref.rf, .int .i64 z.1.t.to.a.1, .int .i64 z.1.t.to.a.2, .bool z.1.t.to.cf, .bool z.1.t.to.rf, .slice z.2 z.1.t.args.length z.1.t.args.length] 51 (0, 0)) ∧ smallT z.1.t ∧ ArgsIn W nT (.slice z.2 z.1.t.args.length z.1.t.args.length) z.1.t.args ∧ (x.1, x.2.1) ∈ er M ∧
     a' = { tmps := (((a0.tmps.setIfInBounds 37 (adW x.1)).setIfInBounds 38 (ceV z)).setIfInBounds 14 (.pointer (some ⟨Bx, 0, none⟩))).setIfInBounds 15 (.pointer (some ⟨By, 0, none⟩)), defers := [] })
    (fun x a' _ X Y row hs hg hr => by
     obtain ⟨z, Bx, By, nT, e1, e2, h1, h2, h3, h4, h5⟩ := hs
     exact ⟨z, Bx, By, nT, e1, e2, rowCells_own h1 hg (fun r e => (hr r e).2), rowCells_own h2 hg (fun r e => (hr r e).2), h3, h4.kept (cellsIn_walk hg (fun r e => (hr r e).2)), h5⟩)
    ?assign ?body ?done ?stop
   case stop =>
    rintro D c pre W hD ⟨i, hS⟩ ⟨rfl, hxW, k1, k2, hgo⟩ hK
    subst hA0
    refine (wpIn_wide (n := 25)).2 ?_
    go_wp2_with fail
    refine ⟨by simp, .inl ⟨_, _, rfl, run_takeDeferred hK, ?_⟩⟩
    have k1' : (W.putObj D (.deferred none)).heap[B + 1]? = some (.cells #[.pointer none] 29 (0, 0)) := (World.putObj_heap_other (by omega)).trans k1
    have k2' : (W.putObj D (.deferred none)).heap[B + 1 + 1]? = some (.cells #[.int .i64 20] 35 (0, 0)) := (World.putObj_heap_other (by omega)).trans k2
    have hxE : Xt w (W.putObj D (.deferred none)) := hxW.grownB (grownBy_putObj' W D _) (fun q hq => by cases hq; have := HXW.out.size; omega)
    refine ⟨_, results_two rfl _ _ (B + 1) (B + 1 + 1) (.pointer none) (.int .i64 20) rfl rfl (load_pgrid _ _ _ (one_row k1').1) (load_err _ _ _ (one_row k2').1), hxE, Or.inr ⟨HOK.out, Or.inl ⟨?_, rfl⟩⟩⟩
    rw [HN.out, HCG.out]
    exact goStop_pre hS hgo
   case done =>
    rintro D xs W hD hS hI hK
    subst hA0
    obtain ⟨hgr, ⟨Mo, hGo, hEo⟩, hNS⟩ := hI
    have HGo := Lib.hid hGo
    have HEo := Lib.hid hEo
    have HNS := Lib.hid hNS
    have HSS := Lib.hid (told_all hS)
    have r1 := (hgr.block (B + 1) (by omega) (fun e => by have := Option.some.inj e; omega)).trans (rowX HX0W.out HR1.out)
    have r2 := (hgr.block (B + 1 + 1) (by omega) (fun e => by have := Option.some.inj e; omega)).trans (rowX HX0W.out HR2.out)
    have rG := (hgr.block G (by omega) (fun e => by have := Option.some.inj e; omega)).trans HRG.out
    obtain ⟨c1, f1⟩ := one_row r1
    obtain ⟨c2, f2⟩ := one_row r2
    obtain ⟨cGG, _⟩ := one_row rG
    have HxW : Hid (Xt w W) := HXW.out.grownB hgr (fun q hq => by cases hq; omega)
    have HK := Lib.hid hK
    have HC1c := Lib.hid r1
    have HC2c := Lib.hid r2
    clear hGo hEo hNS hS hgr r1 r2 rG hK
    go_wp2_with fail
    obtain ⟨W', hW'⟩ : ∃ W', (W.setCell ⟨B + 1, 0, none⟩ (.pointer (some ⟨R + 1 + 1, 0, none⟩))).setCell ⟨B + 1 + 1, 0, none⟩ (.int .i64 0) = W' := ⟨_, rfl⟩
    have k1 : W'.cell? ⟨B + 1, 0, none⟩ = some (.pointer (some ⟨R + 1 + 1, 0, none⟩)) := by rw [← hW', World.cell?_setCell_other _ _ _ _ (by simp)]; exact World.cell?_setCell_same _ _ _ c1
    have k2 : W'.cell? ⟨B + 1 + 1, 0, none⟩ = some (.int .i64 0) := by rw [← hW']; exact World.cell?_setCell_same _ _ _ ((World.cell?_setCell_other _ _ _ _ (by simp)).trans c2)
    have hgW : Wr (fun b => b = B + 1 ∨ b = B + 1 + 1) W W' := by rw [← hW']; exact (Wr.cell _ (Or.inl rfl)).trans (Wr.cell _ (Or.inr rfl))
    have hKW : W'.heap[D]? = some (.deferred (some [])) := (hgW.block D (Array.getElem?_eq_some_iff.1 HK.out).1 (fun e => by omega)).trans HK.out
    have hGW : GridIs (W'.putObj D (.deferred none)) (R + 1 + 1) (R + 1) Mo := by
     have hk : ∀ b, b ≠ B + 1 → b ≠ B + 1 + 1 → b ≠ D → (W'.putObj D (.deferred none)).heap[b]? = W.heap[b]? := fun b h1 h2 h3 => (World.putObj_heap_other h3).trans (by rw [← hW']; exact (Below.heap_setCell _ _ _ _ h2).trans (Below.heap_setCell _ _ _ _ h1))
     exact HGo.out.far (P := fun b => b = B + 1 ∨ b = B + 1 + 1 ∨ b = D) (fun b hb => hk b (fun e => hb (Or.inl e)) (fun e => hb (Or.inr (Or.inl e))) (fun e => hb (Or.inr (Or.inr e))))
      (fun b hb o u hu => by
       rcases hb with rfl | rfl | rfl
       · exact one_cell HC1c.out hu
       · exact one_cell HC2c.out hu
       · rw [World.cell?, HK.out] at hu; cases hu) (by omega) (by omega)
    rw [hW']
    refine ⟨by simp, .inl ⟨_, _, rfl, run_takeDeferred hKW, ?_⟩⟩
    have hcell : ∀ b, b ≠ D → ∀ u, W'.cell? ⟨b, 0, none⟩ = some u → (W'.putObj D (.deferred none)).cell? ⟨b, 0, none⟩ = some u := fun b hb u hu => (World.cell?_of_block (w := W') (a := ⟨b, 0, none⟩) (World.putObj_heap_other (by exact hb))).trans hu
    have hxE : Xt w (W'.putObj D (.deferred none)) := by
     have h1 : Xt w W' := hgW.xt HxW.out (fun b hb => by rcases hb with e | e <;> omega)
     exact h1.grownB (grownBy_putObj' W' D _) (fun q hq => by cases hq; have := HXW.out.size; omega)
    refine ⟨_, results_two rfl _ _ (B + 1) (B + 1 + 1) (.pointer (some ⟨R + 1 + 1, 0, none⟩)) (.int .i64 0) rfl rfl (load_pgrid _ _ _ (hcell _ (by omega) _ k1)) (load_err _ _ _ (hcell _ (by omega) _ k2)), hxE, Or.inr ⟨HOK.out, Or.inr ⟨?_, R + 1 + 1, R + 1, Mo, rfl, ?_, ?_, by omega, by omega⟩⟩⟩
    · rw [HN.out, HCG.out, ← HSS.out]; exact HNS.out
    · exact hGW
    · rw [HN.out, HCG.out, HAG.out, ← HSS.out]; exact HEo.out
   case assign =>
    rintro l0 pre x W K hI ⟨V, hIV, ⟨hxV, hsm, nT, hA⟩, hmem⟩ hK
    subst hA0
    obtain ⟨⟨c, d⟩, tc, tp⟩ := x
    obtain ⟨z, hz1, hz2⟩ : ∃ z : CE, z.1 = copyC tc ∧ z.2 = tp := ⟨(copyC tc, tp), rfl, rfl⟩
    have hzv : copyCV tc tp = ceV z := by rw [← ceV_copy]; obtain ⟨z1, z2⟩ := z; simp only at hz1 hz2; rw [hz1, hz2]
    have hzA : smallT z.1.t ∧ ArgsIn W nT (.slice z.2 z.1.t.args.length z.1.t.args.length) z.1.t.args := by
     rw [hz1, hz2]
     refine ⟨smallT_copy _ hsm, ?_⟩
     show ArgsIn _ _ (.slice tp (copyT tc.t).args.length (copyT tc.t).args.length) (copyT tc.t).args
     rw [copyT_len, copyT_args]
     exact hA.args
    have HZ := Lib.hid (show z.1 = copyC tc ∧ z.2 = tp from ⟨hz1, hz2⟩)
    have HZA := Lib.hid hzA
    simp only [teV, hzv]
    clear hz1 hz2 hzv hzA hA hsm hIV hxV
    obtain ⟨wA, hwA, hbA, hsA, kA0, kA1⟩ := box1 W c d 24
    obtain ⟨wZ, wR, hwZ, hwR, hrZ, hrR, hxR, hsR, hxZ, hsZ⟩ := boxR wA z
    rw [hsA] at hrZ hwR hrR
    have hrA : wA.heap[W.heap.size]? = some (.cells #[.int .i64 c, .int .i64 d] 24 (0, 0)) := by rw [← hwA]; exact World.alloc_heap_new W _
    have hxWR := Lib.hid (Xt.trans hbA hxR)
    have HRA := Lib.hid ((hxR.block _ (by omega)).trans hrA)
    have HRZ := Lib.hid hrZ
    have HRR := Lib.hid hrR
    have HWR := Lib.hid hwR
    clear hrZ hwR hrR hrA kA0 kA1 hbA hxZ hxR
    gi_wp2_with (first | (refine wpListIn_store_row (P := Tryz.prog) rfl 51 _ _ rfl (W.heap.size + 1) #[.int .i64 z.1.kind, .int .i64 z.1.v.kind, .float .f64 z.1.v.x, .string z.1.v.s, .bool z.1.v.b, .int .i64 z.1.v.f, .int .i64 z.1.t.kind, .int .i64 z.1.t.op, .float .f64 z.1.t.x, .string z.1.t.s, .bool z.1.t.b, .int .i64 z.1.t.f, .int .i64 z.1.t.ref.a.1, .int .i64 z.1.t.ref.a.2, .bool z.1.t.ref.cf, .bool z.1.t.ref.rf, .int .i64 z.1.t.to.a.1, .int .i64 z.1.t.to.a.2, .bool z.1.t.to.cf, .bool z.1.t.to.rf, .slice z.2 z.1.t.args.length z.1.t.args.length] rfl rfl 51 _ HRZ.out (by kernel_rfl) rfl (by simp [Value.oneCell']) ?_; rw [HWR.out]))
    have hx := hxWR.out
    refine hK _ _ (keepsFrom_xt hx _) ⟨hx.mono (by have := hI.grown.size; have := HXW.out.size; omega), KeepsT.of_xt hx⟩ (hI.xt hx) ?_
    refine ⟨z, W.heap.size, W.heap.size + 1, nT, HZ.out.1, HZ.out.2, HRA.out, HRR.out, HZA.out.1, HZA.out.2.xt hx, hmem, ?_⟩
    simp only [List.setIfInBounds_toArray, List.set_cons_zero, List.set_cons_succ]
   case body =>
    rintro l0 pre x a' W hl0 ⟨r, hr⟩ hI ⟨z, Bx, By, nT, hz1, hz2, hBx, hBy, hzs, hzA, hmem, rfl⟩ hlt
    subst hA0
    obtain ⟨⟨c, d⟩, tc, tp⟩ := x
    simp only at hBx hz1 hz2
    obtain ⟨hgr, ⟨Mo, hGo, hEo⟩, hNS⟩ := hI
    have HGo := Lib.hid hGo
    have HEo := Lib.hid hEo
    have HNS := Lib.hid hNS
    have HGr := Lib.hid hgr
    have hgs := hgr.size
    have rB := (hgr.block B (by omega) (fun e => by have := Option.some.inj e; omega)).trans (rowX HX0W.out HR0.out)
    have r1 := (hgr.block (B + 1) (by omega) (fun e => by have := Option.some.inj e; omega)).trans (rowX HX0W.out HR1.out)
    have r2 := (hgr.block (B + 1 + 1) (by omega) (fun e => by have := Option.some.inj e; omega)).trans (rowX HX0W.out HR2.out)
    have rG := (hgr.block G (by omega) (fun e => by have := Option.some.inj e; omega)).trans HRG.out
    have rR := (hgr.block R (by omega) (fun e => by have := Option.some.inj e; omega)).trans HRRW.out
    have HLW : Hid (LinAt W pc pl cols ⟨at_, n, N⟩) := HLAW.out.kept (m := R) (fun b hb => hgr.block b (by omega) (fun e => by have := Option.some.inj e; omega)) hplt
    have hf45 : Fence.wide.fn 146 := trivial
    have HC1 := Lib.hid (road1_any cols ⟨at_, n, N⟩ (c, d) pc pl W HLW.out)
    rw [HCG.out] at HC1
    obtain ⟨q, hq⟩ : ∃ q, cG (c, d) = q := ⟨_, rfl⟩
    rw [hq] at HC1
    have HQ := Lib.hid hq
    obtain ⟨⟨q1, q2⟩, qo⟩ := q
    obtain ⟨x0, x1, _, _⟩ := cells2 hBx
    obtain ⟨y0, y1, _, _⟩ := cells2 rR
    obtain ⟨cB, _⟩ := one_row rB
    have HBY := Lib.hid hBy
    have HR1W := Lib.hid r1
    have HR2W := Lib.hid r2
    have HRGW := Lib.hid rG
    have HRRW2 := Lib.hid rR
    have HXWW : Hid (Xt w W) := HXW.out.grownB hgr (fun q hq => by have := Option.some.inj hq; omega)
    have hByl := (Array.getElem?_eq_some_iff.1 hBy).1
    have HZ := Lib.hid (show z.1 = copyC tc ∧ z.2 = tp from ⟨hz1, hz2⟩)
    have HZA := Lib.hid (show smallT z.1.t ∧ ArgsIn W nT (.slice z.2 z.1.t.args.length z.1.t.args.length) z.1.t.args from ⟨hzs, hzA⟩)
    have hBm : By ≠ R + 1 := fun e => by
     obtain ⟨E, hm, _⟩ := HGo.out.map
     have h1 := hm.nocell 0
     rw [← e] at h1
     simp [World.cell?, hBy] at h1
    obtain ⟨v1, v2, v3, v4, v5⟩ := HO.out.each _ hmem
    have HVZ : Hid (gvalidB z.1 = true) := by unfold Hid; rw [hz1, gvalidB_copy]; exact v2
    have HOZ : Hid z.1.ok := by unfold Hid; rw [hz1]; exact okC_copy v5
    have HZC : Hid (copyC tc = z.1) := hz1.symm
    clear v1 v2 v3 v4 v5 hmem
    clear hGo hEo hNS hgr rB r1 r2 rG rR hBx hBy hz1 hz2 hq hzs hzA hr hlt
    simp only [List.setIfInBounds_toArray, List.set_cons_zero, List.set_cons_succ]
    cases qo
    · by_cases hn : 0 < n
      · gi_wp2_with (first
         | (gi_at_call 146; refine (callsIn_round HC1.out).mono ?_; rintro e w5 ⟨rfl, hx5⟩; obtain ⟨w6, hw6⟩ : ∃ w6, w5.alloc (.cells #[.int .i64 q1, .int .i64 q2] 24) = w6 := ⟨_, rfl⟩; have HX6 : Hid (Xt W w6) := (by unfold Hid; rw [← hw6]; exact hx5.alloc _); have cB6 := HX6.out.cellsIn _ _ _ cB; obtain ⟨c1, f1⟩ := one_row (rowX HX6.out HR1W.out); obtain ⟨c2, f2⟩ := one_row (rowX HX6.out HR2W.out); clear hx5))
        have hgW : Wr (fun b => b = B + 1 ∨ b = B + 1 + 1) W ((w6.setCell ⟨B + 1, 0, none⟩ (.pointer none)).setCell ⟨B + 1 + 1, 0, none⟩ (.int .i64 20)) := (Wr.of_xt HX6.out).trans ((Wr.cell _ (Or.inl rfl)).trans (Wr.cell _ (Or.inr rfl)))
        refine ⟨⟨hgW.size, fun k o hB hk _ => (hgW.block k (Array.getElem?_eq_some_iff.1 hk).1 (fun e => by omega)).trans hk⟩, rfl, hgW.xt HXWW.out (fun b hb => by rcases hb with e | e <;> omega), (Below.heap_setCell _ _ _ _ (by simp)).trans (setCell_row (rowX HX6.out HR1W.out) 0 _), setCell_row ((Below.heap_setCell _ _ _ _ (by simp)).trans (rowX HX6.out HR2W.out)) 0 _, ?_⟩
        rw [List.map_append, List.map_cons, List.map_nil, goStop_snoc]
        simp [tpT, HQ.out, hn]
      · gi_wp2_with (first
         | (gi_at_call 146; refine (callsIn_round HC1.out).mono ?_; rintro e w5 ⟨rfl, hx5⟩; obtain ⟨w6, hw6⟩ : ∃ w6, w5.alloc (.cells #[.int .i64 q1, .int .i64 q2] 24) = w6 := ⟨_, rfl⟩; have HX6 : Hid (Xt W w6) := (by unfold Hid; rw [← hw6]; exact hx5.alloc _); have cB6 := HX6.out.cellsIn _ _ _ cB; clear hx5))
        have hx6 := HX6.out
        refine ⟨keepsFrom_xt hx6 _, ⟨hx6.mono (by omega), KeepsT.of_xt hx6⟩, ?_⟩
        refine ⟨grownBy_far HGr.out hx6.grownN (fun r e => by cases e), ⟨Mo, HGo.out.xt hx6, ?_⟩, ?_⟩
        · rw [List.map_append, List.map_cons, List.map_nil, goAll_snoc, HEo.out]
          simp [tpT, goStep, HQ.out]
        · rw [List.map_append, List.map_cons, List.map_nil, goStop_snoc, HNS.out]
          simp [tpT, hn]
    · gi_wp2_with (first
          | (gi_at_call 146; refine (callsIn_round HC1.out).mono ?_; rintro e w5 ⟨rfl, hx5⟩; obtain ⟨w6, hw6⟩ : ∃ w6, w5.alloc (.cells #[.int .i64 q1, .int .i64 q2] 24) = w6 := ⟨_, rfl⟩; have HX6 : Hid (Xt W w6) := (by unfold Hid; rw [← hw6]; exact hx5.alloc _); obtain ⟨n0, n1, _, _⟩ := cells2 (w := w6) (b := w5.heap.size) (by rw [← hw6]; exact (MapKept.heap_alloc w5 _).1); clear hx5))
      have HGW6 : Hid (GridIs w6 (R + 1 + 1) (R + 1) Mo) := HGo.out.xt HX6.out
      have hs56 : w5.heap.size ≠ R + 1 := by
       intro e
       obtain ⟨E, hm, _⟩ := HGW6.out.map
       have h1 := hm.nocell 0
       rw [← e, n0] at h1
       cases h1
      have HF : Hid (∀ V, w6.grownBy V (some (R + 1)) → V.cell? ⟨G, 0, none⟩ = some (.pointer (some ⟨R + 1 + 1, 0, none⟩)) ∧ V.cell? ⟨w5.heap.size, 0, none⟩ = some (.int .i64 q1) ∧ V.cell? ⟨w5.heap.size, 1, none⟩ = some (.int .i64 q2) ∧ V.cell? ⟨R, 0, none⟩ = some (.func (.func 146) #[] #[.pointer (some ⟨pc, 0, none⟩), .pointer (some ⟨pl, 0, none⟩)]) ∧ V.cell? ⟨R, 1, none⟩ = some (.func (.func 148) #[] #[.pointer (some ⟨pc, 0, none⟩), .pointer (some ⟨pl, 0, none⟩)]) ∧ V.heap[By]? = some (.cells #[.int .i64 z.1.kind, .int .i64 z.1.v.kind, .float .f64 z.1.v.x, .string z.1.v.s, .bool z.1.v.b, .int .i64 z.1.v.f, .int .i64 z.1.t.kind, .int .i64 z.1.t.op, .float .f64 z.1.t.x, .string z.1.t.s, .bool z.1.t.b, .int .i64 z.1.t.f, .int .i64 z.1.t.ref.a.1, .int .i64 z.1.t.ref.a.2, .bool z.1.t.ref.cf, .bool z.1.t.ref.rf, .int .i64 z.1.t.to.a.1, .int .i64 z.1.t.to.a.2, .bool z.1.t.to.cf, .bool z.1.t.to.rf, .slice z.2 z.1.t.args.length z.1.t.args.length] 51 (0, 0))) := Lib.hid fun V hV => by
       have k : ∀ b, b ≠ R + 1 → ∀ o u, w6.cell? ⟨b, o, none⟩ = some u → V.cell? ⟨b, o, none⟩ = some u := fun b hb o u hu => (World.cell?_of_block (w := w6) (a := ⟨b, o, none⟩) (hV.block b (World.block_lt_of_cell? w6 _ hu) (fun e => hb (by have := Option.some.inj e; omega)))).trans hu
       obtain ⟨y0', y1', _, _⟩ := cells2 (rowX HX6.out HRRW2.out)
       have hb6 := rowX HX6.out HBY.out
       exact ⟨k G (by omega) 0 _ (one_row (rowX HX6.out HRGW.out)).1, k _ hs56 0 _ n0, k _ hs56 1 _ n1, k R (by omega) 0 _ y0', k R (by omega) 1 _ y1', (hV.block By (Array.getElem?_eq_some_iff.1 hb6).1 (fun e => hBm (by have := Option.some.inj e; omega))).trans hb6⟩
      have HCT := Lib.hid (content_any (lines_road (m := R) cols ⟨at_, n, N⟩ pc pl hplt) nT z.1 z.2 z.1.t.args.length w6.drew ⟨HLW.out.xt (HX6.out.trans (Xt.refl w6).drew), by have := HX6.out.size; show R ≤ w6.heap.size; omega⟩ HZA.out.1 (HZA.out.2.xt (HX6.out.trans (Xt.refl w6).drew)) (gvalid_okAs HVZ.out))
      rw [HCG.out, HAG.out] at HCT
      clear n0 n1 x0 x1 y0 y1 cB
      refine region_round (S := fun V => w6.grownBy V (some (R + 1))) (by kernel_rfl) (by kernel_rfl) (fun _ _ h => h) (⟨rfl, rfl, rfl, Nat.le_refl _, fun _ _ _ => rfl⟩ : w6.grownBy w6.drew _) (fun hHeld => ?_)
      refine tkH 0 ?_ ?_ ?_
      rotate_left
      · intro V hSw; obtain ⟨u0, u1, u2, u3, u4, u5⟩ := HF.out V hSw; clear u5; go_simp; first | done | with_reducible rfl
      try simp only [Act.put, nm]
      refine tkH 1 ?_ ?_ ?_
      rotate_left
      · intro V hSw; obtain ⟨u0, u1, u2, u3, u4, u5⟩ := HF.out V hSw; clear u5; go_simp; first | done | with_reducible rfl
      try simp only [Act.put, nm]
      refine tkH 2 ?_ ?_ ?_
      rotate_left
      · intro V hSw; obtain ⟨u0, u1, u2, u3, u4, u5⟩ := HF.out V hSw; clear u5; go_simp; first | done | with_reducible rfl
      try simp only [Act.put, nm]
      refine tkH 3 (.agg #[.int .i64 z.1.kind, .int .i64 z.1.v.kind, .float .f64 z.1.v.x, .string z.1.v.s, .bool z.1.v.b, .int .i64 z.1.v.f, .int .i64 z.1.t.kind, .int .i64 z.1.t.op, .float .f64 z.1.t.x, .string z.1.t.s, .bool z.1.t.b, .int .i64 z.1.t.f, .int .i64 z.1.t.ref.a.1, .int .i64 z.1.t.ref.a.2, .bool z.1.t.ref.cf, .bool z.1.t.ref.rf, .int .i64 z.1.t.to.a.1, .int .i64 z.1.t.to.a.2, .bool z.1.t.to.cf, .bool z.1.t.to.rf, .slice z.2 z.1.t.args.length z.1.t.args.length]) ?_ ?_
      · intro V hSw; exact exec_load_row 51 _ (by rfl) By (by rfl) 51 _ _ _ (HF.out V hSw).2.2.2.2.2 Tryz.underlying51 rfl (by kernel_rfl)
      try simp only [Act.put, nm]
      refine rdH 4 (fun K hK => ?_)
      go_simp
      refine (HCT.out).mono ?_
      rintro e w7 ⟨a2, c2, rfl, hA7, hx7⟩
      have HX7 : Hid (Xt W w7) := (HX6.out.trans (Xt.refl w6).drew).trans hx7
      have HP := Lib.hid (gput_any nT (R + 1 + 1) (R + 1) Mo (q1, q2) (contG cG aG z.1) a2 c2 w7 (HGo.out.xt HX7.out) (contG_ok HOZ.out) (HT.out.xt (HXWW.out.trans HX7.out)) (contG_small HZA.out.1) hA7)
      refine hK.out _ _ (grownBy_two hHeld (hx7.grown (some (R + 1)))) (fun hHeld2 => ?_)
      clear hK K hA7 hx7
      try simp only [Act.put, nm]
      refine rdH 5 (fun K hK => ?_)
      go_simp
      refine (HP.out).mono ?_
      rintro e w8 ⟨zz, rfl, hG8, hg8⟩
      refine hK.out _ _ (grownBy_two hHeld2 hg8) (fun hHeld3 => ?_)
      clear hK K
      refine wpAnyH_done (by kernel_rfl) ?_ _
      have hgW : W.grownBy w8 (some (R + 1)) := grownBy_two (HX7.out.grown (some (R + 1))) hg8
      clear hHeld hHeld2 hHeld3
      gi_wp2_with fail
      refine ⟨⟨hgW.size, fun k o hB hk _ => (hgW.block k (Array.getElem?_eq_some_iff.1 hk).1 (fun e => by have := Option.some.inj e; omega)).trans hk⟩, ⟨⟨hgW.os, hgW.tape, hgW.output, hgW.size, fun k hk => hgW.block k (by omega) (fun e => by have := Option.some.inj e; omega)⟩, KeepsT.of_grown hgW (fun j o e ho => ?_)⟩, ⟨grownBy_two HGr.out hgW, ⟨putTo Mo (q1, q2) (contG cG aG z.1) zz, hG8, ?_⟩, ?_⟩⟩
      · obtain ⟨E, hm, _⟩ := HGo.out.map
        obtain ⟨es, clk, h1, _⟩ := hm
        have e1 := Option.some.inj e
        rw [← e1, h1] at ho
        cases ho
        simp [keptO, ← e1]
      · rw [er_put, List.map_append, List.map_cons, List.map_nil, goAll_snoc, HEo.out]
        simp [tpT, goStep, HQ.out, HZC.out]
      · rw [List.map_append, List.map_cons, List.map_nil, goStop_snoc, HNS.out]
        simp [tpT, HQ.out]
end Go.Proofs.YtdoeejhdenifpaaGreatDoor
