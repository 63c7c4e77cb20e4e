import Derived.Test.YtdoeejhdenifpaaGreatDoorZ1
import Derived.Test.YtdoeejhdenifpaaGreatDoorR5
import Derived.Test.YtdoeejhdenifpaaGreatDoorA11
import Derived.Test.YtdoeejhdenifpaaGreatDoorA12
import Derived.RangeFuncNested
import Derived.Test.YtdoeejhdenifpaaGreatDoorA8
import Derived.Deep.MidRow
/- move.Move's walk (made by mkr6.py). -/
namespace Go.Proofs.YtdoeejhdenifpaaGreatDoor
open Go.RowKit Go.Sort Go.Maps Go.Shelf Go.MapKept
attribute [local go_sem] Oper.semAt_some
theorem mv_road {m : Nat} (pf pm pg pc pr : Nat) (f g : ArT) (cc rr : Int) (h : pf < m ∧ pm < m ∧ pg < m ∧ pc < m ∧ pr < m) : RoadIs (fun W => MvAt W pf pm pg pc pr f g cc rr ∧ m ≤ W.heap.size) m 44 45 #[.pointer (some ⟨pf, 0, none⟩), .pointer (some ⟨pm, 0, none⟩), .pointer (some ⟨pg, 0, none⟩)] #[.pointer (some ⟨pf, 0, none⟩), .pointer (some ⟨pm, 0, none⟩), .pointer (some ⟨pg, 0, none⟩)] (mvC f g cc rr) (mvA f g cc rr) ArT.ok :=
 ⟨fun w w' hE hs hk => ⟨hE.1.kept hk h, by have := hE.2; omega⟩, fun w hE => hE.2, enters_of Tryz.func44 (by kernel_rfl) rfl, enters_of Tryz.func45 (by kernel_rfl) rfl, fun a w hE => mvCell_any a pf pm pg pc pr f g cc rr w hE.1, fun x w _ hE => mvArea_any x pf pm pg pc pr f g cc rr w hE.1⟩
structure MI (W0 : World) (go mo : Nat) (cG : Ad → Ad × Bool) (aG : ArT → ArT × Bool) (pre : List TE) (W : World) : Prop where
 grown : W0.grownBy W (some mo)
 out : ∃ Mo, GridIs W go mo Mo ∧ er Mo = goAll cG aG (pre.map tpT)
theorem MI.own {W0 : World} {go mo : Nat} {cG : Ad → Ad × Bool} {aG : ArT → ArT × Bool} (hm : mo < W0.heap.size) : OwnFrom W0.heap.size (fun pre W => MI W0 go mo cG aG pre W) := fun s X Y row hs hg hr => by
 obtain ⟨h1, ⟨Mo, h2, h3⟩⟩ := hs
 exact ⟨grownBy_far h1 hg (fun r e => (hr r e).1), ⟨Mo, h2.kept (cellsIn_walk hg (fun r e => (hr r e).2)) (hg.block mo (by have := h1.size; omega) (fun e => by have := (hr mo e.symm).1; omega)), h3⟩⟩
theorem MI.start {W0 : World} {go mo : Nat} {cG : Ad → Ad × Bool} {aG : ArT → ArT × Bool} (h : GridIs W0 go mo []) : MI W0 go mo cG aG [] W0 := ⟨⟨rfl, rfl, rfl, Nat.le_refl _, fun _ _ _ => rfl⟩, ⟨[], h, rfl⟩⟩
theorem MI.xt {W0 W W' : World} {go mo : Nat} {cG : Ad → Ad × Bool} {aG : ArT → ArT × Bool} {pre : List TE} (h : MI W0 go mo cG aG pre W) (hx : Xt W W') : MI W0 go mo cG aG pre W' :=
 ⟨grownBy_far h.grown hx.grownN (fun r e => by cases e), let ⟨Mo, h2, h3⟩ := h.out; ⟨Mo, h2.xt hx, h3⟩⟩
def farC (f : ArT) (g : Ad) : Int := wrap64 (g.1 - f.a)
def farR (f : ArT) (g : Ad) : Int := wrap64 (g.2 - f.b)
set_option maxRecDepth 100000 in
set_option maxHeartbeats 4000000 in
theorem move_any (f : ArT) (g : Ad) (gb mb : Nat) (M : GM) (w : World) (hG : GridIs w gb mb M) (hT : Tabs w) (hO : GOk (er M)) (hv : validA f.a f.b f.c f.d = true) (hv1 : validB g.1 g.2 = true) (hv2 : validB (lastOf f g).1 (lastOf f g).2 = true) :
    Calls Tryz.prog 12 #[.pointer (some ⟨gb, 0, none⟩), arT f, .agg #[.int .i64 g.1, .int .i64 g.2]] w fun e w' => Xt w w' ∧ ∃ go mo Mo, e = .returned (.tuple #[.pointer (some ⟨go, 0, none⟩), .int .i64 0]) ∧ GridIs w' go mo Mo ∧ er Mo = goAll (mvC f (thereA f g) (farC f g) (farR f g)) (mvA f (thereA f g) (farC f g) (farR f g)) (er M) := by
 have HG := Lib.hid hG
 have HT := Lib.hid hT
 have HO := Lib.hid hO
 obtain ⟨B, hB⟩ : ∃ B, w.heap.size = B := ⟨_, rfl⟩
 obtain ⟨wa, hwa⟩ : ∃ wa, w.alloc (.cells #[.int .i64 f.a, .int .i64 f.b, .int .i64 f.c, .int .i64 f.d] 26) = wa := ⟨_, rfl⟩
 have hsa : wa.heap.size = B + 1 := by rw [← hwa, ← hB]; simp
 obtain ⟨w0, hw0⟩ : ∃ w0, wa.alloc (.cells #[.int .i64 g.1, .int .i64 g.2] 24) = w0 := ⟨_, rfl⟩
 have hs0 : w0.heap.size = B + 1 + 1 := by rw [← hw0]; simp [hsa]
 have HX0 : Hid (Xt w w0) := by unfold Hid; rw [← hw0, ← hwa]; exact ((Xt.refl _).alloc _).alloc _
 have HR0 : Hid (w0.heap[B]? = some (.cells #[.int .i64 f.a, .int .i64 f.b, .int .i64 f.c, .int .i64 f.d] 26 (0, 0))) := rowX (w := wa) (by rw [← hw0]; exact (Xt.refl _).alloc _) (by rw [← hwa, ← hB]; exact (MapKept.heap_alloc w _).1)
 have HR1 : Hid (w0.heap[B + 1]? = some (.cells #[.int .i64 g.1, .int .i64 g.2] 24 (0, 0))) := by unfold Hid; rw [← hw0, ← hsa]; exact (MapKept.heap_alloc wa _).1
 have HVA := Lib.hid (fun V => validArea_any f.a f.b f.c f.d V)
 rw [hv] at HVA
 have HTH := Lib.hid (fun V => there_any f g V)
 rw [hv1, hv2] at HTH
 obtain ⟨gl, hgl⟩ : ∃ gl, thereA f g = gl := ⟨_, rfl⟩
 rw [hgl] at HTH
 have HBY := Lib.hid (fun V => by_any (f.a, f.b) g V)
 obtain ⟨cc, hcc⟩ : ∃ c, farC f g = c := ⟨_, rfl⟩
 obtain ⟨rr, hrr⟩ : ∃ c, farR f g = c := ⟨_, rfl⟩
 simp only [show wrap64 (g.1 - f.a) = cc from hcc, show wrap64 (g.2 - f.b) = rr from hrr] at HBY
 rw [hgl, hcc, hrr]
 obtain ⟨⟨x0, x1, x2, x3⟩, _⟩ := cells4 HR0.out
 obtain ⟨y0, y1, _, _⟩ := cells2 HR1.out
 clear hG hT hO hv hv1 hv2 hgl hcc hrr
 refine (callsIn_wide (n := 25)).1 ?_
 refine callsIn_of_wp_marks Tryz.func12 rfl trivial ?_ rfl
 simp only [Tryz.ntmps12, List.size_toArray, List.length_cons, List.length_nil, Nat.reduceAdd, Nat.reduceSub, Array.replicate_succ, Array.replicate_zero, List.push_toArray, List.append_toArray, List.nil_append, List.cons_append]
 refine wpIn_wide.2 ?_
 refine wp_mono (Q := noPanic (bodyPostM Fence.wide 25 Tryz.prog Tryz.f12 (fun e w' => Xt w w' ∧ ∃ go mo Mo, e = .returned (.tuple #[.pointer (some ⟨go, 0, none⟩), .int .i64 0]) ∧ GridIs w' go mo Mo ∧ er Mo = goAll (mvC f gl cc rr) (mvA f gl cc rr) (er M)))) ?_ noPanic_le
 have hq := Int.le_refl 0
 go_wp2_with (first
  | (go_at_call 40; refine (HVA.out _).mono ?_; rintro e w1 ⟨rfl, hg1⟩; have HX1 : Hid (Xt w0 w1) := hg1.xt; obtain ⟨⟨a0, a1, a2, a3⟩, _⟩ := cells4 (rowX HX1.out HR0.out); obtain ⟨b0, b1, _, _⟩ := cells2 (rowX HX1.out HR1.out); clear hg1)
  | (go_at_call 41; refine (HTH.out _).mono ?_; rintro e w2 ⟨rfl, hx2⟩; have HX2 : Hid (Xt w0 w2) := HX1.out.trans hx2; obtain ⟨wb, hwb⟩ : ∃ wb, w2.alloc (.cells #[.int .i64 gl.a, .int .i64 gl.b, .int .i64 gl.c, .int .i64 gl.d] 26) = wb := ⟨_, rfl⟩; have HX2b : Hid (Xt w0 wb) := (by unfold Hid; rw [← hwb]; exact HX2.out.alloc _); obtain ⟨⟨c0, c1, c2, c3⟩, _⟩ := cells4 (rowX HX2b.out HR0.out); obtain ⟨d0, d1, _, _⟩ := cells2 (rowX HX2b.out HR1.out); clear hx2)
  | (go_at_call 42; refine (HBY.out _).mono ?_; rintro e w3 ⟨rfl, hg3⟩; have HX3 : Hid (Xt wb w3) := hg3.xt; obtain ⟨C, hC⟩ : ∃ C, w3.heap.size = C := ⟨_, rfl⟩; obtain ⟨wc, hwc⟩ : ∃ wc, w3.alloc (.cells #[.int .i64 cc] 3) = wc := ⟨_, rfl⟩; obtain ⟨wd, hwd⟩ : ∃ wd, wc.alloc (.cells #[.int .i64 rr] 3) = wd := ⟨_, rfl⟩; obtain ⟨we, hwe⟩ : ∃ we, wd.alloc (.cells #[.func (.func 43) #[] #[.pointer (some ⟨C, 0, none⟩), .pointer (some ⟨C + 1, 0, none⟩)]] 92) = we := ⟨_, rfl⟩; obtain ⟨wf, hwf⟩ : ∃ wf, we.alloc (.cells #[.func (.func 44) #[] #[.pointer (some ⟨B, 0, none⟩), .pointer (some ⟨C + 1 + 1, 0, none⟩), .pointer (some ⟨w2.heap.size, 0, none⟩)], .func (.func 45) #[] #[.pointer (some ⟨B, 0, none⟩), .pointer (some ⟨C + 1 + 1, 0, none⟩), .pointer (some ⟨w2.heap.size, 0, none⟩)]] 97) = wf := ⟨_, rfl⟩; have hsc : wc.heap.size = C + 1 := (by rw [← hwc]; simp [hC]); have hsd : wd.heap.size = C + 1 + 1 := (by rw [← hwd]; simp [hsc]); have hse : we.heap.size = C + 1 + 1 + 1 := (by rw [← hwe]; simp [hsd]); have hsf : wf.heap.size = C + 1 + 1 + 1 + 1 := (by rw [← hwf]; simp [hse]); clear hg3)
  | (go_at_call 35; refine (gnew_any _).mono ?_; rintro e w4 ⟨rfl, hGo, hg4⟩; have HGo := Lib.hid hGo; have HX4 := Lib.hid hg4.xt; clear hGo hg4)
  | (go_at_call 37; refine ((callsIn_wide (n := 20)).1 (all_in 20 (by omega) _ _)).mono ?_; rintro e w' ⟨rfl, rfl⟩))
 have hx3f : Xt w3 wf := by rw [← hwf, ← hwe, ← hwd, ← hwc]; exact ((((Xt.refl w3).alloc _).alloc _).alloc _).alloc _
 have HMW : Hid (MvAt wf B (C + 1 + 1) w2.heap.size C (C + 1) f gl cc rr) := by
  have q0 := rowX ((HX2b.out.trans HX3.out).trans hx3f) HR0.out
  have hwbr : wb.heap[w2.heap.size]? = some (.cells #[.int .i64 gl.a, .int .i64 gl.b, .int .i64 gl.c, .int .i64 gl.d] 26 (0, 0)) := by rw [← hwb]; exact (MapKept.heap_alloc w2 _).1
  have q1 := rowX (HX3.out.trans hx3f) hwbr
  have q2 : wf.heap[C]? = some (.cells #[.int .i64 cc] 3 (0, 0)) := rowX (w := wc) (by rw [← hwf, ← hwe, ← hwd]; exact (((Xt.refl wc).alloc _).alloc _).alloc _) (by rw [← hwc, ← hC]; exact (MapKept.heap_alloc w3 _).1)
  have q3 : wf.heap[C + 1]? = some (.cells #[.int .i64 rr] 3 (0, 0)) := rowX (w := wd) (by rw [← hwf, ← hwe]; exact ((Xt.refl wd).alloc _).alloc _) (by rw [← hwd, ← hsc]; exact (MapKept.heap_alloc wc _).1)
  have q4 : wf.heap[C + 1 + 1]? = some (.cells #[.func (.func 43) #[] #[.pointer (some ⟨C, 0, none⟩), .pointer (some ⟨C + 1, 0, none⟩)]] 92 (0, 0)) := rowX (w := we) (by rw [← hwf]; exact (Xt.refl we).alloc _) (by rw [← hwe, ← hsd]; exact (MapKept.heap_alloc wd _).1)
  exact ⟨q0, (one_row q4).1, q1, (one_row q2).1, (one_row q3).1⟩
 have HRF : Hid (wf.heap[C + 1 + 1 + 1]? = some (.cells #[.func (.func 44) #[] #[.pointer (some ⟨B, 0, none⟩), .pointer (some ⟨C + 1 + 1, 0, none⟩), .pointer (some ⟨w2.heap.size, 0, none⟩)], .func (.func 45) #[] #[.pointer (some ⟨B, 0, none⟩), .pointer (some ⟨C + 1 + 1, 0, none⟩), .pointer (some ⟨w2.heap.size, 0, none⟩)]] 97 (0, 0))) := by unfold Hid; rw [← hwf, ← hse]; exact (MapKept.heap_alloc we _).1
 have HX0f : Hid (Xt w0 wf) := (HX2b.out.trans HX3.out).trans hx3f
 have hP2 : w2.heap.size < C := by
  have h1 := HX3.out.size
  have h2 : wb.heap.size = w2.heap.size + 1 := by rw [← hwb]; simp
  omega
 have hP0 : B + 1 < C := by have h1 := HX3.out.size; have h2 := HX2b.out.size; omega
 obtain ⟨P2, hP2e⟩ : ∃ P2, w2.heap.size = P2 := ⟨_, rfl⟩
 obtain ⟨G, hGs⟩ : ∃ G, w4.heap.size = G := ⟨_, rfl⟩
 obtain ⟨R, hR⟩ : ∃ R, C + 1 + 1 + 1 = R := ⟨_, rfl⟩
 obtain ⟨W0, hW0⟩ : ∃ W0, ((w4.alloc (.cells #[.pointer (some ⟨R + 1 + 1, 0, none⟩)] 29)).alloc (.cells #[.pointer (some ⟨gb, 0, none⟩)] 29)).alloc (.cells #[.func (.func 75) #[] #[]] 99) = W0 := ⟨_, rfl⟩
 rw [hsf] at HGo
 simp only [hR] at HGo HRF hsf
 simp only [hP2e] at HMW hP2 HRF
 simp only [hP2e, hR, hGs, hW0]
 have HX4W : Hid (Xt w4 W0) := by unfold Hid; rw [← hW0]; exact (((Xt.refl w4).alloc _).alloc _).alloc _
 have hsW : W0.heap.size = G + 3 := by rw [← hW0]; simp [hGs]
 have rG : W0.heap[G]? = some (.cells #[.pointer (some ⟨R + 1 + 1, 0, none⟩)] 29 (0, 0)) := by
  rw [← hW0, ← hGs]
  exact rowX (((Xt.refl _).alloc _).alloc _) (MapKept.heap_alloc w4 _).1
 have rBg : W0.heap[G + 1]? = some (.cells #[.pointer (some ⟨gb, 0, none⟩)] 29 (0, 0)) := by
  rw [← hW0, ← hGs]
  have := rowX ((Xt.refl _).alloc (.cells #[.func (.func 75) #[] #[]] 99)) (MapKept.heap_alloc (w4.alloc (.cells #[.pointer (some ⟨R + 1 + 1, 0, none⟩)] 29)) (.cells #[.pointer (some ⟨gb, 0, none⟩)] 29)).1
  simpa using this
 have rBw : W0.heap[G + 2]? = some (.cells #[.func (.func 75) #[] #[]] 99 (0, 0)) := by
  rw [← hW0, ← hGs]
  have := (MapKept.heap_alloc ((w4.alloc (.cells #[.pointer (some ⟨R + 1 + 1, 0, none⟩)] 29)).alloc (.cells #[.pointer (some ⟨gb, 0, none⟩)] 29)) (.cells #[.func (.func 75) #[] #[]] 99)).1
  simpa using this
 have HXfW : Hid (Xt wf W0) := HX4.out.trans HX4W.out
 have HXW : Hid (Xt w W0) := (HX0.out.trans HX0f.out).trans HXfW.out
 have HMV : Hid (MvAt W0 B (C + 1 + 1) P2 C (C + 1) f gl cc rr) := HMW.out.xt HXfW.out
 have HGoW : Hid (GridIs W0 (R + 1 + 1) (R + 1) []) := HGo.out.xt HX4W.out
 have HRRW := Lib.hid (rowX HXfW.out HRF.out)
 have HRG := Lib.hid rG
 have hRlt := HGo.out.lt.1
 have hGR : R + 1 + 1 < G := by omega
 have HRC := Lib.hid hR
 have hCR : C + 1 + 1 < R ∧ B + 1 < R ∧ P2 < R := by omega
 have hwB : w.heap.size ≤ R := by omega
 obtain ⟨cG, hcG⟩ : ∃ cG, mvC f gl cc rr = cG := ⟨_, rfl⟩
 obtain ⟨aG, haG⟩ : ∃ aG, mvA f gl cc rr = aG := ⟨_, rfl⟩
 have HCG := Lib.hid hcG
 have HAG := Lib.hid haG
 have HcgW : W0.cell? ⟨G + 1, 0, none⟩ = some (.pointer (some ⟨gb, 0, none⟩)) := by simp [World.cell?, rBg]
 have hplt : B < R ∧ C + 1 + 1 < R ∧ P2 < R ∧ C < R ∧ C + 1 < R := by omega
 have HPL := Lib.hid hplt
 clear hW0 hcG haG rG rBg hGs hR hP2e hwa hw0 hwb hwc hwd hwe hwf HBY HTH HVA HMW
 clear x0 x1 x2 x3 y0 y1 a0 a1 a2 a3 b0 b1 c0 c1 c2 c3 d0 d1
 generalize hA0 : Act.mk _ _ = a0
 refine (wpIn_wide (n := 25)).1 ?_
 refine rangeFunc_told (n := 25) (by omega) (gf := 116) (lb := #[.pointer (some ⟨G + 1, 0, none⟩), .pointer (some ⟨G + 2, 0, none⟩)]) (by subst hA0; rfl) (enters_of Tryz.func116 (by kernel_rfl) rfl)
  (some1_told (fun x => x == 2 * (R + 1) + 1) 75 #[] (enters_of Tryz.func75 (by kernel_rfl) rfl) (fun _ => true) w.heap.size w rfl (fun _ => True) (fun _ _ _ _ _ => trivial) (fun a W _ => all1_any a W) (25 - 1) (by omega) (G + 1) (G + 2) gb mb M HG.out W0 HXW.out trivial (by omega) HcgW rBw (fun k hk => by simp; omega))
  (fun h k => ⟨h.1.trans k.1, h.2.trans k.2⟩) (fun W l o o' hl ho hc hw => ⟨belowK_b (w := W0) (by omega) W l o o' hl ho hc hw, KeepsT.of_grown (grownBy_putObj' W l o') (fun j o2 e h2 => by cases e; rw [ho] at h2; cases h2; cases o <;> simp_all [keptO, Obj.isCells, Obj.isWalk])⟩) (Below.refl _ _) (fun _ => rfl)
  (fun pre W => MI W0 (R + 1 + 1) (R + 1) cG aG pre W)
  (fun c pre W => False)
  (MI.own (by omega))
  (fun c s X Y row hs hg hr => hs)
  (MI.start HGoW.out)
  (fun x a' W => ∃ (z : CE) (Bx By nT : Nat), z.1 = copyC x.2.1 ∧ z.2 = x.2.2 ∧ W.heap[Bx]? = some (.cells #[.int .i64 x.1.1, .int .i64 x.1.2] 24 (0, 0)) ∧ W.heap[By]? = some (.cells #[.int .i64 z.1.kind, .int .i64 z.1.v.kind, .float .f64 z.1.v.x, .string z.1.v.s, .bool z.1.v.b, .int .i64 z.1.v.f, .int .i64 z.1.t.kind, .int .i64 z.1.t.op, .float .f64 z.1.t.x, .string z.1.t.s, .bool z.1.t.b, .int .i64 z.1.t.f, .int .i64 z.1.t.ref.a.1, .int .i64 z.1.t.ref.a.2, .bool z.1.t.ref.cf, .bool z.1.t.ref.rf, .int .i64 z.1.t.to.a.1, .int .i64 z.1.t.to.a.2, .bool z.1.t.to.cf, .bool z.1.t.to.rf, .slice z.2 z.1.t.args.length z.1.t.args.length] 51 (0, 0)) ∧ smallT z.1.t ∧ ArgsIn W nT (.slice z.2 z.1.t.args.length z.1.t.args.length) z.1.t.args ∧ (x.1, x.2.1) ∈ er M ∧
   a' = { tmps := (((a0.tmps.setIfInBounds 46 (adW x.1)).setIfInBounds 47 (ceV z)).setIfInBounds 15 (.pointer (some ⟨Bx, 0, none⟩))).setIfInBounds 16 (.pointer (some ⟨By, 0, none⟩)), defers := [] })
  (fun x a' _ X Y row hs hg hr => by
   obtain ⟨z, Bx, By, nT, e1, e2, h1, h2, h3, h4, h5⟩ := hs
   exact ⟨z, Bx, By, nT, e1, e2, rowCells_own h1 hg (fun r e => (hr r e).2), rowCells_own h2 hg (fun r e => (hr r e).2), h3, h4.kept (cellsIn_walk hg (fun r e => (hr r e).2)), h5⟩)
  ?assign ?body ?done ?stop
 case stop =>
  rintro D c pre W hD hS hf hK
  exact hf.elim
 case done =>
  rintro D xs W hD hS hI hK
  subst hA0
  obtain ⟨hgr, ⟨Mo, hGo, hEo⟩⟩ := hI
  have HGo := Lib.hid hGo
  have HEo := Lib.hid hEo
  have HSS := Lib.hid (told_all hS)
  have rG := (hgr.block G (by omega) (fun e => by have := Option.some.inj e; omega)).trans HRG.out
  obtain ⟨cGG, _⟩ := one_row rG
  have HxW : Hid (Xt w W) := HXW.out.grownB hgr (fun q hq => by cases hq; omega)
  have HK := Lib.hid hK
  clear hGo hEo hS hgr rG hK
  go_wp2_with fail
  refine ⟨by simp, .inl ⟨_, _, rfl, run_takeDeferred HK.out, ?_⟩⟩
  have hxE : Xt w (W.putObj D (.deferred none)) := HxW.out.grownB (grownBy_putObj' W D _) (fun q hq => by cases hq; have := HXW.out.size; omega)
  have hGW : GridIs (W.putObj D (.deferred none)) (R + 1 + 1) (R + 1) Mo :=
   HGo.out.far (P := fun b => b = D) (fun b hb => World.putObj_heap_other hb) (fun b hb o u hu => by subst hb; rw [World.cell?, HK.out] at hu; cases hu) (by omega) (by omega)
  refine ⟨_, results_tmp2 rfl _ _ _, hxE, R + 1 + 1, R + 1, Mo, rfl, hGW, ?_⟩
  rw [HCG.out, HAG.out, ← HSS.out]; exact HEo.out
 case assign =>
  rintro l0 pre x W K hI ⟨V, hIV, ⟨hxV, hsm, nT, hA⟩, hmem⟩ hK
  subst hA0
  obtain ⟨⟨c, d⟩, tc, tp⟩ := x
  obtain ⟨z, hz1, hz2⟩ : ∃ z : CE, z.1 = copyC tc ∧ z.2 = tp := ⟨(copyC tc, tp), rfl, rfl⟩
  have hzv : copyCV tc tp = ceV z := by rw [← ceV_copy]; obtain ⟨z1, z2⟩ := z; simp only at hz1 hz2; rw [hz1, hz2]
  have hzA : smallT z.1.t ∧ ArgsIn W nT (.slice z.2 z.1.t.args.length z.1.t.args.length) z.1.t.args := by
   rw [hz1, hz2]
   refine ⟨smallT_copy _ hsm, ?_⟩
   show ArgsIn _ _ (.slice tp (copyT tc.t).args.length (copyT tc.t).args.length) (copyT tc.t).args
   rw [copyT_len, copyT_args]
   exact hA.args
  have HZ := Lib.hid (show z.1 = copyC tc ∧ z.2 = tp from ⟨hz1, hz2⟩)
  have HZA := Lib.hid hzA
  simp only [teV, hzv]
  clear hz1 hz2 hzv hzA hA hsm hIV hxV
  obtain ⟨wA, hwA, hbA, hsA, kA0, kA1⟩ := box1 W c d 24
  obtain ⟨wZ, wR, hwZ, hwR, hrZ, hrR, hxR, hsR, hxZ, hsZ⟩ := boxR wA z
  rw [hsA] at hrZ hwR hrR
  have hrA : wA.heap[W.heap.size]? = some (.cells #[.int .i64 c, .int .i64 d] 24 (0, 0)) := by rw [← hwA]; exact World.alloc_heap_new W _
  have hxWR := Lib.hid (Xt.trans hbA hxR)
  have HRA := Lib.hid ((hxR.block _ (by omega)).trans hrA)
  have HRZ := Lib.hid hrZ
  have HRR := Lib.hid hrR
  have HWR := Lib.hid hwR
  clear hrZ hwR hrR hrA kA0 kA1 hbA hxZ hxR
  gi_wp2_with (first | (refine wpListIn_store_row (P := Tryz.prog) rfl 51 _ _ rfl (W.heap.size + 1) #[.int .i64 z.1.kind, .int .i64 z.1.v.kind, .float .f64 z.1.v.x, .string z.1.v.s, .bool z.1.v.b, .int .i64 z.1.v.f, .int .i64 z.1.t.kind, .int .i64 z.1.t.op, .float .f64 z.1.t.x, .string z.1.t.s, .bool z.1.t.b, .int .i64 z.1.t.f, .int .i64 z.1.t.ref.a.1, .int .i64 z.1.t.ref.a.2, .bool z.1.t.ref.cf, .bool z.1.t.ref.rf, .int .i64 z.1.t.to.a.1, .int .i64 z.1.t.to.a.2, .bool z.1.t.to.cf, .bool z.1.t.to.rf, .slice z.2 z.1.t.args.length z.1.t.args.length] rfl rfl 51 _ HRZ.out (by kernel_rfl) rfl (by simp [Value.oneCell']) ?_; rw [HWR.out]))
  have hx := hxWR.out
  refine hK _ _ (keepsFrom_xt hx _) ⟨hx.mono (by have := hI.grown.size; have := HXW.out.size; omega), KeepsT.of_xt hx⟩ (hI.xt hx) ?_
  refine ⟨z, W.heap.size, W.heap.size + 1, nT, HZ.out.1, HZ.out.2, HRA.out, HRR.out, HZA.out.1, HZA.out.2.xt hx, hmem, ?_⟩
  simp only [List.setIfInBounds_toArray, List.set_cons_zero, List.set_cons_succ]
 case body =>
  rintro l0 pre x a' W hl0 ⟨r, hr⟩ hI ⟨z, Bx, By, nT, hz1, hz2, hBx, hBy, hzs, hzA, hmem, rfl⟩ hlt
  subst hA0
  obtain ⟨⟨c, d⟩, tc, tp⟩ := x
  simp only at hBx hz1 hz2
  obtain ⟨hgr, ⟨Mo, hGo, hEo⟩⟩ := hI
  have HGo := Lib.hid hGo
  have HEo := Lib.hid hEo
  have HGr := Lib.hid hgr
  have hgs := hgr.size
  have rG := (hgr.block G (by omega) (fun e => by have := Option.some.inj e; omega)).trans HRG.out
  have rR := (hgr.block R (by omega) (fun e => by have := Option.some.inj e; omega)).trans HRRW.out
  have HMVW : Hid (MvAt W B (C + 1 + 1) P2 C (C + 1) f gl cc rr) := HMV.out.kept (m := R) (fun b hb => hgr.block b (by omega) (fun e => by have := Option.some.inj e; omega)) HPL.out
  obtain ⟨x0, x1, _, _⟩ := cells2 hBx
  obtain ⟨⟨y0, y1, y2, y3⟩, _⟩ := cells4 HMVW.out.rf
  have HBX := Lib.hid hBx
  have HBY := Lib.hid hBy
  have HRGW := Lib.hid rG
  have HRRW2 := Lib.hid rR
  have HXWW : Hid (Xt w W) := HXW.out.grownB hgr (fun q hq => by have := Option.some.inj hq; omega)
  have HZA := Lib.hid (show smallT z.1.t ∧ ArgsIn W nT (.slice z.2 z.1.t.args.length z.1.t.args.length) z.1.t.args from ⟨hzs, hzA⟩)
  have hnm : ∀ k u, W.cell? ⟨k, 0, none⟩ = some u → k ≠ R + 1 := by
   rintro k u hk rfl
   obtain ⟨E, hm, _⟩ := HGo.out.map
   have h1 := hm.nocell 0
   rw [hk] at h1
   cases h1
  have hBm : By ≠ R + 1 := hnm By (.int .i64 z.1.kind) (by simp [World.cell?, hBy])
  have hBxm : Bx ≠ R + 1 := hnm Bx _ x0
  obtain ⟨v1, v2, v3, v4, v5⟩ := HO.out.each _ hmem
  have HVZ : Hid (gvalidB z.1 = true) := by unfold Hid; rw [hz1, gvalidB_copy]; exact v2
  have HOZ : Hid z.1.ok := by unfold Hid; rw [hz1]; exact okC_copy v5
  have HZC : Hid (copyC tc = z.1) := hz1.symm
  have HC1 := Lib.hid (in_any f.a f.b f.c f.d c d W)
  obtain ⟨vf, hvf⟩ : ∃ v, inA f (c, d) = v := ⟨_, rfl⟩
  rw [show inB f.a f.b f.c f.d c d = vf from hvf] at HC1
  obtain ⟨vg, hvg⟩ : ∃ v, inA gl (c, d) = v := ⟨_, rfl⟩
  have hq1 : cG (c, d) = if vf = true then (movG cc rr (c, d), true) else ((c, d), !vg) := by rw [← HCG.out, ← hvf, ← hvg]; rfl
  have HQ := Lib.hid hq1
  have HC2 := Lib.hid (fun V => in_any gl.a gl.b gl.c gl.d c d V)
  rw [show inB gl.a gl.b gl.c gl.d c d = vg from hvg] at HC2
  have hf29 : Fence.wide.fn 16 := trivial
  have hm1 : True := trivial
  clear v1 v2 v3 v4 v5 hmem hq1 hvf hvg
  clear hGo hEo hgr rG rR hBx hBy hz1 hz2 hzs hzA hr hlt hnm
  simp only [List.setIfInBounds_toArray, List.set_cons_zero, List.set_cons_succ]
  have HPOST : Hid (∀ (az : Act) (w8 : World) (zz : Option Addr) (q : Ad), cG (c, d) = (q, true) → GridIs w8 (R + 1 + 1) (R + 1) (putTo Mo q (contG cG aG z.1) zz) → W.grownBy w8 (some (R + 1)) → ownPostG (G + 3) (fun W W' => Below B W W' ∧ KeepsT (fun x => x == 2 * (R + 1) + 1) W W') (fun pre W => MI W0 (R + 1 + 1) (R + 1) cG aG pre W) (fun c pre W => False) (pre ++ [((c, d), tc, tp)]) W .normal az w8) := Lib.hid fun az w8 zz q hqq hG8 hgW => by
   refine ⟨⟨hgW.size, fun k o hB hk _ => (hgW.block k (Array.getElem?_eq_some_iff.1 hk).1 (fun e => by have := Option.some.inj e; omega)).trans hk⟩, ⟨⟨hgW.os, hgW.tape, hgW.output, hgW.size, fun k hk => hgW.block k (by omega) (fun e => by have := Option.some.inj e; omega)⟩, KeepsT.of_grown hgW (fun j o e ho => ?_)⟩, ⟨grownBy_two HGr.out hgW, ⟨_, hG8, ?_⟩⟩⟩
   · obtain ⟨E, hm, _⟩ := HGo.out.map
     obtain ⟨es, clk, h1, _⟩ := hm
     have e1 := Option.some.inj e
     rw [← e1, h1] at ho
     cases ho
     simp [keptO, ← e1]
   · rw [er_put, List.map_append, List.map_cons, List.map_nil, goAll_snoc, HEo.out]
     simp [tpT, goStep, hqq, HZC.out]
  cases vf
  · cases vg
    · gi_wp2_with (first
       | (gi_at_call 16; have hm0 := hm1; clear hm1 hm0; refine (callsIn_round HC1.out).mono ?_; rintro e w5 ⟨rfl, hg5⟩; have HX5 : Hid (Xt W w5) := hg5.xt; obtain ⟨e0, e1, _, _⟩ := cells2 (rowX HX5.out HBX.out); obtain ⟨⟨g0, g1, g2, g3⟩, _⟩ := cells4 (HMVW.out.xt HX5.out).rg; clear hg5)
       | (gi_at_call 16; refine (callsIn_round (HC2.out _)).mono ?_; rintro e w6 ⟨rfl, hg6⟩; have HX6 : Hid (Xt W w6) := HX5.out.trans hg6.xt; clear hg6))
      have hqq : cG (c, d) = ((c, d), true) := HQ.out
      have HF : Hid (∀ V, w6.grownBy V (some (R + 1)) → V.cell? ⟨G, 0, none⟩ = some (.pointer (some ⟨R + 1 + 1, 0, none⟩)) ∧ V.cell? ⟨Bx, 0, none⟩ = some (.int .i64 c) ∧ V.cell? ⟨Bx, 1, none⟩ = some (.int .i64 d) ∧ V.cell? ⟨R, 0, none⟩ = some (.func (.func 44) #[] #[.pointer (some ⟨B, 0, none⟩), .pointer (some ⟨C + 1 + 1, 0, none⟩), .pointer (some ⟨P2, 0, none⟩)]) ∧ V.cell? ⟨R, 1, none⟩ = some (.func (.func 45) #[] #[.pointer (some ⟨B, 0, none⟩), .pointer (some ⟨C + 1 + 1, 0, none⟩), .pointer (some ⟨P2, 0, none⟩)]) ∧ V.cell? ⟨C + 1 + 1, 0, none⟩ = some (.func (.func 43) #[] #[.pointer (some ⟨C, 0, none⟩), .pointer (some ⟨C + 1, 0, none⟩)]) ∧ V.heap[By]? = some (.cells #[.int .i64 z.1.kind, .int .i64 z.1.v.kind, .float .f64 z.1.v.x, .string z.1.v.s, .bool z.1.v.b, .int .i64 z.1.v.f, .int .i64 z.1.t.kind, .int .i64 z.1.t.op, .float .f64 z.1.t.x, .string z.1.t.s, .bool z.1.t.b, .int .i64 z.1.t.f, .int .i64 z.1.t.ref.a.1, .int .i64 z.1.t.ref.a.2, .bool z.1.t.ref.cf, .bool z.1.t.ref.rf, .int .i64 z.1.t.to.a.1, .int .i64 z.1.t.to.a.2, .bool z.1.t.to.cf, .bool z.1.t.to.rf, .slice z.2 z.1.t.args.length z.1.t.args.length] 51 (0, 0))) := Lib.hid fun V hV => by
       have k : ∀ b, b ≠ R + 1 → ∀ o u, w6.cell? ⟨b, o, none⟩ = some u → V.cell? ⟨b, o, none⟩ = some u := fun b hb o u hu => (World.cell?_of_block (w := w6) (a := ⟨b, o, none⟩) (hV.block b (World.block_lt_of_cell? w6 _ hu) (fun e => hb (by have := Option.some.inj e; omega)))).trans hu
       obtain ⟨y0', y1', _, _⟩ := cells2 (rowX HX6.out HRRW2.out)
       obtain ⟨n0, n1, _, _⟩ := cells2 (rowX HX6.out HBX.out)
       have hb6 := rowX HX6.out HBY.out
       exact ⟨k G (by omega) 0 _ (one_row (rowX HX6.out HRGW.out)).1, k _ hBxm 0 _ n0, k _ hBxm 1 _ n1, k R (by omega) 0 _ y0', k R (by omega) 1 _ y1', k _ (by omega) 0 _ (HMVW.out.xt HX6.out).rm, (hV.block By (Array.getElem?_eq_some_iff.1 hb6).1 (fun e => hBm (by have := Option.some.inj e; omega))).trans hb6⟩
      have HXB : Hid (Xt W w6.drew) := HX6.out.trans (Xt.refl w6).drew
      have HCT := Lib.hid (content_any (mv_road (m := R) B (C + 1 + 1) P2 C (C + 1) f gl cc rr HPL.out) nT z.1 z.2 z.1.t.args.length w6.drew ⟨HMVW.out.xt (HX6.out.trans ((Xt.refl w6).drew)), by have := HX6.out.size; have := (((Xt.refl w6).drew)).size; omega⟩ HZA.out.1 (HZA.out.2.xt (HX6.out.trans ((Xt.refl w6).drew))) (gvalid_okAs HVZ.out))
      rw [HCG.out, HAG.out] at HCT
      clear x0 x1 y0 y1 y2 y3 e0 e1 g0 g1 g2 g3
      refine region_round (S := fun V => w6.grownBy V (some (R + 1))) (by kernel_rfl) (by kernel_rfl) (fun _ _ h => h) (⟨rfl, rfl, rfl, Nat.le_refl _, fun _ _ _ => rfl⟩ : w6.grownBy w6.drew _) (fun hHeld => ?_)
      refine tkH 0 ?_ ?_ ?_
      rotate_left
      · intro V hSw; obtain ⟨u0, u1, u2, u3, u4, u5, u6⟩ := HF.out V hSw; clear u6; go_simp; first | done | with_reducible rfl
      try simp only [Act.put, nm]
      refine tkH 1 ?_ ?_ ?_
      rotate_left
      · intro V hSw; obtain ⟨u0, u1, u2, u3, u4, u5, u6⟩ := HF.out V hSw; clear u6; go_simp; first | done | with_reducible rfl
      try simp only [Act.put, nm]
      refine tkH 2 ?_ ?_ ?_
      rotate_left
      · intro V hSw; obtain ⟨u0, u1, u2, u3, u4, u5, u6⟩ := HF.out V hSw; clear u6; go_simp; first | done | with_reducible rfl
      try simp only [Act.put, nm]
      refine tkH 3 (.agg #[.int .i64 z.1.kind, .int .i64 z.1.v.kind, .float .f64 z.1.v.x, .string z.1.v.s, .bool z.1.v.b, .int .i64 z.1.v.f, .int .i64 z.1.t.kind, .int .i64 z.1.t.op, .float .f64 z.1.t.x, .string z.1.t.s, .bool z.1.t.b, .int .i64 z.1.t.f, .int .i64 z.1.t.ref.a.1, .int .i64 z.1.t.ref.a.2, .bool z.1.t.ref.cf, .bool z.1.t.ref.rf, .int .i64 z.1.t.to.a.1, .int .i64 z.1.t.to.a.2, .bool z.1.t.to.cf, .bool z.1.t.to.rf, .slice z.2 z.1.t.args.length z.1.t.args.length]) ?_ ?_
      · intro V hSw; exact exec_load_row 51 _ (by rfl) By (by rfl) 51 _ _ _ (HF.out V hSw).2.2.2.2.2.2 Tryz.underlying51 rfl (by kernel_rfl)
      try simp only [Act.put, nm]
      have hHeldB := hHeld
      refine rdH 4 (fun K hK => ?_)
      go_simp
      refine (HCT.out).mono ?_
      rintro e w7 ⟨a2, c2, rfl, hA7, hx7⟩
      have HX7 : Hid (Xt W w7) := HXB.out.trans hx7
      have HP := Lib.hid (gput_any nT (R + 1 + 1) (R + 1) Mo (c, d) (contG cG aG z.1) a2 c2 w7 (HGo.out.xt HX7.out) (contG_ok HOZ.out) (HT.out.xt (HXWW.out.trans HX7.out)) (contG_small HZA.out.1) hA7)
      refine hK.out _ _ (grownBy_two hHeldB (hx7.grown (some (R + 1)))) (fun hHeld2 => ?_)
      clear hK K hA7 hx7
      try simp only [Act.put, nm]
      refine rdH 5 (fun K hK => ?_)
      go_simp
      refine (HP.out).mono ?_
      rintro e w8 ⟨zz, rfl, hG8, hg8⟩
      refine hK.out _ _ (grownBy_two hHeld2 hg8) (fun hHeld3 => ?_)
      clear hK K
      refine wpAnyH_done (by kernel_rfl) ?_ _
      have hgW : W.grownBy w8 (some (R + 1)) := grownBy_two (HX7.out.grown (some (R + 1))) hg8
      clear hHeld hHeldB hHeld2 hHeld3
      gi_wp2_with fail
      exact HPOST.out _ w8 zz _ hqq hG8 hgW
    · gi_wp2_with (first
       | (gi_at_call 16; have hm0 := hm1; clear hm1 hm0; refine (callsIn_round HC1.out).mono ?_; rintro e w5 ⟨rfl, hg5⟩; have HX5 : Hid (Xt W w5) := hg5.xt; obtain ⟨e0, e1, _, _⟩ := cells2 (rowX HX5.out HBX.out); obtain ⟨⟨g0, g1, g2, g3⟩, _⟩ := cells4 (HMVW.out.xt HX5.out).rg; clear hg5)
       | (gi_at_call 16; refine (callsIn_round (HC2.out _)).mono ?_; rintro e w6 ⟨rfl, hg6⟩; have HX6 : Hid (Xt W w6) := HX5.out.trans hg6.xt; clear hg6))
      have hqq : cG (c, d) = ((c, d), false) := HQ.out
      have hx6 := HX6.out
      refine ⟨keepsFrom_xt hx6 _, ⟨hx6.mono (by omega), KeepsT.of_xt hx6⟩, ?_⟩
      refine ⟨grownBy_far HGr.out hx6.grownN (fun r e => by cases e), ⟨Mo, HGo.out.xt hx6, ?_⟩⟩
      rw [List.map_append, List.map_cons, List.map_nil, goAll_snoc, HEo.out]
      simp [tpT, goStep, hqq]
  · gi_wp2_with (first
     | (gi_at_call 16; refine (callsIn_round HC1.out).mono ?_; rintro e w6 ⟨rfl, hg6⟩; have HX6 : Hid (Xt W w6) := hg6.xt; clear hg6))
    have hqq : cG (c, d) = (movG cc rr (c, d), true) := HQ.out
    have HF : Hid (∀ V, w6.grownBy V (some (R + 1)) → V.cell? ⟨G, 0, none⟩ = some (.pointer (some ⟨R + 1 + 1, 0, none⟩)) ∧ V.cell? ⟨Bx, 0, none⟩ = some (.int .i64 c) ∧ V.cell? ⟨Bx, 1, none⟩ = some (.int .i64 d) ∧ V.cell? ⟨R, 0, none⟩ = some (.func (.func 44) #[] #[.pointer (some ⟨B, 0, none⟩), .pointer (some ⟨C + 1 + 1, 0, none⟩), .pointer (some ⟨P2, 0, none⟩)]) ∧ V.cell? ⟨R, 1, none⟩ = some (.func (.func 45) #[] #[.pointer (some ⟨B, 0, none⟩), .pointer (some ⟨C + 1 + 1, 0, none⟩), .pointer (some ⟨P2, 0, none⟩)]) ∧ V.cell? ⟨C + 1 + 1, 0, none⟩ = some (.func (.func 43) #[] #[.pointer (some ⟨C, 0, none⟩), .pointer (some ⟨C + 1, 0, none⟩)]) ∧ V.heap[By]? = some (.cells #[.int .i64 z.1.kind, .int .i64 z.1.v.kind, .float .f64 z.1.v.x, .string z.1.v.s, .bool z.1.v.b, .int .i64 z.1.v.f, .int .i64 z.1.t.kind, .int .i64 z.1.t.op, .float .f64 z.1.t.x, .string z.1.t.s, .bool z.1.t.b, .int .i64 z.1.t.f, .int .i64 z.1.t.ref.a.1, .int .i64 z.1.t.ref.a.2, .bool z.1.t.ref.cf, .bool z.1.t.ref.rf, .int .i64 z.1.t.to.a.1, .int .i64 z.1.t.to.a.2, .bool z.1.t.to.cf, .bool z.1.t.to.rf, .slice z.2 z.1.t.args.length z.1.t.args.length] 51 (0, 0))) := Lib.hid fun V hV => by
     have k : ∀ b, b ≠ R + 1 → ∀ o u, w6.cell? ⟨b, o, none⟩ = some u → V.cell? ⟨b, o, none⟩ = some u := fun b hb o u hu => (World.cell?_of_block (w := w6) (a := ⟨b, o, none⟩) (hV.block b (World.block_lt_of_cell? w6 _ hu) (fun e => hb (by have := Option.some.inj e; omega)))).trans hu
     obtain ⟨y0', y1', _, _⟩ := cells2 (rowX HX6.out HRRW2.out)
     obtain ⟨n0, n1, _, _⟩ := cells2 (rowX HX6.out HBX.out)
     have hb6 := rowX HX6.out HBY.out
     exact ⟨k G (by omega) 0 _ (one_row (rowX HX6.out HRGW.out)).1, k _ hBxm 0 _ n0, k _ hBxm 1 _ n1, k R (by omega) 0 _ y0', k R (by omega) 1 _ y1', k _ (by omega) 0 _ (HMVW.out.xt HX6.out).rm, (hV.block By (Array.getElem?_eq_some_iff.1 hb6).1 (fun e => hBm (by have := Option.some.inj e; omega))).trans hb6⟩
    have HMV1 := Lib.hid (moved1_any (c, d) C (C + 1) cc rr w6.drew ((HMVW.out.xt HX6.out).xt (Xt.refl w6).drew).rc ((HMVW.out.xt HX6.out).xt (Xt.refl w6).drew).rr)
    clear x0 x1 y0 y1 y2 y3
    refine region_round (S := fun V => w6.grownBy V (some (R + 1))) (by kernel_rfl) (by kernel_rfl) (fun _ _ h => h) (⟨rfl, rfl, rfl, Nat.le_refl _, fun _ _ _ => rfl⟩ : w6.grownBy w6.drew _) (fun hHeld => ?_)
    refine tkH 0 ?_ ?_ ?_
    rotate_left
    · intro V hSw; obtain ⟨u0, u1, u2, u3, u4, u5, u6⟩ := HF.out V hSw; clear u6; go_simp; first | done | with_reducible rfl
    try simp only [Act.put, nm]
    refine tkH 1 ?_ ?_ ?_
    rotate_left
    · intro V hSw; obtain ⟨u0, u1, u2, u3, u4, u5, u6⟩ := HF.out V hSw; clear u6; go_simp; first | done | with_reducible rfl
    try simp only [Act.put, nm]
    refine tkH 2 ?_ ?_ ?_
    rotate_left
    · intro V hSw; obtain ⟨u0, u1, u2, u3, u4, u5, u6⟩ := HF.out V hSw; clear u6; go_simp; first | done | with_reducible rfl
    try simp only [Act.put, nm]
    refine tkH 4 ?_ ?_ ?_
    rotate_left
    · intro V hSw; obtain ⟨u0, u1, u2, u3, u4, u5, u6⟩ := HF.out V hSw; clear u6; go_simp; first | done | with_reducible rfl
    try simp only [Act.put, nm]
    refine tkH 5 (.agg #[.int .i64 z.1.kind, .int .i64 z.1.v.kind, .float .f64 z.1.v.x, .string z.1.v.s, .bool z.1.v.b, .int .i64 z.1.v.f, .int .i64 z.1.t.kind, .int .i64 z.1.t.op, .float .f64 z.1.t.x, .string z.1.t.s, .bool z.1.t.b, .int .i64 z.1.t.f, .int .i64 z.1.t.ref.a.1, .int .i64 z.1.t.ref.a.2, .bool z.1.t.ref.cf, .bool z.1.t.ref.rf, .int .i64 z.1.t.to.a.1, .int .i64 z.1.t.to.a.2, .bool z.1.t.to.cf, .bool z.1.t.to.rf, .slice z.2 z.1.t.args.length z.1.t.args.length]) ?_ ?_
    · intro V hSw; exact exec_load_row 51 _ (by rfl) By (by rfl) 51 _ _ _ (HF.out V hSw).2.2.2.2.2.2 Tryz.underlying51 rfl (by kernel_rfl)
    try simp only [Act.put, nm]
    refine rdH 3 (fun K hK => ?_)
    go_simp
    refine (HMV1.out).mono ?_
    rintro e w9 ⟨rfl, hx9⟩
    have HXB : Hid (Xt W w9) := (HX6.out.trans (Xt.refl w6).drew).trans hx9
    have hx69 : Xt w6 w9 := (Xt.refl w6).drew.trans hx9
    have HCT := Lib.hid (content_any (mv_road (m := R) B (C + 1 + 1) P2 C (C + 1) f gl cc rr HPL.out) nT z.1 z.2 z.1.t.args.length w9 ⟨HMVW.out.xt (HX6.out.trans hx69), by have := HX6.out.size; have := (hx69).size; omega⟩ HZA.out.1 (HZA.out.2.xt (HX6.out.trans hx69)) (gvalid_okAs HVZ.out))
    rw [HCG.out, HAG.out] at HCT
    refine hK.out _ _ (hx69.grown (some (R + 1))) (fun hHeldB => ?_)
    clear hK K hx9
    try simp only [Act.put, nm]
    refine rdH 6 (fun K hK => ?_)
    go_simp
    refine (HCT.out).mono ?_
    rintro e w7 ⟨a2, c2, rfl, hA7, hx7⟩
    have HX7 : Hid (Xt W w7) := HXB.out.trans hx7
    have HP := Lib.hid (gput_any nT (R + 1 + 1) (R + 1) Mo (movG cc rr (c, d)) (contG cG aG z.1) a2 c2 w7 (HGo.out.xt HX7.out) (contG_ok HOZ.out) (HT.out.xt (HXWW.out.trans HX7.out)) (contG_small HZA.out.1) hA7)
    refine hK.out _ _ (grownBy_two hHeldB (hx7.grown (some (R + 1)))) (fun hHeld2 => ?_)
    clear hK K hA7 hx7
    try simp only [Act.put, nm]
    refine rdH 7 (fun K hK => ?_)
    go_simp
    refine (HP.out).mono ?_
    rintro e w8 ⟨zz, rfl, hG8, hg8⟩
    refine hK.out _ _ (grownBy_two hHeld2 hg8) (fun hHeld3 => ?_)
    clear hK K
    refine wpAnyH_done (by kernel_rfl) ?_ _
    have hgW : W.grownBy w8 (some (R + 1)) := grownBy_two (HX7.out.grown (some (R + 1))) hg8
    clear hHeld hHeldB hHeld2 hHeld3
    gi_wp2_with fail
    exact HPOST.out _ w8 zz _ hqq hG8 hgW
end Go.Proofs.YtdoeejhdenifpaaGreatDoor
/- A loop over an iterator that writes rows of its own between its rounds. -/
namespace Go.Proofs.YtdoeejhdenifpaaGreatDoor
open Go.RowKit
def FarFrom {β : Type} (B : Nat) (J : β → World → Prop) : Prop := ∀ s W W', J s W → Below B W W' → J s W'
section
variable {α : Type} {n : Nat} {P : Program}
theorem FarFrom.alloc {β : Type} {B : Nat} {J : β → World → Prop} (h : FarFrom B J) {s : β} {W : World} (o : Obj) (hs : J s W) (hB : B ≤ W.heap.size) : J s (W.alloc o) := h s W _ hs ((Below.refl _ _).alloc hB o)
theorem FarFrom.putObj {β : Type} {B : Nat} {J : β → World → Prop} (h : FarFrom B J) {s : β} {W : World} {l : Nat} (o' : Obj) (hs : J s W) (hl : B ≤ l) : J s (W.putObj l o') :=
 h s W _ hs ⟨(grownBy_putObj' W l o').os, (grownBy_putObj' W l o').tape, (grownBy_putObj' W l o').output, (grownBy_putObj' W l o').size, fun k hk => World.putObj_heap_other (by omega)⟩
theorem Books.far {D : Nat} {L : Loop} {W W' : World} (h : Books D L W) (hb : Below (D + 2) W W') : Books D L W' := ⟨(hb.block _ (by omega)).trans h.loop, (hb.block _ (by omega)).trans h.late⟩
end
end Go.Proofs.YtdoeejhdenifpaaGreatDoor
/- addr.Cells' iterator: it tells cells of the area. -/
namespace Go.Proofs.YtdoeejhdenifpaaGreatDoor
open Go.RowKit Go.Sort Go.Maps Go.Shelf
attribute [local go_sem] Oper.semAt_some
structure KC (W W' : World) : Prop where
 size : W.heap.size ≤ W'.heap.size
 same : ∀ (k : Nat) (o : Obj), W.heap[k]? = some o → o.isCells = true → W'.heap[k]? = some o
theorem KC.refl (W : World) : KC W W := ⟨Nat.le_refl _, fun _ _ h _ => h⟩
theorem KC.trans {A B C : World} (h : KC A B) (k : KC B C) : KC A C := ⟨Nat.le_trans h.size k.size, fun b o e ho => k.same b o (h.same b o e ho) ho⟩
theorem KC.of_xt {W W' : World} (h : Xt W W') : KC W W' := ⟨h.size, fun k _ e _ => (h.block k (Array.getElem?_eq_some_iff.1 e).1).trans e⟩
theorem KC.putObj {W : World} {l : Nat} {o : Obj} (o' : Obj) (ho : W.heap[l]? = some o) (hc : o.isCells = false) : KC W (W.putObj l o') :=
 ⟨(grownBy_putObj' W l o').size, fun k ok hk hok => ((grownBy_putObj' W l o').block k (Array.getElem?_eq_some_iff.1 hk).1 (fun e => by have := Option.some.inj e; subst this; rw [ho] at hk; cases hk; rw [hc] at hok; cases hok)).trans hk⟩
def atOf (w : World) : Value → Ad
 | .pointer (some p) => (intOf ((w.cell? ⟨p.block, 0, none⟩).getD undef), intOf ((w.cell? ⟨p.block, 1, none⟩).getD undef))
 | _ => (0, 0)
theorem atOf_row {w : World} {k : Nat} {x y : Int} {T : TypeId} (h : w.heap[k]? = some (.cells #[.int .i64 x, .int .i64 y] T (0, 0))) : atOf w (.pointer (some ⟨k, 0, none⟩)) = (x, y) := by
 simp [atOf, World.cell?, h, intOf]
def leftN (f : ArT) (a : Ad) : Nat := ((f.d - a.2) * (f.c - f.a + 1) + (f.c - a.1)).toNat + 1
theorem inA_le {f : ArT} {a : Ad} (h : inA f a = true) : validA f.a f.b f.c f.d = true ∧ f.a ≤ a.1 ∧ a.1 ≤ f.c ∧ f.b ≤ a.2 ∧ a.2 ≤ f.d := by
 unfold inA inB at h
 simp only [Bool.and_eq_true, decide_eq_true_eq] at h
 exact ⟨h.1.1.1.1, h.1.1.1.2, h.1.1.2, h.1.2, h.2⟩
theorem inA_of {f : ArT} {a : Ad} (hv : validA f.a f.b f.c f.d = true) (h : f.a ≤ a.1 ∧ a.1 ≤ f.c ∧ f.b ≤ a.2 ∧ a.2 ≤ f.d) : inA f a = true := by
 unfold inA inB
 simp only [Bool.and_eq_true, decide_eq_true_eq]
 exact ⟨⟨⟨⟨hv, h.1⟩, h.2.1⟩, h.2.2.1⟩, h.2.2.2⟩
theorem left_one {f : ArT} {x y : Int} (h : inA f (x, y) = true) (hx : x < f.c) : leftN f (x + 1, y) + 1 = leftN f (x, y) := by
 obtain ⟨_, h1, h2, h3, h4⟩ := inA_le h
 unfold leftN
 have hp : 0 ≤ (f.d - y) * (f.c - f.a + 1) := Int.mul_nonneg (by simp only at h4; omega) (by simp only at h1 h2; omega)
 obtain ⟨p, hpe⟩ : ∃ p, (f.d - y) * (f.c - f.a + 1) = p := ⟨_, rfl⟩
 simp only
 rw [hpe] at hp ⊢
 omega
theorem left_row {f : ArT} {x y : Int} (h : inA f (x, y) = true) (hx : x = f.c) (hy : y < f.d) : leftN f (f.a, y + 1) + 1 = leftN f (x, y) := by
 obtain ⟨_, h1, h2, h3, h4⟩ := inA_le h
 unfold leftN
 simp only at h1 h2 h3 h4 ⊢
 have hp : 0 ≤ (f.d - (y + 1)) * (f.c - f.a + 1) := Int.mul_nonneg (by omega) (by omega)
 have e : (f.d - y) * (f.c - f.a + 1) = (f.d - (y + 1)) * (f.c - f.a + 1) + (f.c - f.a + 1) := by
  have : f.d - y = (f.d - (y + 1)) + 1 := by omega
  rw [this, Int.add_mul, Int.one_mul]
 rw [e]
 obtain ⟨p, hpe⟩ : ∃ p, (f.d - (y + 1)) * (f.c - f.a + 1) = p := ⟨_, rfl⟩
 rw [hpe] at hp ⊢
 omega
theorem left_pos (f : ArT) (a : Ad) : 0 < leftN f a := Nat.succ_pos _
theorem validA_le {a b c d : Int} (h : validA a b c d = true) : 1 ≤ a ∧ a ≤ c ∧ c ≤ 256 ∧ 1 ≤ b ∧ b ≤ d ∧ d ≤ 4096 := by
 unfold validA at h
 simp only [Bool.and_eq_true, decide_eq_true_eq] at h
 have h1 := validB_le h.1.1.1
 have h2 := validB_le h.1.1.2
 omega
def restL (f : ArT) : Nat → Int → Int → List Ad
 | 0, _, _ => []
 | n + 1, x, y => (x, y) :: (if x = f.c ∧ y = f.d then [] else if x < f.c then restL f n (x + 1) y else restL f n f.a (y + 1))
def cellsL (f : ArT) : List Ad := restL f (leftN f (f.a, f.b)) f.a f.b
theorem rest_end (f : ArT) : restL f (leftN f (f.c, f.d)) f.c f.d = [(f.c, f.d)] := by
 unfold leftN
 simp only [Int.sub_self, Int.zero_mul, Int.add_zero, Int.toNat_zero]
 rw [restL, if_pos ⟨rfl, rfl⟩]
theorem rest_row {f : ArT} {y : Int} (h : inA f (f.c, y) = true) (hy : y < f.d) : restL f (leftN f (f.c, y)) f.c y = (f.c, y) :: restL f (leftN f (f.a, y + 1)) f.a (y + 1) := by
 rw [← left_row h rfl hy, restL, if_neg (by omega), if_neg (by omega)]
theorem rest_one {f : ArT} {x y : Int} (h : inA f (x, y) = true) (hx : x < f.c) : restL f (leftN f (x, y)) x y = (x, y) :: restL f (leftN f (x + 1, y)) (x + 1) y := by
 rw [← left_one h hx, restL, if_neg (by omega), if_pos hx]
theorem pre_of {pre l k : List Ad} {z : Ad} (h : pre ++ z :: l = k) : pre ++ [z] <+: k := ⟨l, by rw [← h]; simp⟩
abbrev encA (x : Ad) : Array Value := #[adW x]
end Go.Proofs.YtdoeejhdenifpaaGreatDoor
/- addr.Meet; quadrillelaw22's cells (made by mkr8.py). -/
namespace Go.Proofs.YtdoeejhdenifpaaGreatDoor
open Go.RowKit Go.Sort Go.MapKept
attribute [local go_sem] Oper.semAt_some
def meetA (f x : ArT) : ArT := ⟨max f.a x.a, max f.b x.b, min f.c x.c, min f.d x.d⟩
def vaA (f : ArT) : Bool := validA f.a f.b f.c f.d
def meetB (f x : ArT) : Bool := vaA f && vaA x && vaA (meetA f x)
end Go.Proofs.YtdoeejhdenifpaaGreatDoor
/- quadrillelaw22's empty: has a grid nothing in an area, and does no formula name one of its cells (made by mkr9.py). -/
namespace Go.Proofs.YtdoeejhdenifpaaGreatDoor
open Go.RowKit Go.Sort Go.Maps Go.Shelf Go.MapKept
attribute [local go_sem] Oper.semAt_some
def hitN (f : ArT) (x : NodeT) : Bool := (decide (x.kind = 5) && inA f x.ref.a) || (decide (x.kind = 6) && meetB f (arOf x.ref x.to))
def hitT (f : ArT) (t : NodeT) : Bool := (flatT t).any (hitN f)
def busyP (f : ArT) (l : PG) : Bool := l.any fun x => inA f x.1 || hitT f x.2.t
end Go.Proofs.YtdoeejhdenifpaaGreatDoor
/- move, plain: MoveThere's law. -/
namespace Go.Proofs.YtdoeejhdenifpaaGreatDoor
open Go.RowKit Go.Sort
structure Mv (f gl : ArT) (cc rr : Int) : Prop where
 x0 : 1 ≤ f.a
 x1 : f.a ≤ f.c
 x2 : f.c ≤ 12
 y0 : 1 ≤ f.b
 y1 : f.b ≤ f.d
 y2 : f.d ≤ 12
 e : gl = ⟨f.a + cc, f.b + rr, f.c + cc, f.d + rr⟩
 u0 : 1 ≤ f.a + cc
 u1 : f.c + cc ≤ 12
 v0 : 1 ≤ f.b + rr
 v1 : f.d + rr ≤ 12
theorem Mv.back {f gl : ArT} {cc rr : Int} (h : Mv f gl cc rr) : Mv gl f (-cc) (-rr) := by
 obtain ⟨x0, x1, x2, y0, y1, y2, e, u0, u1, v0, v1⟩ := h
 subst e
 obtain ⟨a, b, c, d⟩ := f
 simp only at *
 refine ⟨by simp only; omega, by simp only; omega, by simp only; omega, by simp only; omega, by simp only; omega, by simp only; omega, ?_, by simp only; omega, by simp only; omega, by simp only; omega, by simp only; omega⟩
 have e1 : a + cc + -cc = a := by omega
 have e2 : b + rr + -rr = b := by omega
 have e3 : c + cc + -cc = c := by omega
 have e4 : d + rr + -rr = d := by omega
 simp only [e1, e2, e3, e4]
theorem w64 {x : Int} (h0 : -9223372036854775808 ≤ x) (h1 : x ≤ 9223372036854775807) : wrap64 x = x := by unfold wrap64; omega
theorem validB_o2 {a b : Int} (h : 1 ≤ a ∧ a ≤ 256 ∧ 1 ≤ b ∧ b ≤ 4096) : validB a b = true := by
 unfold validB
 simp only [Bool.and_eq_true, decide_eq_true_eq]
 exact ⟨⟨⟨h.1, h.2.1⟩, h.2.2.1⟩, h.2.2.2⟩
theorem vA_o2 {x : ArT} (h : (1 ≤ x.a ∧ x.a ≤ x.c ∧ x.c ≤ 256) ∧ (1 ≤ x.b ∧ x.b ≤ x.d ∧ x.d ≤ 4096)) : vA x = true := by
 unfold vA
 simp only [Bool.and_eq_true, decide_eq_true_eq]
 exact ⟨⟨⟨validB_o2 (by omega), validB_o2 (by omega)⟩, by omega⟩, by omega⟩
theorem Mv.vf {f gl : ArT} {cc rr : Int} (h : Mv f gl cc rr) : vA f = true := vA_o2 (by have := h.x0; have := h.x1; have := h.x2; have := h.y0; have := h.y1; have := h.y2; omega)
theorem Mv.inf {f gl : ArT} {cc rr : Int} (h : Mv f gl cc rr) (a : Ad) : inA f a = true ↔ f.a ≤ a.1 ∧ a.1 ≤ f.c ∧ f.b ≤ a.2 ∧ a.2 ≤ f.d :=
 ⟨fun e => (inA_le e).2, fun e => inA_of h.vf e⟩
theorem Mv.ing {f gl : ArT} {cc rr : Int} (h : Mv f gl cc rr) (a : Ad) : inA gl a = true ↔ f.a + cc ≤ a.1 ∧ a.1 ≤ f.c + cc ∧ f.b + rr ≤ a.2 ∧ a.2 ≤ f.d + rr := by
 have := h.back.inf a
 rw [this, h.e]
theorem Mv.far {f gl : ArT} {cc rr : Int} (h : Mv f gl cc rr) : -12 ≤ cc ∧ cc ≤ 12 ∧ -12 ≤ rr ∧ rr ≤ 12 := by
 have := h.x0; have := h.x1; have := h.x2; have := h.y0; have := h.y1; have := h.y2; have := h.u0; have := h.u1; have := h.v0; have := h.v1; omega
theorem Mv.mov {f gl : ArT} {cc rr : Int} (h : Mv f gl cc rr) {a : Ad} (ha : 1 ≤ a.1 ∧ a.1 ≤ 4096 ∧ 1 ≤ a.2 ∧ a.2 ≤ 4096) : movG cc rr a = (a.1 + cc, a.2 + rr) := by
 have := h.far
 unfold movG
 rw [w64 (by omega) (by omega), w64 (by omega) (by omega)]
theorem Mv.mov_in {f gl : ArT} {cc rr : Int} (h : Mv f gl cc rr) {a : Ad} (ha : inA f a = true) : movG cc rr a = (a.1 + cc, a.2 + rr) ∧ inA gl (a.1 + cc, a.2 + rr) = true := by
 have h1 := (h.inf a).1 ha
 have := h.x0; have := h.x2; have := h.y0; have := h.y2
 exact ⟨h.mov (by omega), (h.ing _).2 (by simp only; omega)⟩
theorem mvC_in {f gl : ArT} {cc rr : Int} {a : Ad} (ha : inA f a = true) : mvC f gl cc rr a = (movG cc rr a, true) := by unfold mvC; rw [if_pos ha]
theorem mvC_out {f gl : ArT} {cc rr : Int} {a : Ad} (ha : ¬ inA f a = true) : mvC f gl cc rr a = (a, !inA gl a) := by unfold mvC; rw [if_neg ha]
theorem Mv.road {f gl : ArT} {cc rr : Int} (h : Mv f gl cc rr) : RoadV (mvC f gl cc rr) (mvA f gl cc rr) := by
 constructor
 · intro a hv ho
   by_cases ha : inA f a = true
   · rw [mvC_in ha, (h.mov_in ha).1]
     have h2 := (h.ing _).1 (h.mov_in ha).2
     simp only at h2 ⊢
     have := h.u0; have := h.u1; have := h.v0; have := h.v1
     exact validB_o2 (by omega)
   · rw [mvC_out ha]; exact hv
 · intro x hv ho
   have v := vA_le hv
   unfold mvA
   by_cases hw : withinA x f = true
   · rw [if_pos hw]
     unfold withinA at hw
     simp only [Bool.and_eq_true] at hw
     obtain ⟨e1, i1⟩ := h.mov_in hw.1
     obtain ⟨e2, i2⟩ := h.mov_in hw.2
     have j1 := (h.ing _).1 i1
     have j2 := (h.ing _).1 i2
     have := h.u0; have := h.u1; have := h.v0; have := h.v1
     simp only [e1, e2] at *
     exact vA_o2 (by simp only; omega)
   · rw [if_neg hw]; exact hv
theorem Mv.inj {f gl : ArT} {cc rr : Int} (h : Mv f gl cc rr) {a b : Ad} (oa : (mvC f gl cc rr a).2 = true) (ob : (mvC f gl cc rr b).2 = true) (he : (mvC f gl cc rr a).1 = (mvC f gl cc rr b).1) : a = b := by
 by_cases ha : inA f a = true
 · by_cases hb : inA f b = true
   · rw [mvC_in ha, mvC_in hb] at he
     simp only [(h.mov_in ha).1, (h.mov_in hb).1, Prod.mk.injEq] at he
     exact Prod.ext (by omega) (by omega)
   · rw [mvC_out hb] at ob he
     rw [mvC_in ha] at he
     simp only [(h.mov_in ha).1] at he
     have := (h.mov_in ha).2
     rw [he] at this
     simp [this] at ob
 · by_cases hb : inA f b = true
   · rw [mvC_out ha] at oa he
     rw [mvC_in hb] at he
     simp only [(h.mov_in hb).1] at he
     have := (h.mov_in hb).2
     rw [← he] at this
     simp [this] at oa
   · rw [mvC_out ha, mvC_out hb] at he
     exact he
theorem goAll_allP (cG : Ad → Ad × Bool) (aG : ArT → ArT × Bool) (l : PG) : goAll cG aG l = allP [] (goP cG aG l) := by
 refine snoc_ind (P := fun l => goAll cG aG l = allP [] (goP cG aG l)) rfl (fun l x ih => ?_) l
 rw [goAll_snoc, ih, goP_snoc]
 unfold goStep
 split
 · rw [allP_snoc]
 · rfl
theorem perm_all : ∀ {l : List (Ad × ContT)}, (∀ x ∈ l, validB x.1.1 x.1.2 = true ∧ gvalidB x.2 = true ∧ (x.2.kind == 0) = false ∧ copyC x.2 = x.2 ∧ x.2.ok) → (l.map (·.1)).Nodup → l.length ≤ 4096 → SortedM (allP [] l) ∧ (allP [] l).Perm l := by
 intro l
 refine snoc_ind (P := fun l => (∀ x ∈ l, validB x.1.1 x.1.2 = true ∧ gvalidB x.2 = true ∧ (x.2.kind == 0) = false ∧ copyC x.2 = x.2 ∧ x.2.ok) → (l.map (·.1)).Nodup → l.length ≤ 4096 → SortedM (allP [] l) ∧ (allP [] l).Perm l) ?_ ?_ l
 · exact fun _ _ _ => ⟨List.Pairwise.nil, List.Perm.refl _⟩
 · intro l x ih hm hn hl
   rw [List.map_append, List.nodup_append] at hn
   obtain ⟨h1, h2⟩ := ih (fun y hy => hm y (List.mem_append_left _ hy)) hn.1 (by simp at hl; omega)
   have hno : lkM x.1 (allP [] l) = none := lkM_none.2 fun y hy e => hn.2.2 y.1 (List.mem_map.2 ⟨y, h2.mem_iff.1 hy, rfl⟩) x.1 (by simp) e
   have hlen : (allP [] l).length < 4096 := by have := h2.length_eq; simp at hl; omega
   obtain ⟨_, hp⟩ := put_new hno hlen (hm x (by simp))
   rw [allP_snoc, hp]
   exact ⟨sorted_setM _ _ h1, (setM_perm hno).trans ((h2.cons x).trans (List.perm_append_singleton x l).symm)⟩
section
variable {f gl : ArT} {cc rr : Int} {g : PG}
theorem Mv.each (h : Mv f gl cc rr) (hg : GOk g) : ∀ x ∈ goP (mvC f gl cc rr) (mvA f gl cc rr) g, validB x.1.1 x.1.2 = true ∧ gvalidB x.2 = true ∧ (x.2.kind == 0) = false ∧ copyC x.2 = x.2 ∧ x.2.ok := by
 intro y hy
 obtain ⟨z, hz, rfl⟩ := List.mem_map.1 hy
 obtain ⟨hz1, hz2⟩ := List.mem_filter.1 hz
 obtain ⟨v1, v2, v3, v4, v5⟩ := hg.each z hz1
 exact ⟨h.road.cell _ v1 hz2, contG_valid h.road v2, by rw [contG_kind]; exact v3, contG_copy _ _ z.2, contG_ok (okC_copy v5)⟩
theorem Mv.perm (h : Mv f gl cc rr) (hg : GOk g) : SortedM (goAll (mvC f gl cc rr) (mvA f gl cc rr) g) ∧ (goAll (mvC f gl cc rr) (mvA f gl cc rr) g).Perm (goP (mvC f gl cc rr) (mvA f gl cc rr) g) := by
 rw [goAll_allP]
 refine perm_all (h.each hg) ?_ ?_
 · unfold goP List.Nodup
   rw [List.map_map, List.pairwise_map, List.pairwise_filter]
   refine hg.sorted.imp_of_mem fun {a b} ha hb hl oa ob e => ?_
   have := h.inj oa ob e
   rw [this, adLt_irrefl] at hl; cases hl
 · have : (goP (mvC f gl cc rr) (mvA f gl cc rr) g).length ≤ g.length := by unfold goP; rw [List.length_map]; exact List.length_filter_le ..
   have := hg.many
   omega
theorem Mv.ok (h : Mv f gl cc rr) (hg : GOk g) : GOk (goAll (mvC f gl cc rr) (mvA f gl cc rr) g) := by
 obtain ⟨h1, h2⟩ := h.perm hg
 refine ⟨h1, ?_, fun x hx => h.each hg x (h2.mem_iff.1 hx)⟩
 have : (goP (mvC f gl cc rr) (mvA f gl cc rr) g).length ≤ g.length := by unfold goP; rw [List.length_map]; exact List.length_filter_le ..
 have := hg.many
 have := h2.length_eq
 omega
theorem lostP_perm {l k : PG} (h : l.Perm k) : lostP l = lostP k := by
 induction h with
 | nil => rfl
 | cons x _ ih => rw [lostP, lostP, ih]
 | swap x y l => rw [lostP, lostP, lostP, lostP]; omega
 | trans _ _ i1 i2 => exact i1.trans i2
theorem Mv.lost (h : Mv f gl cc rr) (hg : GOk g) (hl : (goAll (mvC f gl cc rr) (mvA f gl cc rr) g).length = g.length) : lostP g ≤ lostP (goAll (mvC f gl cc rr) (mvA f gl cc rr) g) := by
 have hp := (h.perm hg).2
 rw [lostP_perm hp]
 have hl2 : (goP (mvC f gl cc rr) (mvA f gl cc rr) g).length = g.length := hp.length_eq.symm.trans hl
 have ha : ∀ x ∈ g, (mvC f gl cc rr x.1).2 = true := by
  unfold goP at hl2
  rw [List.length_map] at hl2
  exact List.filter_eq_self.1 (List.filter_sublist.eq_of_length hl2)
 exact (lostP_goP (fun x hx => ⟨okCt_of hg x hx, ha x hx⟩)).1
theorem busy_not (hb : busyP gl g = false) : ∀ x ∈ g, ¬ inA gl x.1 = true ∧ ∀ y ∈ flatT x.2.t, hitN gl y = false := fun x hx => by
 unfold busyP at hb
 have h1 := List.any_eq_false.1 hb x hx
 simp only [Bool.or_eq_true, not_or] at h1
 refine ⟨h1.1, fun y hy => Bool.eq_false_iff.2 fun e => h1.2 ?_⟩
 exact List.any_eq_true.2 ⟨y, hy, e⟩
theorem Mv.cell_back (h : Mv f gl cc rr) {a : Ad} (hn : ¬ inA gl a = true) : (mvC f gl cc rr a).2 = true ∧ mvC gl f (-cc) (-rr) (mvC f gl cc rr a).1 = (a, true) := by
 by_cases ha : inA f a = true
 · rw [mvC_in ha, (h.mov_in ha).1]
   refine ⟨rfl, ?_⟩
   have hi := (h.mov_in ha).2
   rw [mvC_in hi, (h.back.mov_in hi).1]
   refine Prod.ext (Prod.ext ?_ ?_) rfl <;> (simp only; omega)
 · rw [mvC_out ha]
   refine ⟨by simp [hn], ?_⟩
   rw [mvC_out hn]
   simp [ha]
theorem within_meet {f x : ArT} (hv : vA x = true) (hw : withinA x f = true) : meetB f x = true := by
 unfold withinA at hw
 simp only [Bool.and_eq_true] at hw
 obtain ⟨vf, a1, a2, a3, a4⟩ := inA_le hw.1
 obtain ⟨_, b1, b2, b3, b4⟩ := inA_le hw.2
 simp only at a1 a2 a3 a4 b1 b2 b3 b4
 have e : meetA f x = x := by
  unfold meetA
  rw [Int.max_eq_right a1, Int.max_eq_right a3, Int.min_eq_right b2, Int.min_eq_right b4]
 unfold meetB
 rw [e, show vaA f = true from vf, show vaA x = true from hv]; rfl
theorem Mv.area_back (h : Mv f gl cc rr) {x : ArT} (hv : vA x = true) (hn : meetB gl x = false) : (mvA f gl cc rr x).2 = true ∧ mvA gl f (-cc) (-rr) (mvA f gl cc rr x).1 = (x, true) := by
 have hw2 : ¬ withinA x gl = true := fun e => by rw [within_meet hv e] at hn; cases hn
 by_cases hw : withinA x f = true
 · have hwe := hw
   unfold withinA at hwe
   simp only [Bool.and_eq_true] at hwe
   obtain ⟨e1, i1⟩ := h.mov_in hwe.1
   obtain ⟨e2, i2⟩ := h.mov_in hwe.2
   have ea : mvA f gl cc rr x = (⟨x.a + cc, x.b + rr, x.c + cc, x.d + rr⟩, true) := by unfold mvA; rw [if_pos hw, e1, e2]
   rw [ea]
   refine ⟨rfl, ?_⟩
   have hb : withinA ⟨x.a + cc, x.b + rr, x.c + cc, x.d + rr⟩ gl = true := by
    unfold withinA
    rw [i1, i2]; rfl
   unfold mvA
   rw [if_pos hb, (h.back.mov_in i1).1, (h.back.mov_in i2).1]
   obtain ⟨xa, xb, xc, xd⟩ := x
   have q1 : xa + cc + -cc = xa := by omega
   have q2 : xb + rr + -rr = xb := by omega
   have q3 : xc + cc + -cc = xc := by omega
   have q4 : xd + rr + -rr = xd := by omega
   simp only [q1, q2, q3, q4]
 · have ea : mvA f gl cc rr x = (x, true) := by unfold mvA; rw [if_neg hw]; simp [hw2]
   rw [ea]
   refine ⟨rfl, ?_⟩
   unfold mvA
   rw [if_neg hw2]
   simp [hw]
theorem Mv.there (h : Mv f gl cc rr) (hg : GOk g) (hb : busyP gl g = false) :
    goAll (mvC gl f (-cc) (-rr)) (mvA gl f (-cc) (-rr)) (goAll (mvC f gl cc rr) (mvA f gl cc rr) g) = g ∧ lostP (goAll (mvC f gl cc rr) (mvA f gl cc rr) g) = lostP g := by
 have hbn := busy_not hb
 have hX := h.ok hg
 obtain ⟨s1, p1⟩ := h.perm hg
 obtain ⟨s2, p2⟩ := h.back.perm hX
 have e := goP_comp (cG2 := mvC gl f (-cc) (-rr)) (aG2 := mvA gl f (-cc) (-rr)) (cG1 := mvC f gl cc rr) (aG1 := mvA f gl cc rr) (cG3 := cI) (aG3 := aI) (l := g) (fun x hx => ⟨fun ho => ⟨(h.cell_back (hbn x hx).1).2, contG_comp (okCt_of hg x hx) (fun hk y hy h56 => by
  have ok := flat_okN x.2.t false ((okCt_of hg x hx).fault hk) y hy
  have hh := (hbn x hx).2 y hy
  unfold hitN at hh
  simp only [Bool.or_eq_false_iff, Bool.and_eq_false_iff, decide_eq_false_iff_not] at hh
  refine head_comp h56 (fun e5 => ?_) (fun e6 => ?_)
  · have hn : ¬ inA gl y.ref.a = true := by rcases hh.1 with q | q; exact absurd e5 q; rw [q]; decide
    exact ⟨fun _ => (h.cell_back hn).2, fun hq => absurd (h.cell_back hn).1 hq⟩
  · have hn : meetB gl (arOf y.ref y.to) = false := by rcases hh.2 with q | q; exact absurd e6 q; exact q
    obtain ⟨a1, a2⟩ := h.area_back (ok.2 e6) hn
    exact ⟨fun _ => a2, fun hq => absurd a1 hq⟩)⟩, fun ho => absurd (h.cell_back (hbn x hx).1).1 ho⟩)
 rw [goP_id (okCt_of hg)] at e
 refine ⟨sortedM_perm s2 hg.sorted (p2.trans ?_), ?_⟩
 · have p3 : (goP (mvC gl f (-cc) (-rr)) (mvA gl f (-cc) (-rr)) (goAll (mvC f gl cc rr) (mvA f gl cc rr) g)).Perm (goP (mvC gl f (-cc) (-rr)) (mvA gl f (-cc) (-rr)) (goP (mvC f gl cc rr) (mvA f gl cc rr) g)) := by
    unfold goP
    exact (p1.filter _).map _
   rw [e] at p3
   exact p3
 · rw [lostP_perm p1]
   have : ∀ {l : PG}, (∀ x ∈ l, okCt x.2 ∧ (mvC f gl cc rr x.1).2 = true ∧ ∀ y ∈ flatT x.2.t, lostH (mvC f gl cc rr) (mvA f gl cc rr) y = false) → lostP (goP (mvC f gl cc rr) (mvA f gl cc rr) l) = lostP l := by
    intro l
    induction l with
    | nil => intro _; rfl
    | cons x l ih =>
     intro hl
     obtain ⟨h1, h2, h3⟩ := hl x List.mem_cons_self
     have e := contG_faults (cG := mvC f gl cc rr) (aG := mvA f gl cc rr) h1
     have z : lostC (mvC f gl cc rr) (mvA f gl cc rr) (flatT x.2.t) = 0 := by
      unfold lostC
      rw [List.filter_eq_nil_iff.2 (fun y hy => by rw [h3 y hy]; decide)]; rfl
     rw [goP_cons, if_pos h2, lostP, lostP, ih (fun y hy => hl y (List.mem_cons_of_mem _ hy))]
     simp only
     rw [h1.2.2, e, z]; omega
   refine this fun x hx => ⟨okCt_of hg x hx, (h.cell_back (hbn x hx).1).1, fun y hy => ?_⟩
   by_cases hk : x.2.kind = 2
   · have ok := flat_okN x.2.t false ((okCt_of hg x hx).fault hk) y hy
     have hh := (hbn x hx).2 y hy
     unfold hitN at hh
     simp only [Bool.or_eq_false_iff, Bool.and_eq_false_iff, decide_eq_false_iff_not] at hh
     unfold lostH
     simp only [Bool.or_eq_false_iff, Bool.and_eq_false_iff, decide_eq_false_iff_not, Bool.not_eq_false']
     constructor
     · by_cases e5 : y.kind = 5
       · have hn : ¬ inA gl y.ref.a = true := by rcases hh.1 with q | q; exact absurd e5 q; rw [q]; decide
         exact Or.inr (h.cell_back hn).1
       · exact Or.inl e5
     · by_cases e6 : y.kind = 6
       · have hn : meetB gl (arOf y.ref y.to) = false := by rcases hh.2 with q | q; exact absurd e6 q; exact q
         exact Or.inr (h.area_back (ok.2 e6) hn).1
       · exact Or.inl e6
   · obtain ⟨e1, e2⟩ := (okCt_of hg x hx).plain hk
     rw [e1] at hy
     rw [List.mem_singleton.1 hy]
     have hk2 : (leafN x.2.t).kind = x.2.t.kind := by cases x.2.t; rfl
     unfold lostH
     rw [hk2, e2]; rfl
end
end Go.Proofs.YtdoeejhdenifpaaGreatDoor
/- move, plain: areas that are copied, filled, cleared. -/
namespace Go.Proofs.YtdoeejhdenifpaaGreatDoor
open Go.RowKit Go.Sort
def clearP (f : ArT) (g : PG) : PG := g.filter fun x => !inA f x.1
def cpStep (o : Option PG) (y : Ad) (c : ContT) : Option PG :=
 match o with
 | none => none
 | some P => if codeP P y c = 0 then some (putP P y c) else none
def flAll (fr : Ad) (c : ContT) (P : PG) (l : List Ad) : Option PG := l.foldl (fun o y => cpStep o y (shC (wrap64 (y.1 - fr.1)) (wrap64 (y.2 - fr.2)) (copyC c))) (some P)
theorem flAll_snoc (fr : Ad) (c : ContT) (P : PG) (l : List Ad) (y : Ad) : flAll fr c P (l ++ [y]) = cpStep (flAll fr c P l) y (shC (wrap64 (y.1 - fr.1)) (wrap64 (y.2 - fr.2)) (copyC c)) := by simp [flAll]
theorem flAll_none (fr : Ad) (c : ContT) (P : PG) (l k : List Ad) (h : flAll fr c P l = none) : flAll fr c P (l ++ k) = none := by
 unfold flAll at *
 rw [List.foldl_append, h]
 induction k with
 | nil => rfl
 | cons x k ih => exact ih
theorem cpStep_some {o : Option PG} {y : Ad} {c : ContT} {A : PG} (h : cpStep o y c = some A) : ∃ P, o = some P ∧ codeP P y c = 0 ∧ A = putP P y c := by
 cases o with
 | none => cases h
 | some P =>
  unfold cpStep at h
  simp only at h
  split at h
  · rename_i e; exact ⟨P, rfl, e, (Option.some.inj h).symm⟩
  · cases h
theorem cpStep_ok {P : PG} {y : Ad} {c : ContT} (h : codeP P y c = 0) : cpStep (some P) y c = some (putP P y c) := by unfold cpStep; simp only; rw [if_pos h]
theorem cpStep_no {P : PG} {y : Ad} {c : ContT} (h : codeP P y c ≠ 0) : cpStep (some P) y c = none := by unfold cpStep; simp only; rw [if_neg h]
theorem shC_valid (cc rr : Int) {c : ContT} (h : gvalidB c = true) : gvalidB (shC cc rr (copyC c)) = true := contH_valid (shH_head cc rr) h
theorem shC_kind (cc rr : Int) (c : ContT) : (shC cc rr c).kind = c.kind := contH_kind _ c
theorem shC_ok (cc rr : Int) {c : ContT} (h : c.ok) : (shC cc rr c).ok := contH_ok (shH_head cc rr) h
theorem shC_small (cc rr : Int) {c : ContT} (h : smallT c.t) : smallT (shC cc rr c).t := contH_small (shH_head cc rr) h
theorem shC_copy (cc rr : Int) (c : ContT) : copyC (shC cc rr (copyC c)) = shC cc rr (copyC c) := contH_copy (shH_head cc rr) c
theorem shC_1 (cc rr : Int) {c : ContT} (h : c.kind ≠ 2) : shC cc rr c = c := contH_1 h
theorem code_sh {P : PG} {y : Ad} {c : ContT} (cc rr : Int) (hv : validB y.1 y.2 = true) (h1 : gvalidB c = true) (h2 : (c.kind == 0) = false) : codeP P y (shC cc rr (copyC c)) = (if fullP P y = true then 41 else 0) ∧ (fullP P y = false → putP P y (shC cc rr (copyC c)) = setM y (shC cc rr (copyC c)) P) := by
 have hk : ((shC cc rr (copyC c)).kind == 0) = false := by rw [shC_kind]; exact h2
 unfold codeP putP
 rw [shC_valid cc rr h1, hv, hk]
 refine ⟨by simp, fun hf => ?_⟩
 rw [hf, shC_copy]; simp
theorem GOk.clear {g : PG} (h : GOk g) (f : ArT) : GOk (clearP f g) := ⟨h.sorted.filter _, Nat.le_trans (List.length_filter_le ..) h.many, fun x hx => h.each x (List.mem_filter.1 hx).1⟩
section
variable {f gl : ArT} {cc rr : Int} {g : PG}
end
def fillP (fr : Ad) (t : ArT) (g : PG) : Option PG := if ((lkM fr g).getD zeroC).kind = 0 then some (clearP t g) else flAll fr ((lkM fr g).getD zeroC) (clearP t g) (cellsL t)
end Go.Proofs.YtdoeejhdenifpaaGreatDoor
/- move.laid (made by mkt3.py). -/
namespace Go.Proofs.YtdoeejhdenifpaaGreatDoor
open Go.RowKit Go.Sort
theorem check_of {c : ContT} (h : gvalidB c = true) (hk : c.kind = 2) : checkT c.t = 0 := by
 unfold gvalidB at h
 simp only [hk, Int.reduceBEq, Bool.false_eq_true, if_false, if_true, Bool.and_eq_true] at h
 simpa using h.2
def byG (fr tg : Ad) : Int × Int := (wrap64 (tg.1 - fr.1), wrap64 (tg.2 - fr.2))
set_option maxRecDepth 100000 in
set_option maxHeartbeats 4000000 in
theorem laid_any (n : Nat) (gb mb : Nat) (M : GM) (c : ContT) (a : Option Addr) (cap : Nat) (fr tg : Ad) (w : World) (hG : GridIs w gb mb M) (hT : Tabs w) (hok : c.ok) (hsm : smallT c.t) (hin : ArgsIn w n (.slice a c.t.args.length cap) c.t.args) (hv : gvalidB c = true) :
    Calls Tryz.prog 70 #[.pointer (some ⟨gb, 0, none⟩), contV c a c.t.args.length cap, .agg #[.int .i64 fr.1, .int .i64 fr.2], .agg #[.int .i64 tg.1, .int .i64 tg.2]] w (PutR w gb mb M tg (shC (byG fr tg).1 (byG fr tg).2 c)) := by
 obtain ⟨B, hB⟩ : ∃ B, w.heap.size = B := ⟨_, rfl⟩
 have HBw := Lib.hid hB
 obtain ⟨w0, hw0⟩ : ∃ w0, w.alloc (.cells #[.int .i64 c.kind, .int .i64 c.v.kind, .float .f64 c.v.x, .string c.v.s, .bool c.v.b, .int .i64 c.v.f, .int .i64 c.t.kind, .int .i64 c.t.op, .float .f64 c.t.x, .string c.t.s, .bool c.t.b, .int .i64 c.t.f, .int .i64 c.t.ref.a.1, .int .i64 c.t.ref.a.2, .bool c.t.ref.cf, .bool c.t.ref.rf, .int .i64 c.t.to.a.1, .int .i64 c.t.to.a.2, .bool c.t.to.cf, .bool c.t.to.rf, .slice a c.t.args.length cap] 51) = w0 := ⟨_, rfl⟩
 have hs0 : w0.heap.size = B + 1 := by rw [← hw0, ← hB]; simp
 obtain ⟨w1, hw1⟩ : ∃ w1, w0.alloc (.cells #[.int .i64 fr.1, .int .i64 fr.2] 24) = w1 := ⟨_, rfl⟩
 have hs1 : w1.heap.size = B + 1 + 1 := by rw [← hw1]; simp [hs0]
 obtain ⟨wS, hwS⟩ : ∃ wS, w1.alloc (.cells #[.int .i64 tg.1, .int .i64 tg.2] 24) = wS := ⟨_, rfl⟩
 have hx0 : Xt w0 wS := by rw [← hwS, ← hw1]; exact ((Xt.refl _).alloc _).alloc _
 have hx1 : Xt w1 wS := by rw [← hwS]; exact (Xt.refl _).alloc _
 have hx : Xt w wS := Xt.trans (by rw [← hw0]; exact (Xt.refl _).alloc _) hx0
 have r0 : wS.heap[B]? = some (.cells #[.int .i64 c.kind, .int .i64 c.v.kind, .float .f64 c.v.x, .string c.v.s, .bool c.v.b, .int .i64 c.v.f, .int .i64 c.t.kind, .int .i64 c.t.op, .float .f64 c.t.x, .string c.t.s, .bool c.t.b, .int .i64 c.t.f, .int .i64 c.t.ref.a.1, .int .i64 c.t.ref.a.2, .bool c.t.ref.cf, .bool c.t.ref.rf, .int .i64 c.t.to.a.1, .int .i64 c.t.to.a.2, .bool c.t.to.cf, .bool c.t.to.rf, .slice a c.t.args.length cap] 51 (0, 0)) := rowX hx0 (by rw [← hw0, ← hB]; exact (MapKept.heap_alloc w _).1)
 have r1 : wS.heap[B + 1]? = some (.cells #[.int .i64 fr.1, .int .i64 fr.2] 24 (0, 0)) := rowX hx1 (by rw [← hw1, ← hs0]; exact (MapKept.heap_alloc w0 _).1)
 have r2 : wS.heap[B + 1 + 1]? = some (.cells #[.int .i64 tg.1, .int .i64 tg.2] 24 (0, 0)) := by rw [← hwS, ← hs1]; exact (MapKept.heap_alloc w1 _).1
 have HR0 := Lib.hid r0
 have HR1 := Lib.hid r1
 have HR2 := Lib.hid r2
 have HX := Lib.hid hx
 have HG : Hid (GridIs w gb mb M) := hG
 have HT := Lib.hid hT
 have HOK := Lib.hid hok
 have HSM := Lib.hid hsm
 have HIN := Lib.hid hin
 have HV := Lib.hid hv
 have c0 : wS.cell? ⟨B, 0, none⟩ = some (.int .i64 c.kind) := by simp [World.cell?, r0]
 obtain ⟨f0, f1, _, _⟩ := cells2 r1
 obtain ⟨t0, t1, _, _⟩ := cells2 r2
 have hRng : wS.rangeAt B 6 (nodeC c.t (.slice a c.t.args.length cap)) := fun j v hv => by
  have := World.rangeAt_of_block r0 6 15 j v (by simpa [nodeC] using hv)
  exact this
 have HRng := Lib.hid hRng
 clear r0 r1 r2 hx hx0 hx1 hG hT hok hsm hin hv hRng
 go_enter Tryz.func70, Tryz.ntmps70
 by_cases hk : c.kind = 2
 · have hkb : (c.kind == 2) = true := by simpa using hk
   obtain ⟨dx, hdx⟩ : ∃ dx, wrap64 (tg.1 - fr.1) = dx := ⟨_, rfl⟩
   obtain ⟨dy, hdy⟩ : ∃ dy, wrap64 (tg.2 - fr.2) = dy := ⟨_, rfl⟩
   have HBY := Lib.hid (by_any fr tg wS)
   rw [hdx, hdy] at HBY
   have HC := Lib.hid (fun V (hV : Xt wS V) => wShift_any dx dy n c.t a cap V HOK.out.2.1 (HT.out.xt (HX.out.trans hV)) HSM.out (HIN.out.xt (HX.out.trans hV)) (check_of HV.out hk))
   obtain ⟨tt, htt⟩ : ∃ tt, upT (shH dx dy) (copyT c.t) = tt := ⟨_, rfl⟩
   rw [htt] at HC
   have HGC : Hid (shC (byG fr tg).1 (byG fr tg).2 c = ⟨c.kind, c.v, tt⟩) := by
    unfold Hid byG shC contH
    rw [if_pos hk]
    simp only [hdx, hdy, htt]
   have HOK2 : Hid ((⟨c.kind, c.v, tt⟩ : ContT).ok) := by unfold Hid; rw [← HGC.out]; exact shC_ok _ _ HOK.out
   have HSM2 : Hid (smallT tt) := by
    unfold Hid
    have := shC_small (byG fr tg).1 (byG fr tg).2 HSM.out
    rw [HGC.out] at this
    exact this
   clear hk htt hdx hdy
   have hm1 : True := trivial
   go_wp2_with (first
    | (go_at_call 42; refine (HBY.out).mono ?_; rintro e w3 ⟨rfl, hg3⟩; have HX3 : Hid (Xt wS w3) := hg3.xt; clear hg3)
    | (refine wpList_load_mid (P := Tryz.prog) rfl 49 _ rfl B 6 rfl (nodeC c.t (.slice a c.t.args.length cap)) _ (fun j v hv => ((HX3.out.cells).1 _ _ (World.block_lt_of_cell? wS _ (HRng.out j v hv))).trans (HRng.out j v hv)) Tryz.underlying49 rfl (by kernel_rfl) ?_)
    | (go_at_call 112; refine (HC.out w3 HX3.out).mono ?_; rintro e w5 ⟨a2, c2, rfl, hS5, hx5⟩; have HX5 : Hid (Xt wS w5) := HX3.out.trans hx5; have HS5 := Lib.hid hS5; have hsz35 : B + 1 + 1 < w3.heap.size := (by have h1 := HX3.out.size; have h2 := (Array.getElem?_eq_some_iff.1 HR2.out).1; omega); have hb5 := rowX HX5.out HR0.out; have HTH := Lib.hid (there_row hb5 6 15 (by simp)); obtain ⟨w6, hw6⟩ : ∃ w6, w5.setCells B 6 (#[.int .i64 tt.kind, .int .i64 tt.op, .float .f64 tt.x, .string tt.s, .bool tt.b, .int .i64 tt.f, .int .i64 tt.ref.a.1, .int .i64 tt.ref.a.2, .bool tt.ref.cf, .bool tt.ref.rf, .int .i64 tt.to.a.1, .int .i64 tt.to.a.2, .bool tt.to.cf, .bool tt.to.rf, .slice a2 tt.args.length c2]).toList = w6 := ⟨_, rfl⟩; have HB6 : Hid (w6.heap[B]? = some (.cells #[.int .i64 c.kind, .int .i64 c.v.kind, .float .f64 c.v.x, .string c.v.s, .bool c.v.b, .int .i64 c.v.f, .int .i64 tt.kind, .int .i64 tt.op, .float .f64 tt.x, .string tt.s, .bool tt.b, .int .i64 tt.f, .int .i64 tt.ref.a.1, .int .i64 tt.ref.a.2, .bool tt.ref.cf, .bool tt.ref.rf, .int .i64 tt.to.a.1, .int .i64 tt.to.a.2, .bool tt.to.cf, .bool tt.to.rf, .slice a2 tt.args.length c2] 51 (0, 0))) := (by unfold Hid; rw [← hw6]; exact fill15at6 hb5); have HG6 : Hid (w5.grownBy w6 (some B)) := (by unfold Hid; rw [← hw6]; exact setCells_grown B _ 6 w5); have h2r := rowX HX5.out HR2.out; obtain ⟨t0, t1, _, _⟩ := cells2 (b := B + 1 + 1) (w := w6) (by rw [HG6.out.block (B + 1 + 1) (Array.getElem?_eq_some_iff.1 h2r).1 (fun e => by have := Option.some.inj e; omega)]; exact h2r); clear hx5 hS5 hb5 h2r)
    | (refine wpList_store_mid (P := Tryz.prog) rfl 49 _ _ rfl B 6 #[.int .i64 tt.kind, .int .i64 tt.op, .float .f64 tt.x, .string tt.s, .bool tt.b, .int .i64 tt.f, .int .i64 tt.ref.a.1, .int .i64 tt.ref.a.2, .bool tt.ref.cf, .bool tt.ref.rf, .int .i64 tt.to.a.1, .int .i64 tt.to.a.2, .bool tt.to.cf, .bool tt.to.rf, .slice a2 tt.args.length c2] rfl rfl HTH.out (by kernel_rfl) (all_oneCell_toArray (nodeC_one tt (.slice a2 tt.args.length c2) rfl)) ?_; rw [hw6])
    | (refine wpList_load_row (P := Tryz.prog) rfl 51 _ rfl B rfl 51 #[.int .i64 c.kind, .int .i64 c.v.kind, .float .f64 c.v.x, .string c.v.s, .bool c.v.b, .int .i64 c.v.f, .int .i64 tt.kind, .int .i64 tt.op, .float .f64 tt.x, .string tt.s, .bool tt.b, .int .i64 tt.f, .int .i64 tt.ref.a.1, .int .i64 tt.ref.a.2, .bool tt.ref.cf, .bool tt.ref.rf, .int .i64 tt.to.a.1, .int .i64 tt.to.a.2, .bool tt.to.cf, .bool tt.to.rf, .slice a2 tt.args.length c2] (0, 0) _ HB6.out Tryz.underlying51 rfl (by kernel_rfl) ?_)
    | (go_at_call 25; have hx6 : Xt w w6 := (HX.out.trans HX5.out).grownB HG6.out (fun q hq => by cases hq; have := HBw.out; omega); have HX6 := Lib.hid hx6; have hA6 : ArgsIn w6 n (.slice a2 tt.args.length c2) tt.args := (HS5.out.keep (fun b hb hlt => HG6.out.block b hlt (fun e => by have := Option.some.inj e; have := hb.1; omega))).own.args; have HP := Lib.hid (gput_any n gb mb M tg ⟨c.kind, c.v, tt⟩ a2 c2 w6 (HG.out.xt hx6) HOK2.out (HT.out.xt hx6) HSM2.out hA6); refine (HP.out).mono ?_; rintro e w7 ⟨zz, rfl, hG7, hg7⟩; have HG7 := Lib.hid hG7; have Hg7 := Lib.hid hg7; clear hx6 hA6 hG7 hg7))
   go_ret
   rw [HGC.out]
   exact ⟨zz, rfl, HG7.out, grownBy_two (HX6.out.grown (some mb)) Hg7.out⟩
 · have hkb : (c.kind == 2) = false := by simpa using hk
   have HGC : Hid (shC (byG fr tg).1 (byG fr tg).2 c = c) := shC_1 _ _ hk
   clear hk
   have HP := Lib.hid (gput_any n gb mb M tg c a cap wS (HG.out.xt HX.out) HOK.out (HT.out.xt HX.out) HSM.out (HIN.out.xt HX.out))
   go_wp2_with (first
    | (refine wpList_load_row (P := Tryz.prog) rfl 51 _ rfl B rfl 51 _ (0, 0) _ HR0.out Tryz.underlying51 rfl (by kernel_rfl) ?_)
    | (go_at_call 25; refine (HP.out).mono ?_; rintro e w7 ⟨zz, rfl, hG7, hg7⟩; have HG7 := Lib.hid hG7; have Hg7 := Lib.hid hg7; clear hG7 hg7))
   go_ret
   rw [HGC.out]
   exact ⟨zz, rfl, HG7.out, grownBy_two (HX.out.grown (some mb)) Hg7.out⟩
end Go.Proofs.YtdoeejhdenifpaaGreatDoor
