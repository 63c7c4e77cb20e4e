/- move.Move's walk (made by mkr6.py). -/
import Derived.Test.YtdoeejhdenifpaaGreatDoorZ1
import Derived.Test.YtdoeejhdenifpaaGreatDoorR5
import Derived.Test.YtdoeejhdenifpaaGreatDoorM9
namespace Go.Proofs.YtdoeejhdenifpaaGreatDoor
open Go.RowKit Go.Sort Go.Maps Go.Shelf Go.MapKept
attribute [local go_sem] Oper.semAt_some

theorem mv_road {m : Nat} (pf pm pg pc pr : Nat) (f g : ArT) (cc rr : Int) (h : pf < m ∧ pm < m ∧ pg < m ∧ pc < m ∧ pr < m) : RoadIs (fun W => MvAt W pf pm pg pc pr f g cc rr ∧ m ≤ W.heap.size) m 44 45 #[.pointer (some ⟨pf, 0, none⟩), .pointer (some ⟨pm, 0, none⟩), .pointer (some ⟨pg, 0, none⟩)] #[.pointer (some ⟨pf, 0, none⟩), .pointer (some ⟨pm, 0, none⟩), .pointer (some ⟨pg, 0, none⟩)] (mvC f g cc rr) (mvA f g cc rr) ArT.ok :=
  ⟨fun w w' hE hs hk => ⟨hE.1.kept hk h, by have := hE.2; omega⟩, fun w hE => hE.2, enters_of Tryz.func44 (by kernel_rfl) rfl, enters_of Tryz.func45 (by kernel_rfl) rfl, fun a w hE => mvCell_any a pf pm pg pc pr f g cc rr w hE.1, fun x w _ hE => mvArea_any x pf pm pg pc pr f g cc rr w hE.1⟩
/-- What holds of the grid that is made, round by round. -/
structure MI (W0 : World) (go mo : Nat) (cG : Ad → Ad × Bool) (aG : ArT → ArT × Bool) (pre : List TE) (W : World) : Prop where
  grown : W0.grownBy W (some mo)
  out : ∃ Mo, GridIs W go mo Mo ∧ er Mo = goAll cG aG (pre.map tpT)
theorem MI.own {W0 : World} {go mo : Nat} {cG : Ad → Ad × Bool} {aG : ArT → ArT × Bool} (hm : mo < W0.heap.size) : OwnFrom W0.heap.size (fun pre W => MI W0 go mo cG aG pre W) := fun s X Y row hs hg hr => by
  obtain ⟨h1, ⟨Mo, h2, h3⟩⟩ := hs
  exact ⟨grownBy_far h1 hg (fun r e => (hr r e).1), ⟨Mo, h2.kept (cellsIn_walk hg (fun r e => (hr r e).2)) (hg.block mo (by have := h1.size; omega) (fun e => by have := (hr mo e.symm).1; omega)), h3⟩⟩
theorem MI.start {W0 : World} {go mo : Nat} {cG : Ad → Ad × Bool} {aG : ArT → ArT × Bool} (h : GridIs W0 go mo []) : MI W0 go mo cG aG [] W0 := ⟨⟨rfl, rfl, rfl, Nat.le_refl _, fun _ _ _ => rfl⟩, ⟨[], h, rfl⟩⟩
theorem MI.xt {W0 W W' : World} {go mo : Nat} {cG : Ad → Ad × Bool} {aG : ArT → ArT × Bool} {pre : List TE} (h : MI W0 go mo cG aG pre W) (hx : Xt W W') : MI W0 go mo cG aG pre W' :=
  ⟨grownBy_far h.grown hx.grownN (fun r e => by cases e), let ⟨Mo, h2, h3⟩ := h.out; ⟨Mo, h2.xt hx, h3⟩⟩
/-- How far a move goes. -/
def farC (f : ArT) (g : Ad) : Int := wrap64 (g.1 - f.a)
def farR (f : ArT) (g : Ad) : Int := wrap64 (g.2 - f.b)
set_option maxRecDepth 100000 in
set_option maxHeartbeats 4000000 in
theorem move_any (f : ArT) (g : Ad) (gb mb : Nat) (M : GM) (w : World) (hG : GridIs w gb mb M) (hT : Tabs w) (hO : GOk (er M)) (hv : validA f.a f.b f.c f.d = true) (hv1 : validB g.1 g.2 = true) (hv2 : validB (lastOf f g).1 (lastOf f g).2 = true) :
    Calls Tryz.prog 12 #[.pointer (some ⟨gb, 0, none⟩), arT f, .agg #[.int .i64 g.1, .int .i64 g.2]] w fun e w' => Xt w w' ∧ ∃ go mo Mo, e = .returned (.tuple #[.pointer (some ⟨go, 0, none⟩), .int .i64 0]) ∧ GridIs w' go mo Mo ∧ er Mo = goAll (mvC f (thereA f g) (farC f g) (farR f g)) (mvA f (thereA f g) (farC f g) (farR f g)) (er M) := by
  have HG := Lib.hid hG
  have HT := Lib.hid hT
  have HO := Lib.hid hO
  obtain ⟨B, hB⟩ : ∃ B, w.heap.size = B := ⟨_, rfl⟩
  obtain ⟨wa, hwa⟩ : ∃ wa, w.alloc (.cells #[.int .i64 f.a, .int .i64 f.b, .int .i64 f.c, .int .i64 f.d] 26) = wa := ⟨_, rfl⟩
  have hsa : wa.heap.size = B + 1 := by rw [← hwa, ← hB]; simp
  obtain ⟨w0, hw0⟩ : ∃ w0, wa.alloc (.cells #[.int .i64 g.1, .int .i64 g.2] 24) = w0 := ⟨_, rfl⟩
  have hs0 : w0.heap.size = B + 1 + 1 := by rw [← hw0]; simp [hsa]
  have HX0 : Hid (Xt w w0) := by unfold Hid; rw [← hw0, ← hwa]; exact ((Xt.refl _).alloc _).alloc _
  have HR0 : Hid (w0.heap[B]? = some (.cells #[.int .i64 f.a, .int .i64 f.b, .int .i64 f.c, .int .i64 f.d] 26 (0, 0))) := rowX (w := wa) (by rw [← hw0]; exact (Xt.refl _).alloc _) (by rw [← hwa, ← hB]; exact (MapKept.heap_alloc w _).1)
  have HR1 : Hid (w0.heap[B + 1]? = some (.cells #[.int .i64 g.1, .int .i64 g.2] 24 (0, 0))) := by unfold Hid; rw [← hw0, ← hsa]; exact (MapKept.heap_alloc wa _).1
  have HVA := Lib.hid (fun V => validArea_any f.a f.b f.c f.d V)
  rw [hv] at HVA
  have HTH := Lib.hid (fun V => there_any f g V)
  rw [hv1, hv2] at HTH
  obtain ⟨gl, hgl⟩ : ∃ gl, thereA f g = gl := ⟨_, rfl⟩
  rw [hgl] at HTH
  have HBY := Lib.hid (fun V => by_any (f.a, f.b) g V)
  obtain ⟨cc, hcc⟩ : ∃ c, farC f g = c := ⟨_, rfl⟩
  obtain ⟨rr, hrr⟩ : ∃ c, farR f g = c := ⟨_, rfl⟩
  simp only [show wrap64 (g.1 - f.a) = cc from hcc, show wrap64 (g.2 - f.b) = rr from hrr] at HBY
  rw [hgl, hcc, hrr]
  obtain ⟨⟨x0, x1, x2, x3⟩, _⟩ := cells4 HR0.out
  obtain ⟨y0, y1, _, _⟩ := cells2 HR1.out
  clear hG hT hO hv hv1 hv2 hgl hcc hrr
  refine (callsIn_wide (n := 25)).1 ?_
  refine callsIn_of_wp_marks Tryz.func12 rfl trivial ?_ rfl
  simp only [Tryz.ntmps12, List.size_toArray, List.length_cons, List.length_nil, Nat.reduceAdd, Nat.reduceSub, Array.replicate_succ, Array.replicate_zero, List.push_toArray, List.append_toArray, List.nil_append, List.cons_append]
  refine wpIn_wide.2 ?_
  refine wp_mono (Q := noPanic (bodyPostM Fence.wide 25 Tryz.prog Tryz.f12 (fun e w' => Xt w w' ∧ ∃ go mo Mo, e = .returned (.tuple #[.pointer (some ⟨go, 0, none⟩), .int .i64 0]) ∧ GridIs w' go mo Mo ∧ er Mo = goAll (mvC f gl cc rr) (mvA f gl cc rr) (er M)))) ?_ noPanic_le
  have hq := Int.le_refl 0
  go_wp2_with (first
    | (go_at_call 40; refine (HVA.out _).mono ?_; rintro e w1 ⟨rfl, hg1⟩; have HX1 : Hid (Xt w0 w1) := hg1.xt; obtain ⟨⟨a0, a1, a2, a3⟩, _⟩ := cells4 (rowX HX1.out HR0.out); obtain ⟨b0, b1, _, _⟩ := cells2 (rowX HX1.out HR1.out); clear hg1)
    | (go_at_call 41; refine (HTH.out _).mono ?_; rintro e w2 ⟨rfl, hx2⟩; have HX2 : Hid (Xt w0 w2) := HX1.out.trans hx2; obtain ⟨wb, hwb⟩ : ∃ wb, w2.alloc (.cells #[.int .i64 gl.a, .int .i64 gl.b, .int .i64 gl.c, .int .i64 gl.d] 26) = wb := ⟨_, rfl⟩; have HX2b : Hid (Xt w0 wb) := (by unfold Hid; rw [← hwb]; exact HX2.out.alloc _); obtain ⟨⟨c0, c1, c2, c3⟩, _⟩ := cells4 (rowX HX2b.out HR0.out); obtain ⟨d0, d1, _, _⟩ := cells2 (rowX HX2b.out HR1.out); clear hx2)
    | (go_at_call 42; refine (HBY.out _).mono ?_; rintro e w3 ⟨rfl, hg3⟩; have HX3 : Hid (Xt wb w3) := hg3.xt; obtain ⟨C, hC⟩ : ∃ C, w3.heap.size = C := ⟨_, rfl⟩; obtain ⟨wc, hwc⟩ : ∃ wc, w3.alloc (.cells #[.int .i64 cc] 3) = wc := ⟨_, rfl⟩; obtain ⟨wd, hwd⟩ : ∃ wd, wc.alloc (.cells #[.int .i64 rr] 3) = wd := ⟨_, rfl⟩; obtain ⟨we, hwe⟩ : ∃ we, wd.alloc (.cells #[.func (.func 43) #[] #[.pointer (some ⟨C, 0, none⟩), .pointer (some ⟨C + 1, 0, none⟩)]] 92) = we := ⟨_, rfl⟩; obtain ⟨wf, hwf⟩ : ∃ wf, we.alloc (.cells #[.func (.func 44) #[] #[.pointer (some ⟨B, 0, none⟩), .pointer (some ⟨C + 1 + 1, 0, none⟩), .pointer (some ⟨w2.heap.size, 0, none⟩)], .func (.func 45) #[] #[.pointer (some ⟨B, 0, none⟩), .pointer (some ⟨C + 1 + 1, 0, none⟩), .pointer (some ⟨w2.heap.size, 0, none⟩)]] 97) = wf := ⟨_, rfl⟩; have hsc : wc.heap.size = C + 1 := (by rw [← hwc]; simp [hC]); have hsd : wd.heap.size = C + 1 + 1 := (by rw [← hwd]; simp [hsc]); have hse : we.heap.size = C + 1 + 1 + 1 := (by rw [← hwe]; simp [hsd]); have hsf : wf.heap.size = C + 1 + 1 + 1 + 1 := (by rw [← hwf]; simp [hse]); clear hg3)
    | (go_at_call 35; refine (gnew_any _).mono ?_; rintro e w4 ⟨rfl, hGo, hg4⟩; have HGo := Lib.hid hGo; have HX4 := Lib.hid hg4.xt; clear hGo hg4)
    | (go_at_call 37; refine ((callsIn_wide (n := 20)).1 (all_in 20 (by omega) _ _)).mono ?_; rintro e w' ⟨rfl, rfl⟩))
  have hx3f : Xt w3 wf := by rw [← hwf, ← hwe, ← hwd, ← hwc]; exact ((((Xt.refl w3).alloc _).alloc _).alloc _).alloc _
  have HMW : Hid (MvAt wf B (C + 1 + 1) w2.heap.size C (C + 1) f gl cc rr) := by
    have q0 := rowX ((HX2b.out.trans HX3.out).trans hx3f) HR0.out
    have hwbr : wb.heap[w2.heap.size]? = some (.cells #[.int .i64 gl.a, .int .i64 gl.b, .int .i64 gl.c, .int .i64 gl.d] 26 (0, 0)) := by rw [← hwb]; exact (MapKept.heap_alloc w2 _).1
    have q1 := rowX (HX3.out.trans hx3f) hwbr
    have q2 : wf.heap[C]? = some (.cells #[.int .i64 cc] 3 (0, 0)) := rowX (w := wc) (by rw [← hwf, ← hwe, ← hwd]; exact (((Xt.refl wc).alloc _).alloc _).alloc _) (by rw [← hwc, ← hC]; exact (MapKept.heap_alloc w3 _).1)
    have q3 : wf.heap[C + 1]? = some (.cells #[.int .i64 rr] 3 (0, 0)) := rowX (w := wd) (by rw [← hwf, ← hwe]; exact ((Xt.refl wd).alloc _).alloc _) (by rw [← hwd, ← hsc]; exact (MapKept.heap_alloc wc _).1)
    have q4 : wf.heap[C + 1 + 1]? = some (.cells #[.func (.func 43) #[] #[.pointer (some ⟨C, 0, none⟩), .pointer (some ⟨C + 1, 0, none⟩)]] 92 (0, 0)) := rowX (w := we) (by rw [← hwf]; exact (Xt.refl we).alloc _) (by rw [← hwe, ← hsd]; exact (MapKept.heap_alloc wd _).1)
    exact ⟨q0, (one_row q4).1, q1, (one_row q2).1, (one_row q3).1⟩
  have HRF : Hid (wf.heap[C + 1 + 1 + 1]? = some (.cells #[.func (.func 44) #[] #[.pointer (some ⟨B, 0, none⟩), .pointer (some ⟨C + 1 + 1, 0, none⟩), .pointer (some ⟨w2.heap.size, 0, none⟩)], .func (.func 45) #[] #[.pointer (some ⟨B, 0, none⟩), .pointer (some ⟨C + 1 + 1, 0, none⟩), .pointer (some ⟨w2.heap.size, 0, none⟩)]] 97 (0, 0))) := by unfold Hid; rw [← hwf, ← hse]; exact (MapKept.heap_alloc we _).1
  have HX0f : Hid (Xt w0 wf) := (HX2b.out.trans HX3.out).trans hx3f
  have hP2 : w2.heap.size < C := by
    have h1 := HX3.out.size
    have h2 : wb.heap.size = w2.heap.size + 1 := by rw [← hwb]; simp
    omega
  have hP0 : B + 1 < C := by have h1 := HX3.out.size; have h2 := HX2b.out.size; omega
  obtain ⟨P2, hP2e⟩ : ∃ P2, w2.heap.size = P2 := ⟨_, rfl⟩
  obtain ⟨G, hGs⟩ : ∃ G, w4.heap.size = G := ⟨_, rfl⟩
  obtain ⟨R, hR⟩ : ∃ R, C + 1 + 1 + 1 = R := ⟨_, rfl⟩
  obtain ⟨W0, hW0⟩ : ∃ W0, ((w4.alloc (.cells #[.pointer (some ⟨R + 1 + 1, 0, none⟩)] 29)).alloc (.cells #[.pointer (some ⟨gb, 0, none⟩)] 29)).alloc (.cells #[.func (.func 75) #[] #[]] 99) = W0 := ⟨_, rfl⟩
  rw [hsf] at HGo
  simp only [hR] at HGo HRF hsf
  simp only [hP2e] at HMW hP2 HRF
  simp only [hP2e, hR, hGs, hW0]
  have HX4W : Hid (Xt w4 W0) := by unfold Hid; rw [← hW0]; exact (((Xt.refl w4).alloc _).alloc _).alloc _
  have hsW : W0.heap.size = G + 3 := by rw [← hW0]; simp [hGs]
  have rG : W0.heap[G]? = some (.cells #[.pointer (some ⟨R + 1 + 1, 0, none⟩)] 29 (0, 0)) := by
    rw [← hW0, ← hGs]
    exact rowX (((Xt.refl _).alloc _).alloc _) (MapKept.heap_alloc w4 _).1
  have rBg : W0.heap[G + 1]? = some (.cells #[.pointer (some ⟨gb, 0, none⟩)] 29 (0, 0)) := by
    rw [← hW0, ← hGs]
    have := rowX ((Xt.refl _).alloc (.cells #[.func (.func 75) #[] #[]] 99)) (MapKept.heap_alloc (w4.alloc (.cells #[.pointer (some ⟨R + 1 + 1, 0, none⟩)] 29)) (.cells #[.pointer (some ⟨gb, 0, none⟩)] 29)).1
    simpa using this
  have rBw : W0.heap[G + 2]? = some (.cells #[.func (.func 75) #[] #[]] 99 (0, 0)) := by
    rw [← hW0, ← hGs]
    have := (MapKept.heap_alloc ((w4.alloc (.cells #[.pointer (some ⟨R + 1 + 1, 0, none⟩)] 29)).alloc (.cells #[.pointer (some ⟨gb, 0, none⟩)] 29)) (.cells #[.func (.func 75) #[] #[]] 99)).1
    simpa using this
  have HXfW : Hid (Xt wf W0) := HX4.out.trans HX4W.out
  have HXW : Hid (Xt w W0) := (HX0.out.trans HX0f.out).trans HXfW.out
  have HMV : Hid (MvAt W0 B (C + 1 + 1) P2 C (C + 1) f gl cc rr) := HMW.out.xt HXfW.out
  have HGoW : Hid (GridIs W0 (R + 1 + 1) (R + 1) []) := HGo.out.xt HX4W.out
  have HRRW := Lib.hid (rowX HXfW.out HRF.out)
  have HRG := Lib.hid rG
  have hRlt := HGo.out.lt.1
  have hGR : R + 1 + 1 < G := by omega
  have HRC := Lib.hid hR
  have hCR : C + 1 + 1 < R ∧ B + 1 < R ∧ P2 < R := by omega
  have hwB : w.heap.size ≤ R := by omega
  obtain ⟨cG, hcG⟩ : ∃ cG, mvC f gl cc rr = cG := ⟨_, rfl⟩
  obtain ⟨aG, haG⟩ : ∃ aG, mvA f gl cc rr = aG := ⟨_, rfl⟩
  have HCG := Lib.hid hcG
  have HAG := Lib.hid haG
  have HcgW : W0.cell? ⟨G + 1, 0, none⟩ = some (.pointer (some ⟨gb, 0, none⟩)) := by simp [World.cell?, rBg]
  have hplt : B < R ∧ C + 1 + 1 < R ∧ P2 < R ∧ C < R ∧ C + 1 < R := by omega
  have HPL := Lib.hid hplt
  clear hW0 hcG haG rG rBg hGs hR hP2e hwa hw0 hwb hwc hwd hwe hwf HBY HTH HVA HMW
  clear x0 x1 x2 x3 y0 y1 a0 a1 a2 a3 b0 b1 c0 c1 c2 c3 d0 d1
  generalize hA0 : Act.mk _ _ = a0
  refine (wpIn_wide (n := 25)).1 ?_
  refine rangeFunc_told (n := 25) (by omega) (gf := 116) (lb := #[.pointer (some ⟨G + 1, 0, none⟩), .pointer (some ⟨G + 2, 0, none⟩)]) (by subst hA0; rfl) (enters_of Tryz.func116 (by kernel_rfl) rfl)
    (some1_told (fun x => x == 2 * (R + 1) + 1) 75 #[] (enters_of Tryz.func75 (by kernel_rfl) rfl) (fun _ => true) w.heap.size w rfl (fun _ => True) (fun _ _ _ _ _ => trivial) (fun a W _ => all1_any a W) (25 - 1) (by omega) (G + 1) (G + 2) gb mb M HG.out W0 HXW.out trivial (by omega) HcgW rBw (fun k hk => by simp; omega))
    (fun h k => ⟨h.1.trans k.1, h.2.trans k.2⟩) (fun W l o o' hl ho hc hw => ⟨belowK_b (w := W0) (by omega) W l o o' hl ho hc hw, KeepsT.of_grown (grownBy_putObj' W l o') (fun j o2 e h2 => by cases e; rw [ho] at h2; cases h2; cases o <;> simp_all [keptO, Obj.isCells, Obj.isWalk])⟩) (Below.refl _ _) (fun _ => rfl)
    (fun pre W => MI W0 (R + 1 + 1) (R + 1) cG aG pre W)
    (fun c pre W => False)
    (MI.own (by omega))
    (fun c s X Y row hs hg hr => hs)
    (MI.start HGoW.out)
    (fun x a' W => ∃ (z : CE) (Bx By nT : Nat), z.1 = copyC x.2.1 ∧ z.2 = x.2.2 ∧ W.heap[Bx]? = some (.cells #[.int .i64 x.1.1, .int .i64 x.1.2] 24 (0, 0)) ∧ W.heap[By]? = some (.cells #[.int .i64 z.1.kind, .int .i64 z.1.v.kind, .float .f64 z.1.v.x, .string z.1.v.s, .bool z.1.v.b, .int .i64 z.1.v.f, .int .i64 z.1.t.kind, .int .i64 z.1.t.op, .float .f64 z.1.t.x, .string z.1.t.s, .bool z.1.t.b, .int .i64 z.1.t.f, .int .i64 z.1.t.ref.a.1, .int .i64 z.1.t.ref.a.2, .bool z.1.t.ref.cf, .bool z.1.t.ref.rf, .int .i64 z.1.t.to.a.1, .int .i64 z.1.t.to.a.2, .bool z.1.t.to.cf, .bool z.1.t.to.rf, .slice z.2 z.1.t.args.length z.1.t.args.length] 51 (0, 0)) ∧ smallT z.1.t ∧ ArgsIn W nT (.slice z.2 z.1.t.args.length z.1.t.args.length) z.1.t.args ∧ (x.1, x.2.1) ∈ er M ∧
      a' = { tmps := (((a0.tmps.setIfInBounds 46 (adW x.1)).setIfInBounds 47 (ceV z)).setIfInBounds 15 (.pointer (some ⟨Bx, 0, none⟩))).setIfInBounds 16 (.pointer (some ⟨By, 0, none⟩)), defers := [] })
    (fun x a' _ X Y row hs hg hr => by
      obtain ⟨z, Bx, By, nT, e1, e2, h1, h2, h3, h4, h5⟩ := hs
      exact ⟨z, Bx, By, nT, e1, e2, rowCells_own h1 hg (fun r e => (hr r e).2), rowCells_own h2 hg (fun r e => (hr r e).2), h3, h4.kept (cellsIn_walk hg (fun r e => (hr r e).2)), h5⟩)
    ?assign ?body ?done ?stop
  case stop =>
    rintro D c pre W hD hS hf hK
    exact hf.elim
  case done =>
    rintro D xs W hD hS hI hK
    subst hA0
    obtain ⟨hgr, ⟨Mo, hGo, hEo⟩⟩ := hI
    have HGo := Lib.hid hGo
    have HEo := Lib.hid hEo
    have HSS := Lib.hid (told_all hS)
    have rG := (hgr.block G (by omega) (fun e => by have := Option.some.inj e; omega)).trans HRG.out
    obtain ⟨cGG, _⟩ := one_row rG
    have HxW : Hid (Xt w W) := HXW.out.grownB hgr (fun q hq => by cases hq; omega)
    have HK := Lib.hid hK
    clear hGo hEo hS hgr rG hK
    go_wp2_with fail
    refine ⟨by simp, .inl ⟨_, _, rfl, run_takeDeferred HK.out, ?_⟩⟩
    have hxE : Xt w (W.putObj D (.deferred none)) := HxW.out.grownB (grownBy_putObj' W D _) (fun q hq => by cases hq; have := HXW.out.size; omega)
    have hGW : GridIs (W.putObj D (.deferred none)) (R + 1 + 1) (R + 1) Mo :=
      HGo.out.far (P := fun b => b = D) (fun b hb => World.putObj_heap_other hb) (fun b hb o u hu => by subst hb; rw [World.cell?, HK.out] at hu; cases hu) (by omega) (by omega)
    refine ⟨_, results_tmp2 rfl _ _ _, hxE, R + 1 + 1, R + 1, Mo, rfl, hGW, ?_⟩
    rw [HCG.out, HAG.out, ← HSS.out]; exact HEo.out
  case assign =>
    rintro l0 pre x W K hI ⟨V, hIV, ⟨hxV, hsm, nT, hA⟩, hmem⟩ hK
    subst hA0
    obtain ⟨⟨c, d⟩, tc, tp⟩ := x
    obtain ⟨z, hz1, hz2⟩ : ∃ z : CE, z.1 = copyC tc ∧ z.2 = tp := ⟨(copyC tc, tp), rfl, rfl⟩
    have hzv : copyCV tc tp = ceV z := by rw [← ceV_copy]; obtain ⟨z1, z2⟩ := z; simp only at hz1 hz2; rw [hz1, hz2]
    have hzA : smallT z.1.t ∧ ArgsIn W nT (.slice z.2 z.1.t.args.length z.1.t.args.length) z.1.t.args := by
      rw [hz1, hz2]
      refine ⟨smallT_copy _ hsm, ?_⟩
      show ArgsIn _ _ (.slice tp (copyT tc.t).args.length (copyT tc.t).args.length) (copyT tc.t).args
      rw [copyT_len, copyT_args]
      exact hA.args
    have HZ := Lib.hid (show z.1 = copyC tc ∧ z.2 = tp from ⟨hz1, hz2⟩)
    have HZA := Lib.hid hzA
    simp only [teV, hzv]
    clear hz1 hz2 hzv hzA hA hsm hIV hxV
    obtain ⟨wA, hwA, hbA, hsA, kA0, kA1⟩ := box1 W c d 24
    obtain ⟨wZ, wR, hwZ, hwR, hrZ, hrR, hxR, hsR, hxZ, hsZ⟩ := boxR wA z
    rw [hsA] at hrZ hwR hrR
    have hrA : wA.heap[W.heap.size]? = some (.cells #[.int .i64 c, .int .i64 d] 24 (0, 0)) := by rw [← hwA]; exact World.alloc_heap_new W _
    have hxWR := Lib.hid (Xt.trans hbA hxR)
    have HRA := Lib.hid ((hxR.block _ (by omega)).trans hrA)
    have HRZ := Lib.hid hrZ
    have HRR := Lib.hid hrR
    have HWR := Lib.hid hwR
    clear hrZ hwR hrR hrA kA0 kA1 hbA hxZ hxR
    gi_wp2_with (first | (refine wpListIn_store_row (P := Tryz.prog) rfl 51 _ _ rfl (W.heap.size + 1) #[.int .i64 z.1.kind, .int .i64 z.1.v.kind, .float .f64 z.1.v.x, .string z.1.v.s, .bool z.1.v.b, .int .i64 z.1.v.f, .int .i64 z.1.t.kind, .int .i64 z.1.t.op, .float .f64 z.1.t.x, .string z.1.t.s, .bool z.1.t.b, .int .i64 z.1.t.f, .int .i64 z.1.t.ref.a.1, .int .i64 z.1.t.ref.a.2, .bool z.1.t.ref.cf, .bool z.1.t.ref.rf, .int .i64 z.1.t.to.a.1, .int .i64 z.1.t.to.a.2, .bool z.1.t.to.cf, .bool z.1.t.to.rf, .slice z.2 z.1.t.args.length z.1.t.args.length] rfl rfl 51 _ HRZ.out (by kernel_rfl) rfl (by simp [Value.oneCell']) ?_; rw [HWR.out]))
    have hx := hxWR.out
    refine hK _ _ (keepsFrom_xt hx _) ⟨hx.mono (by have := hI.grown.size; have := HXW.out.size; omega), KeepsT.of_xt hx⟩ (hI.xt hx) ?_
    refine ⟨z, W.heap.size, W.heap.size + 1, nT, HZ.out.1, HZ.out.2, HRA.out, HRR.out, HZA.out.1, HZA.out.2.xt hx, hmem, ?_⟩
    simp only [List.setIfInBounds_toArray, List.set_cons_zero, List.set_cons_succ]
  case body =>
    rintro l0 pre x a' W hl0 ⟨r, hr⟩ hI ⟨z, Bx, By, nT, hz1, hz2, hBx, hBy, hzs, hzA, hmem, rfl⟩ hlt
    subst hA0
    obtain ⟨⟨c, d⟩, tc, tp⟩ := x
    simp only at hBx hz1 hz2
    obtain ⟨hgr, ⟨Mo, hGo, hEo⟩⟩ := hI
    have HGo := Lib.hid hGo
    have HEo := Lib.hid hEo
    have HGr := Lib.hid hgr
    have hgs := hgr.size
    have rG := (hgr.block G (by omega) (fun e => by have := Option.some.inj e; omega)).trans HRG.out
    have rR := (hgr.block R (by omega) (fun e => by have := Option.some.inj e; omega)).trans HRRW.out
    have HMVW : Hid (MvAt W B (C + 1 + 1) P2 C (C + 1) f gl cc rr) := HMV.out.kept (m := R) (fun b hb => hgr.block b (by omega) (fun e => by have := Option.some.inj e; omega)) HPL.out
    obtain ⟨x0, x1, _, _⟩ := cells2 hBx
    obtain ⟨⟨y0, y1, y2, y3⟩, _⟩ := cells4 HMVW.out.rf
    have HBX := Lib.hid hBx
    have HBY := Lib.hid hBy
    have HRGW := Lib.hid rG
    have HRRW2 := Lib.hid rR
    have HXWW : Hid (Xt w W) := HXW.out.grownB hgr (fun q hq => by have := Option.some.inj hq; omega)
    have HZA := Lib.hid (show smallT z.1.t ∧ ArgsIn W nT (.slice z.2 z.1.t.args.length z.1.t.args.length) z.1.t.args from ⟨hzs, hzA⟩)
    have hnm : ∀ k u, W.cell? ⟨k, 0, none⟩ = some u → k ≠ R + 1 := by
      rintro k u hk rfl
      obtain ⟨E, hm, _⟩ := HGo.out.map
      have h1 := hm.nocell 0
      rw [hk] at h1
      cases h1
    have hBm : By ≠ R + 1 := hnm By (.int .i64 z.1.kind) (by simp [World.cell?, hBy])
    have hBxm : Bx ≠ R + 1 := hnm Bx _ x0
    obtain ⟨v1, v2, v3, v4, v5⟩ := HO.out.each _ hmem
    have HVZ : Hid (gvalidB z.1 = true) := by unfold Hid; rw [hz1, gvalidB_copy]; exact v2
    have HOZ : Hid z.1.ok := by unfold Hid; rw [hz1]; exact okC_copy v5
    have HZC : Hid (copyC tc = z.1) := hz1.symm
    have HC1 := Lib.hid (in_any f.a f.b f.c f.d c d W)
    obtain ⟨vf, hvf⟩ : ∃ v, inA f (c, d) = v := ⟨_, rfl⟩
    rw [show inB f.a f.b f.c f.d c d = vf from hvf] at HC1
    obtain ⟨vg, hvg⟩ : ∃ v, inA gl (c, d) = v := ⟨_, rfl⟩
    have hq1 : cG (c, d) = if vf = true then (movG cc rr (c, d), true) else ((c, d), !vg) := by rw [← HCG.out, ← hvf, ← hvg]; rfl
    have HQ := Lib.hid hq1
    have HC2 := Lib.hid (fun V => in_any gl.a gl.b gl.c gl.d c d V)
    rw [show inB gl.a gl.b gl.c gl.d c d = vg from hvg] at HC2
    have hf29 : Fence.wide.fn 16 := trivial
    have hm1 : True := trivial
    clear v1 v2 v3 v4 v5 hmem hq1 hvf hvg
    clear hGo hEo hgr rG rR hBx hBy hz1 hz2 hzs hzA hr hlt hnm
    simp only [List.setIfInBounds_toArray, List.set_cons_zero, List.set_cons_succ]
    have HPOST : Hid (∀ (az : Act) (w8 : World) (zz : Option Addr) (q : Ad), cG (c, d) = (q, true) → GridIs w8 (R + 1 + 1) (R + 1) (putTo Mo q (contG cG aG z.1) zz) → W.grownBy w8 (some (R + 1)) → ownPostG (G + 3) (fun W W' => Below B W W' ∧ KeepsT (fun x => x == 2 * (R + 1) + 1) W W') (fun pre W => MI W0 (R + 1 + 1) (R + 1) cG aG pre W) (fun c pre W => False) (pre ++ [((c, d), tc, tp)]) W .normal az w8) := Lib.hid fun az w8 zz q hqq hG8 hgW => by
      refine ⟨⟨hgW.size, fun k o hB hk _ => (hgW.block k (Array.getElem?_eq_some_iff.1 hk).1 (fun e => by have := Option.some.inj e; omega)).trans hk⟩, ⟨⟨hgW.os, hgW.tape, hgW.output, hgW.size, fun k hk => hgW.block k (by omega) (fun e => by have := Option.some.inj e; omega)⟩, KeepsT.of_grown hgW (fun j o e ho => ?_)⟩, ⟨grownBy_two HGr.out hgW, ⟨_, hG8, ?_⟩⟩⟩
      · obtain ⟨E, hm, _⟩ := HGo.out.map
        obtain ⟨es, clk, h1, _⟩ := hm
        have e1 := Option.some.inj e
        rw [← e1, h1] at ho
        cases ho
        simp [keptO, ← e1]
      · rw [er_put, List.map_append, List.map_cons, List.map_nil, goAll_snoc, HEo.out]
        simp [tpT, goStep, hqq, HZC.out]
    cases vf
    · cases vg
      · gi_wp2_with (first
          | (gi_at_call 16; have hm0 := hm1; clear hm1 hm0; refine (callsIn_round HC1.out).mono ?_; rintro e w5 ⟨rfl, hg5⟩; have HX5 : Hid (Xt W w5) := hg5.xt; obtain ⟨e0, e1, _, _⟩ := cells2 (rowX HX5.out HBX.out); obtain ⟨⟨g0, g1, g2, g3⟩, _⟩ := cells4 (HMVW.out.xt HX5.out).rg; clear hg5)
          | (gi_at_call 16; refine (callsIn_round (HC2.out _)).mono ?_; rintro e w6 ⟨rfl, hg6⟩; have HX6 : Hid (Xt W w6) := HX5.out.trans hg6.xt; clear hg6))
        have hqq : cG (c, d) = ((c, d), true) := HQ.out
        have HF : Hid (∀ V, w6.grownBy V (some (R + 1)) → V.cell? ⟨G, 0, none⟩ = some (.pointer (some ⟨R + 1 + 1, 0, none⟩)) ∧ V.cell? ⟨Bx, 0, none⟩ = some (.int .i64 c) ∧ V.cell? ⟨Bx, 1, none⟩ = some (.int .i64 d) ∧ V.cell? ⟨R, 0, none⟩ = some (.func (.func 44) #[] #[.pointer (some ⟨B, 0, none⟩), .pointer (some ⟨C + 1 + 1, 0, none⟩), .pointer (some ⟨P2, 0, none⟩)]) ∧ V.cell? ⟨R, 1, none⟩ = some (.func (.func 45) #[] #[.pointer (some ⟨B, 0, none⟩), .pointer (some ⟨C + 1 + 1, 0, none⟩), .pointer (some ⟨P2, 0, none⟩)]) ∧ V.cell? ⟨C + 1 + 1, 0, none⟩ = some (.func (.func 43) #[] #[.pointer (some ⟨C, 0, none⟩), .pointer (some ⟨C + 1, 0, none⟩)]) ∧ V.heap[By]? = some (.cells #[.int .i64 z.1.kind, .int .i64 z.1.v.kind, .float .f64 z.1.v.x, .string z.1.v.s, .bool z.1.v.b, .int .i64 z.1.v.f, .int .i64 z.1.t.kind, .int .i64 z.1.t.op, .float .f64 z.1.t.x, .string z.1.t.s, .bool z.1.t.b, .int .i64 z.1.t.f, .int .i64 z.1.t.ref.a.1, .int .i64 z.1.t.ref.a.2, .bool z.1.t.ref.cf, .bool z.1.t.ref.rf, .int .i64 z.1.t.to.a.1, .int .i64 z.1.t.to.a.2, .bool z.1.t.to.cf, .bool z.1.t.to.rf, .slice z.2 z.1.t.args.length z.1.t.args.length] 51 (0, 0))) := Lib.hid fun V hV => by
          have k : ∀ b, b ≠ R + 1 → ∀ o u, w6.cell? ⟨b, o, none⟩ = some u → V.cell? ⟨b, o, none⟩ = some u := fun b hb o u hu => (World.cell?_of_block (w := w6) (a := ⟨b, o, none⟩) (hV.block b (World.block_lt_of_cell? w6 _ hu) (fun e => hb (by have := Option.some.inj e; omega)))).trans hu
          obtain ⟨y0', y1', _, _⟩ := cells2 (rowX HX6.out HRRW2.out)
          obtain ⟨n0, n1, _, _⟩ := cells2 (rowX HX6.out HBX.out)
          have hb6 := rowX HX6.out HBY.out
          exact ⟨k G (by omega) 0 _ (one_row (rowX HX6.out HRGW.out)).1, k _ hBxm 0 _ n0, k _ hBxm 1 _ n1, k R (by omega) 0 _ y0', k R (by omega) 1 _ y1', k _ (by omega) 0 _ (HMVW.out.xt HX6.out).rm, (hV.block By (Array.getElem?_eq_some_iff.1 hb6).1 (fun e => hBm (by have := Option.some.inj e; omega))).trans hb6⟩
        have HXB : Hid (Xt W w6.drew) := HX6.out.trans (Xt.refl w6).drew
        have HCT := Lib.hid (content_any (mv_road (m := R) B (C + 1 + 1) P2 C (C + 1) f gl cc rr HPL.out) nT z.1 z.2 z.1.t.args.length w6.drew ⟨HMVW.out.xt (HX6.out.trans ((Xt.refl w6).drew)), by have := HX6.out.size; have := (((Xt.refl w6).drew)).size; omega⟩ HZA.out.1 (HZA.out.2.xt (HX6.out.trans ((Xt.refl w6).drew))) (gvalid_okAs HVZ.out))
        rw [HCG.out, HAG.out] at HCT
        clear x0 x1 y0 y1 y2 y3 e0 e1 g0 g1 g2 g3
        refine region_round (S := fun V => w6.grownBy V (some (R + 1))) (by kernel_rfl) (by kernel_rfl) (fun _ _ h => h) (⟨rfl, rfl, rfl, Nat.le_refl _, fun _ _ _ => rfl⟩ : w6.grownBy w6.drew _) (fun hHeld => ?_)
        refine tkH 0 ?_ ?_ ?_
        rotate_left
        · intro V hSw; obtain ⟨u0, u1, u2, u3, u4, u5, u6⟩ := HF.out V hSw; clear u6; go_simp; first | done | with_reducible rfl
        try simp only [Act.put, nm]
        refine tkH 1 ?_ ?_ ?_
        rotate_left
        · intro V hSw; obtain ⟨u0, u1, u2, u3, u4, u5, u6⟩ := HF.out V hSw; clear u6; go_simp; first | done | with_reducible rfl
        try simp only [Act.put, nm]
        refine tkH 2 ?_ ?_ ?_
        rotate_left
        · intro V hSw; obtain ⟨u0, u1, u2, u3, u4, u5, u6⟩ := HF.out V hSw; clear u6; go_simp; first | done | with_reducible rfl
        try simp only [Act.put, nm]
        refine tkH 3 (.agg #[.int .i64 z.1.kind, .int .i64 z.1.v.kind, .float .f64 z.1.v.x, .string z.1.v.s, .bool z.1.v.b, .int .i64 z.1.v.f, .int .i64 z.1.t.kind, .int .i64 z.1.t.op, .float .f64 z.1.t.x, .string z.1.t.s, .bool z.1.t.b, .int .i64 z.1.t.f, .int .i64 z.1.t.ref.a.1, .int .i64 z.1.t.ref.a.2, .bool z.1.t.ref.cf, .bool z.1.t.ref.rf, .int .i64 z.1.t.to.a.1, .int .i64 z.1.t.to.a.2, .bool z.1.t.to.cf, .bool z.1.t.to.rf, .slice z.2 z.1.t.args.length z.1.t.args.length]) ?_ ?_
        · intro V hSw; exact exec_load_row 51 _ (by rfl) By (by rfl) 51 _ _ _ (HF.out V hSw).2.2.2.2.2.2 Tryz.underlying51 rfl (by kernel_rfl)
        try simp only [Act.put, nm]
        have hHeldB := hHeld
        refine rdH 4 (fun K hK => ?_)
        go_simp
        refine (HCT.out).mono ?_
        rintro e w7 ⟨a2, c2, rfl, hA7, hx7⟩
        have HX7 : Hid (Xt W w7) := HXB.out.trans hx7
        have HP := Lib.hid (gput_any nT (R + 1 + 1) (R + 1) Mo (c, d) (contG cG aG z.1) a2 c2 w7 (HGo.out.xt HX7.out) (contG_ok HOZ.out) (HT.out.xt (HXWW.out.trans HX7.out)) (contG_small HZA.out.1) hA7)
        refine hK.out _ _ (grownBy_two hHeldB (hx7.grown (some (R + 1)))) (fun hHeld2 => ?_)
        clear hK K hA7 hx7
        try simp only [Act.put, nm]
        refine rdH 5 (fun K hK => ?_)
        go_simp
        refine (HP.out).mono ?_
        rintro e w8 ⟨zz, rfl, hG8, hg8⟩
        refine hK.out _ _ (grownBy_two hHeld2 hg8) (fun hHeld3 => ?_)
        clear hK K
        refine wpAnyH_done (by kernel_rfl) ?_ _
        have hgW : W.grownBy w8 (some (R + 1)) := grownBy_two (HX7.out.grown (some (R + 1))) hg8
        clear hHeld hHeldB hHeld2 hHeld3
        gi_wp2_with fail
        exact HPOST.out _ w8 zz _ hqq hG8 hgW
      · gi_wp2_with (first
          | (gi_at_call 16; have hm0 := hm1; clear hm1 hm0; refine (callsIn_round HC1.out).mono ?_; rintro e w5 ⟨rfl, hg5⟩; have HX5 : Hid (Xt W w5) := hg5.xt; obtain ⟨e0, e1, _, _⟩ := cells2 (rowX HX5.out HBX.out); obtain ⟨⟨g0, g1, g2, g3⟩, _⟩ := cells4 (HMVW.out.xt HX5.out).rg; clear hg5)
          | (gi_at_call 16; refine (callsIn_round (HC2.out _)).mono ?_; rintro e w6 ⟨rfl, hg6⟩; have HX6 : Hid (Xt W w6) := HX5.out.trans hg6.xt; clear hg6))
        have hqq : cG (c, d) = ((c, d), false) := HQ.out
        have hx6 := HX6.out
        refine ⟨keepsFrom_xt hx6 _, ⟨hx6.mono (by omega), KeepsT.of_xt hx6⟩, ?_⟩
        refine ⟨grownBy_far HGr.out hx6.grownN (fun r e => by cases e), ⟨Mo, HGo.out.xt hx6, ?_⟩⟩
        rw [List.map_append, List.map_cons, List.map_nil, goAll_snoc, HEo.out]
        simp [tpT, goStep, hqq]
    · gi_wp2_with (first
        | (gi_at_call 16; refine (callsIn_round HC1.out).mono ?_; rintro e w6 ⟨rfl, hg6⟩; have HX6 : Hid (Xt W w6) := hg6.xt; clear hg6))
      have hqq : cG (c, d) = (movG cc rr (c, d), true) := HQ.out
      have HF : Hid (∀ V, w6.grownBy V (some (R + 1)) → V.cell? ⟨G, 0, none⟩ = some (.pointer (some ⟨R + 1 + 1, 0, none⟩)) ∧ V.cell? ⟨Bx, 0, none⟩ = some (.int .i64 c) ∧ V.cell? ⟨Bx, 1, none⟩ = some (.int .i64 d) ∧ V.cell? ⟨R, 0, none⟩ = some (.func (.func 44) #[] #[.pointer (some ⟨B, 0, none⟩), .pointer (some ⟨C + 1 + 1, 0, none⟩), .pointer (some ⟨P2, 0, none⟩)]) ∧ V.cell? ⟨R, 1, none⟩ = some (.func (.func 45) #[] #[.pointer (some ⟨B, 0, none⟩), .pointer (some ⟨C + 1 + 1, 0, none⟩), .pointer (some ⟨P2, 0, none⟩)]) ∧ V.cell? ⟨C + 1 + 1, 0, none⟩ = some (.func (.func 43) #[] #[.pointer (some ⟨C, 0, none⟩), .pointer (some ⟨C + 1, 0, none⟩)]) ∧ V.heap[By]? = some (.cells #[.int .i64 z.1.kind, .int .i64 z.1.v.kind, .float .f64 z.1.v.x, .string z.1.v.s, .bool z.1.v.b, .int .i64 z.1.v.f, .int .i64 z.1.t.kind, .int .i64 z.1.t.op, .float .f64 z.1.t.x, .string z.1.t.s, .bool z.1.t.b, .int .i64 z.1.t.f, .int .i64 z.1.t.ref.a.1, .int .i64 z.1.t.ref.a.2, .bool z.1.t.ref.cf, .bool z.1.t.ref.rf, .int .i64 z.1.t.to.a.1, .int .i64 z.1.t.to.a.2, .bool z.1.t.to.cf, .bool z.1.t.to.rf, .slice z.2 z.1.t.args.length z.1.t.args.length] 51 (0, 0))) := Lib.hid fun V hV => by
        have k : ∀ b, b ≠ R + 1 → ∀ o u, w6.cell? ⟨b, o, none⟩ = some u → V.cell? ⟨b, o, none⟩ = some u := fun b hb o u hu => (World.cell?_of_block (w := w6) (a := ⟨b, o, none⟩) (hV.block b (World.block_lt_of_cell? w6 _ hu) (fun e => hb (by have := Option.some.inj e; omega)))).trans hu
        obtain ⟨y0', y1', _, _⟩ := cells2 (rowX HX6.out HRRW2.out)
        obtain ⟨n0, n1, _, _⟩ := cells2 (rowX HX6.out HBX.out)
        have hb6 := rowX HX6.out HBY.out
        exact ⟨k G (by omega) 0 _ (one_row (rowX HX6.out HRGW.out)).1, k _ hBxm 0 _ n0, k _ hBxm 1 _ n1, k R (by omega) 0 _ y0', k R (by omega) 1 _ y1', k _ (by omega) 0 _ (HMVW.out.xt HX6.out).rm, (hV.block By (Array.getElem?_eq_some_iff.1 hb6).1 (fun e => hBm (by have := Option.some.inj e; omega))).trans hb6⟩
      have HMV1 := Lib.hid (moved1_any (c, d) C (C + 1) cc rr w6.drew ((HMVW.out.xt HX6.out).xt (Xt.refl w6).drew).rc ((HMVW.out.xt HX6.out).xt (Xt.refl w6).drew).rr)
      clear x0 x1 y0 y1 y2 y3
      refine region_round (S := fun V => w6.grownBy V (some (R + 1))) (by kernel_rfl) (by kernel_rfl) (fun _ _ h => h) (⟨rfl, rfl, rfl, Nat.le_refl _, fun _ _ _ => rfl⟩ : w6.grownBy w6.drew _) (fun hHeld => ?_)
      refine tkH 0 ?_ ?_ ?_
      rotate_left
      · intro V hSw; obtain ⟨u0, u1, u2, u3, u4, u5, u6⟩ := HF.out V hSw; clear u6; go_simp; first | done | with_reducible rfl
      try simp only [Act.put, nm]
      refine tkH 1 ?_ ?_ ?_
      rotate_left
      · intro V hSw; obtain ⟨u0, u1, u2, u3, u4, u5, u6⟩ := HF.out V hSw; clear u6; go_simp; first | done | with_reducible rfl
      try simp only [Act.put, nm]
      refine tkH 2 ?_ ?_ ?_
      rotate_left
      · intro V hSw; obtain ⟨u0, u1, u2, u3, u4, u5, u6⟩ := HF.out V hSw; clear u6; go_simp; first | done | with_reducible rfl
      try simp only [Act.put, nm]
      refine tkH 4 ?_ ?_ ?_
      rotate_left
      · intro V hSw; obtain ⟨u0, u1, u2, u3, u4, u5, u6⟩ := HF.out V hSw; clear u6; go_simp; first | done | with_reducible rfl
      try simp only [Act.put, nm]
      refine tkH 5 (.agg #[.int .i64 z.1.kind, .int .i64 z.1.v.kind, .float .f64 z.1.v.x, .string z.1.v.s, .bool z.1.v.b, .int .i64 z.1.v.f, .int .i64 z.1.t.kind, .int .i64 z.1.t.op, .float .f64 z.1.t.x, .string z.1.t.s, .bool z.1.t.b, .int .i64 z.1.t.f, .int .i64 z.1.t.ref.a.1, .int .i64 z.1.t.ref.a.2, .bool z.1.t.ref.cf, .bool z.1.t.ref.rf, .int .i64 z.1.t.to.a.1, .int .i64 z.1.t.to.a.2, .bool z.1.t.to.cf, .bool z.1.t.to.rf, .slice z.2 z.1.t.args.length z.1.t.args.length]) ?_ ?_
      · intro V hSw; exact exec_load_row 51 _ (by rfl) By (by rfl) 51 _ _ _ (HF.out V hSw).2.2.2.2.2.2 Tryz.underlying51 rfl (by kernel_rfl)
      try simp only [Act.put, nm]
      refine rdH 3 (fun K hK => ?_)
      go_simp
      refine (HMV1.out).mono ?_
      rintro e w9 ⟨rfl, hx9⟩
      have HXB : Hid (Xt W w9) := (HX6.out.trans (Xt.refl w6).drew).trans hx9
      have hx69 : Xt w6 w9 := (Xt.refl w6).drew.trans hx9
      have HCT := Lib.hid (content_any (mv_road (m := R) B (C + 1 + 1) P2 C (C + 1) f gl cc rr HPL.out) nT z.1 z.2 z.1.t.args.length w9 ⟨HMVW.out.xt (HX6.out.trans hx69), by have := HX6.out.size; have := (hx69).size; omega⟩ HZA.out.1 (HZA.out.2.xt (HX6.out.trans hx69)) (gvalid_okAs HVZ.out))
      rw [HCG.out, HAG.out] at HCT
      refine hK.out _ _ (hx69.grown (some (R + 1))) (fun hHeldB => ?_)
      clear hK K hx9
      try simp only [Act.put, nm]
      refine rdH 6 (fun K hK => ?_)
      go_simp
      refine (HCT.out).mono ?_
      rintro e w7 ⟨a2, c2, rfl, hA7, hx7⟩
      have HX7 : Hid (Xt W w7) := HXB.out.trans hx7
      have HP := Lib.hid (gput_any nT (R + 1 + 1) (R + 1) Mo (movG cc rr (c, d)) (contG cG aG z.1) a2 c2 w7 (HGo.out.xt HX7.out) (contG_ok HOZ.out) (HT.out.xt (HXWW.out.trans HX7.out)) (contG_small HZA.out.1) hA7)
      refine hK.out _ _ (grownBy_two hHeldB (hx7.grown (some (R + 1)))) (fun hHeld2 => ?_)
      clear hK K hA7 hx7
      try simp only [Act.put, nm]
      refine rdH 7 (fun K hK => ?_)
      go_simp
      refine (HP.out).mono ?_
      rintro e w8 ⟨zz, rfl, hG8, hg8⟩
      refine hK.out _ _ (grownBy_two hHeld2 hg8) (fun hHeld3 => ?_)
      clear hK K
      refine wpAnyH_done (by kernel_rfl) ?_ _
      have hgW : W.grownBy w8 (some (R + 1)) := grownBy_two (HX7.out.grown (some (R + 1))) hg8
      clear hHeld hHeldB hHeld2 hHeld3
      gi_wp2_with fail
      exact HPOST.out _ w8 zz _ hqq hG8 hgW
end Go.Proofs.YtdoeejhdenifpaaGreatDoor
