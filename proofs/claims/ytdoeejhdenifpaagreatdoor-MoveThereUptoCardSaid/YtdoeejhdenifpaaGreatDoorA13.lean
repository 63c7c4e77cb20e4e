import Derived.Test.YtdoeejhdenifpaaGreatDoorZ1
import Derived.Test.YtdoeejhdenifpaaGreatDoorW46
import Derived.StillTailTactics
import Derived.Test.YtdoeejhdenifpaaGreatDoorA12
import Derived.Deep.CutBlock
import Derived.Deep.DeepCutAuto
import Derived.Test.YtdoeejhdenifpaaGreatDoorA1
import Derived.Test.YtdoeejhdenifpaaGreatDoorM6
import Derived.Test.YtdoeejhdenifpaaGreatDoorA9
import Derived.Test.YtdoeejhdenifpaaGreatDoorA10
import Derived.Test.YtdoeejhdenifpaaGreatDoorA11
/- Equal of two grids. -/
namespace Go.Proofs.YtdoeejhdenifpaaGreatDoor
open Go.RowKit Go.Sort Go.Maps

set_option maxRecDepth 100000 in
set_option maxHeartbeats 4000000 in
theorem gequal_any (g1 g2 b1 b2 : Nat) (M1 M2 : GM) (w : World) (h1 : GridIs w g1 b1 M1) (h2 : GridIs w g2 b2 M2) :
    Calls Tryz.prog 21 #[.pointer (some ⟨g1, 0, none⟩), .pointer (some ⟨g2, 0, none⟩)] w fun e w' => e = .returned (.bool (eqMB M1 M2)) ∧ Xt w w' := by
  have c1 := h1.cell
  have c2 := h2.cell
  have HM := Lib.hid (meq_any b1 b2 M1 M2 w.drew (h1.mapG.xt (Xt.refl w).drew) (h2.mapG.xt (Xt.refl w).drew))
  clear h1 h2
  go_enter Tryz.func21, Tryz.ntmps21
  go_wp2_with fail
  refine wp_region_still_tail 15 (by kernel_rfl) (by kernel_rfl) ?_
  change wpStill _ _ (World.drew _) _ _ _
  simp only [List.take_succ_cons, List.take_zero, List.drop_succ_cons, List.drop_zero]
  still_step
  still_step
  still_step
  still_step
  still_step
  still_step
  still_step
  still_step
  still_step
  still_step
  still_step
  still_step
  still_step
  still_step
  still_step
  refine wpStill_nil ?_
  change wpList _ _ _ _ _ (World.drew _)
  refine wpList_step (fun K hK => ?_)
  go_simp
  refine HM.out.mono ?_
  rintro e w5 ⟨rfl, hx⟩
  refine hK _ _ ?_
  clear hK K
  have HX := Lib.hid hx
  clear hx
  go_wp2_with fail
  go_ret
  exact ⟨rfl, (Xt.refl w).drew.trans HX.out⟩
end Go.Proofs.YtdoeejhdenifpaaGreatDoor
/- Grids that are equal; their lengths; their bulk. -/
namespace Go.Proofs.YtdoeejhdenifpaaGreatDoor
open Go.RowKit Go.Sort Go.Maps Go.Shelf Go.MapKept
attribute [local go_sem] Oper.semAt_some

theorem bulk_put {P : PG} {a : Ad} {c : ContT} (h : BulkP P) (hc : (flatT c.t).length ≤ 1048576) : BulkP (putP P a c) := by
  unfold putP
  split
  · exact h
  split
  · exact h
  split
  · exact fun x hx => h x (List.mem_filter.1 hx).1
  split
  · exact h
  · intro x hx
    rcases mem_setM hx with rfl | hx
    · show (flatT (copyT c.t)).length ≤ 1048576
      rw [flat_copy, List.length_map]; exact hc
    · exact h x hx
theorem bulk_allP : ∀ {l : PG} {P : PG}, BulkP P → BulkP l → BulkP (allP P l)
  | [], _, h, _ => h
  | x :: l, P, h, hl => by
    show BulkP (allP (putP P x.1 x.2) l)
    exact bulk_allP (bulk_put h (hl x List.mem_cons_self)) (fun y hy => hl y (List.mem_cons_of_mem _ hy))
theorem bulk_all {l : PG} (h : BulkP l) : BulkP (allP [] l) := bulk_allP (fun x hx => by cases hx) h
theorem eqM_er {M1 M2 : GM} (h : er M1 = er M2) : eqMB M1 M2 = true := by
  refine eqMB_yes (by rw [← er_len M1, ← er_len M2, h]) (fun a ha => ?_)
  obtain ⟨x, hx⟩ := Option.isSome_iff_exists.1 (lkM_mem_iff.2 ha)
  have h1 := er_lk a M1
  rw [h, er_lk, hx] at h1
  cases hy : lkM a M2 with
  | none => rw [hy] at h1; cases h1
  | some y =>
    rw [hy] at h1
    have e : y.1 = x.1 := Option.some.inj h1
    unfold okAt
    rw [hx, hy]
    simp only
    rw [e]; exact sameCB_refl _
theorem equal_er (g1 g2 b1 b2 : Nat) (M1 M2 : GM) (w : World) (h1 : GridIs w g1 b1 M1) (h2 : GridIs w g2 b2 M2) (he : er M1 = er M2) :
    Calls Tryz.prog 21 #[.pointer (some ⟨g1, 0, none⟩), .pointer (some ⟨g2, 0, none⟩)] w fun e w' => e = .returned (.bool true) ∧ Xt w w' := by
  have h := gequal_any g1 g2 b1 b2 M1 M2 w h1 h2
  rw [eqM_er he] at h
  exact h
theorem len_n (gb mb : Nat) (M : GM) (n : Int) (w : World) (h : GridIs w gb mb M) (hn : (M.length : Int) = n) : Calls Tryz.prog 19 #[.pointer (some ⟨gb, 0, none⟩)] w fun e w' => e = .returned (.int .i64 n) ∧ w = w' := by
  rw [← hn]; exact glen_any gb mb M w h
end Go.Proofs.YtdoeejhdenifpaaGreatDoor
/- addr.In. -/
namespace Go.Proofs.YtdoeejhdenifpaaGreatDoor
open Go.RowKit Go.Sort

set_option maxHeartbeats 400000 in
theorem in_any (a b c d x y : Int) (w : World) :
    Calls Tryz.prog 16 #[.agg #[.int .i64 a, .int .i64 b, .int .i64 c, .int .i64 d], .agg #[.int .i64 x, .int .i64 y]] w fun e w' => e = .returned (.bool (inB a b c d x y)) ∧ Gr w w' := by
  unfold inB
  cases h1 : validA a b c d
  all_goals
    go_enter Tryz.func16, Tryz.ntmps16
    go_wp2_with (go_at_call 40; refine (validArea_any _ _ _ _ _).mono ?_; rintro e w' ⟨rfl, hg⟩; obtain ⟨hgc, hgf⟩ := hg.xt.cells; have hgz := hg.xt.sz)
    all_goals (go_ret; refine ⟨by congr 2; try (simp [*]; try omega), Gr.trans (((Gr.refl _).alloc _).alloc _) (by assumption)⟩)

end Go.Proofs.YtdoeejhdenifpaaGreatDoor
/- move.Move's small functions: moved, within, by. -/
namespace Go.Proofs.YtdoeejhdenifpaaGreatDoor
open Go.RowKit Go.Sort

def movG (cc rr : Int) (a : Ad) : Ad := (wrap64 (a.1 + cc), wrap64 (a.2 + rr))
set_option maxRecDepth 100000 in
set_option maxHeartbeats 2000000 in
theorem moved1_any (a : Ad) (pc pr : Nat) (cc rr : Int) (w : World) (h1 : w.cell? ⟨pc, 0, none⟩ = some (.int .i64 cc)) (h2 : w.cell? ⟨pr, 0, none⟩ = some (.int .i64 rr)) :
    Calls Tryz.prog 43 #[.agg #[.int .i64 a.1, .int .i64 a.2], .pointer (some ⟨pc, 0, none⟩), .pointer (some ⟨pr, 0, none⟩)] w fun e w' => e = .returned (.agg #[.int .i64 (movG cc rr a).1, .int .i64 (movG cc rr a).2]) ∧ Xt w w' := by
  obtain ⟨B, hB⟩ : ∃ B, w.heap.size = B := ⟨_, rfl⟩
  obtain ⟨w0, hw0⟩ : ∃ w0, w.alloc (.cells #[.int .i64 a.1, .int .i64 a.2] 24) = w0 := ⟨_, rfl⟩
  have hs0 : w0.heap.size = B + 1 := by rw [← hw0, ← hB]; simp
  have hx0 : Xt w w0 := by rw [← hw0]; exact (Xt.refl w).alloc _
  have c1 := hx0.cellsIn _ _ _ h1
  have c2 := hx0.cellsIn _ _ _ h2
  have l1 := World.block_lt_of_cell? w0 _ c1
  have l2 := World.block_lt_of_cell? w0 _ c2
  obtain ⟨b0, b1, _, _⟩ := cells2 (w := w0) (b := B) (by rw [← hw0, ← hB]; exact (MapKept.heap_alloc w _).1)
  have e1 : (w0.alloc (.cells #[.int .i64 0, .int .i64 0] 24)).cell? ⟨pc, 0, none⟩ = some (.int .i64 cc) := ((Xt.refl w0).alloc _).cellsIn _ _ _ c1
  have e2 : (w0.alloc (.cells #[.int .i64 0, .int .i64 0] 24)).cell? ⟨pr, 0, none⟩ = some (.int .i64 rr) := ((Xt.refl w0).alloc _).cellsIn _ _ _ c2
  have d0 : (w0.alloc (.cells #[.int .i64 0, .int .i64 0] 24)).cell? ⟨B, 0, none⟩ = some (.int .i64 a.1) := ((Xt.refl w0).alloc _).cellsIn _ _ _ b0
  have d1 : (w0.alloc (.cells #[.int .i64 0, .int .i64 0] 24)).cell? ⟨B, 1, none⟩ = some (.int .i64 a.2) := ((Xt.refl w0).alloc _).cellsIn _ _ _ b1
  have HX := Lib.hid hx0
  have HB := Lib.hid hs0
  unfold movG
  clear h1 h2 hx0 c1 c2 l1 l2 b0 b1
  go_enter Tryz.func43, Tryz.ntmps43
  go_wp2
  (try simp only [Exit.inBlock, Exit.then])
  refine bodyPost_ret (results_cell_row rfl _ _ (B + 1) _ _ _ _ rfl (by rw [← HB.out]; exact (MapKept.heap_alloc w0 _).1) Tryz.underlying24 rfl (by kernel_rfl)) rfl ?_
  exact ⟨rfl, HX.out.alloc _⟩
set_option maxRecDepth 100000 in
set_option maxHeartbeats 2000000 in
theorem by_any (a b : Ad) (w : World) :
    Calls Tryz.prog 42 #[.agg #[.int .i64 a.1, .int .i64 a.2], .agg #[.int .i64 b.1, .int .i64 b.2]] w fun e w' => e = .returned (.tuple #[.int .i64 (wrap64 (b.1 - a.1)), .int .i64 (wrap64 (b.2 - a.2))]) ∧ Gr w w' := by
  go_enter Tryz.func42, Tryz.ntmps42
  go_wp2
  go_region
  go_wp2
  go_ret2
  exact ⟨rfl, by repeat (first | exact Gr.refl _ | refine Gr.alloc ?_ _ | refine Gr.drew ?_)⟩
def inA (x : ArT) (a : Ad) : Bool := inB x.a x.b x.c x.d a.1 a.2
def withinA (x y : ArT) : Bool := inA y (x.a, x.b) && inA y (x.c, x.d)
set_option maxRecDepth 100000 in
set_option maxHeartbeats 2000000 in
theorem within_any (x y : ArT) (w : World) :
    Calls Tryz.prog 46 #[arT x, arT y] w fun e w' => e = .returned (.bool (withinA x y)) ∧ Xt w w' := by
  obtain ⟨B, hB⟩ : ∃ B, w.heap.size = B := ⟨_, rfl⟩
  obtain ⟨w0, hw0⟩ : ∃ w0, w.alloc (.cells #[.int .i64 x.a, .int .i64 x.b, .int .i64 x.c, .int .i64 x.d] 26) = w0 := ⟨_, rfl⟩
  have hs0 : w0.heap.size = B + 1 := by rw [← hw0, ← hB]; simp
  obtain ⟨w1, hw1⟩ : ∃ w1, w0.alloc (.cells #[.int .i64 y.a, .int .i64 y.b, .int .i64 y.c, .int .i64 y.d] 26) = w1 := ⟨_, rfl⟩
  have hx1 : Xt w w1 := by rw [← hw1, ← hw0]; exact ((Xt.refl w).alloc _).alloc _
  have HR0 : Hid (w1.heap[B]? = some (.cells #[.int .i64 x.a, .int .i64 x.b, .int .i64 x.c, .int .i64 x.d] 26 (0, 0))) := rowX (w := w0) (by rw [← hw1]; exact (Xt.refl _).alloc _) (by rw [← hw0, ← hB]; exact (MapKept.heap_alloc w _).1)
  have HR1 : Hid (w1.heap[B + 1]? = some (.cells #[.int .i64 y.a, .int .i64 y.b, .int .i64 y.c, .int .i64 y.d] 26 (0, 0))) := by unfold Hid; rw [← hw1, ← hs0]; exact (MapKept.heap_alloc w0 _).1
  have HX1 := Lib.hid hx1
  obtain ⟨⟨x0, x1, x2, x3⟩, _⟩ := cells4 HR0.out
  obtain ⟨⟨y0, y1, y2, y3⟩, _⟩ := cells4 HR1.out
  have HC1 := Lib.hid (in_any y.a y.b y.c y.d x.a x.b w1)
  obtain ⟨v1, hv1⟩ : ∃ v, inA y (x.a, x.b) = v := ⟨_, rfl⟩
  obtain ⟨v2, hv2⟩ : ∃ v, inA y (x.c, x.d) = v := ⟨_, rfl⟩
  rw [show inB y.a y.b y.c y.d x.a x.b = v1 from hv1] at HC1
  have HC2 := Lib.hid (fun V => in_any y.a y.b y.c y.d x.c x.d V)
  rw [show inB y.a y.b y.c y.d x.c x.d = v2 from hv2] at HC2
  unfold withinA
  rw [hv1, hv2]
  have hm1 : True := trivial
  clear hx1 hv1 hv2
  cases v1
  · go_enter Tryz.func46, Tryz.ntmps46
    go_wp2_with (first
      | (go_at_call 16; refine (HC1.out).mono ?_; rintro e w2 ⟨rfl, hg2⟩; have HX2 : Hid (Xt w w2) := HX1.out.trans hg2.xt; clear hg2))
    go_ret
    exact ⟨rfl, HX2.out⟩
  · go_enter Tryz.func46, Tryz.ntmps46
    go_wp2_with (first
      | (go_at_call 16; have hm0 := hm1; clear hm1 hm0; refine (HC1.out).mono ?_; rintro e w2 ⟨rfl, hg2⟩; have HX2 : Hid (Xt w w2) := HX1.out.trans hg2.xt; obtain ⟨⟨x0', x1', x2', x3'⟩, _⟩ := cells4 (rowX hg2.xt HR0.out); obtain ⟨⟨y0', y1', y2', y3'⟩, _⟩ := cells4 (rowX hg2.xt HR1.out); clear hg2)
      | (go_at_call 16; refine (HC2.out _).mono ?_; rintro e w3 ⟨rfl, hg3⟩; have HX3 : Hid (Xt w w3) := HX2.out.trans hg3.xt; clear hg3))
    go_ret
    exact ⟨rfl, HX3.out⟩
end Go.Proofs.YtdoeejhdenifpaaGreatDoor
/- move.Move's closures: what becomes of a cell. -/
namespace Go.Proofs.YtdoeejhdenifpaaGreatDoor
open Go.RowKit Go.Sort Go.MapKept
attribute [local go_sem] Oper.semAt_some

/-- What Move's closures hang on: the area that is moved, what moves a cell, where it is moved to. -/
structure MvAt (w : World) (pf pm pg pc pr : Nat) (f g : ArT) (cc rr : Int) : Prop where
  rf : w.heap[pf]? = some (.cells #[.int .i64 f.a, .int .i64 f.b, .int .i64 f.c, .int .i64 f.d] 26 (0, 0))
  rm : w.cell? ⟨pm, 0, none⟩ = some (.func (.func 43) #[] #[.pointer (some ⟨pc, 0, none⟩), .pointer (some ⟨pr, 0, none⟩)])
  rg : w.heap[pg]? = some (.cells #[.int .i64 g.a, .int .i64 g.b, .int .i64 g.c, .int .i64 g.d] 26 (0, 0))
  rc : w.cell? ⟨pc, 0, none⟩ = some (.int .i64 cc)
  rr : w.cell? ⟨pr, 0, none⟩ = some (.int .i64 rr)
theorem MvAt.xt {w w' : World} {pf pm pg pc pr : Nat} {f g : ArT} {cc rr : Int} (h : MvAt w pf pm pg pc pr f g cc rr) (hx : Xt w w') : MvAt w' pf pm pg pc pr f g cc rr :=
  ⟨rowX hx h.rf, hx.cellsIn _ _ _ h.rm, rowX hx h.rg, hx.cellsIn _ _ _ h.rc, hx.cellsIn _ _ _ h.rr⟩
theorem MvAt.kept {w w' : World} {pf pm pg pc pr m : Nat} {f g : ArT} {cc rr : Int} (h : MvAt w pf pm pg pc pr f g cc rr) (hk : ∀ b, b < m → w'.heap[b]? = w.heap[b]?) (hm : pf < m ∧ pm < m ∧ pg < m ∧ pc < m ∧ pr < m) : MvAt w' pf pm pg pc pr f g cc rr :=
  ⟨(hk _ hm.1).trans h.rf, (World.cell?_of_block (w := w) (a := ⟨pm, 0, none⟩) (hk _ hm.2.1)).trans h.rm, (hk _ hm.2.2.1).trans h.rg, (World.cell?_of_block (w := w) (a := ⟨pc, 0, none⟩) (hk _ hm.2.2.2.1)).trans h.rc, (World.cell?_of_block (w := w) (a := ⟨pr, 0, none⟩) (hk _ hm.2.2.2.2)).trans h.rr⟩
def mvC (f g : ArT) (cc rr : Int) (a : Ad) : Ad × Bool := if inA f a = true then (movG cc rr a, true) else (a, !inA g a)
def mvA (f g : ArT) (cc rr : Int) (x : ArT) : ArT × Bool := if withinA x f = true then (⟨(movG cc rr (x.a, x.b)).1, (movG cc rr (x.a, x.b)).2, (movG cc rr (x.c, x.d)).1, (movG cc rr (x.c, x.d)).2⟩, true) else (x, !withinA x g)
set_option maxRecDepth 100000 in
set_option maxHeartbeats 4000000 in
theorem mvCell_any (a : Ad) (pf pm pg pc pr : Nat) (f g : ArT) (cc rr : Int) (w : World) (h : MvAt w pf pm pg pc pr f g cc rr) :
    Calls Tryz.prog 44 #[.agg #[.int .i64 a.1, .int .i64 a.2], .pointer (some ⟨pf, 0, none⟩), .pointer (some ⟨pm, 0, none⟩), .pointer (some ⟨pg, 0, none⟩)] w fun e w' => e = .returned (.tuple #[.agg #[.int .i64 (mvC f g cc rr a).1.1, .int .i64 (mvC f g cc rr a).1.2], .bool (mvC f g cc rr a).2]) ∧ Xt w w' := by
  obtain ⟨B, hB⟩ : ∃ B, w.heap.size = B := ⟨_, rfl⟩
  obtain ⟨w0, hw0⟩ : ∃ w0, w.alloc (.cells #[.int .i64 a.1, .int .i64 a.2] 24) = w0 := ⟨_, rfl⟩
  have hs0 : w0.heap.size = B + 1 := by rw [← hw0, ← hB]; simp
  obtain ⟨w1, hw1⟩ : ∃ w1, w0.alloc (.cells #[.int .i64 0, .int .i64 0] 24) = w1 := ⟨_, rfl⟩
  have hx1 : Xt w w1 := by rw [← hw1, ← hw0]; exact ((Xt.refl w).alloc _).alloc _
  have HB : Hid (w1.heap[B]? = some (.cells #[.int .i64 a.1, .int .i64 a.2] 24 (0, 0))) := by
    unfold Hid; rw [← hw1]; exact (Below.heap_alloc w0 _ _ (by omega)).trans (by rw [← hw0, ← hB]; exact (MapKept.heap_alloc w _).1)
  have HR : Hid (w1.heap[B + 1]? = some (.cells #[.int .i64 0, .int .i64 0] 24 (0, 0))) := by
    unfold Hid; rw [← hw1, ← hs0]; exact (MapKept.heap_alloc w0 _).1
  have HPG : Hid (pg ≠ B + 1) := Lib.hid fun e => by
    have := (Array.getElem?_eq_some_iff.1 h.rg).1
    omega
  have HM := Lib.hid (h.xt hx1)
  have HX1 := Lib.hid hx1
  have hBB := Lib.hid hB
  have HCF := Lib.hid (in_any f.a f.b f.c f.d a.1 a.2 w1)
  obtain ⟨vf, hvf⟩ : ∃ v, inA f a = v := ⟨_, rfl⟩
  rw [show inB f.a f.b f.c f.d a.1 a.2 = vf from hvf] at HCF
  obtain ⟨⟨x0, x1, x2, x3⟩, _⟩ := cells4 HM.out.rf
  obtain ⟨b0, b1, _, _⟩ := cells2 HB.out
  unfold mvC
  rw [hvf]
  clear hx1 h hvf
  have hm1 : True := trivial
  cases vf
  · simp only [Bool.false_eq_true, if_false]
    obtain ⟨vg, hvg⟩ : ∃ v, inA g a = v := ⟨_, rfl⟩
    rw [hvg]
    have HVG := Lib.hid hvg
    clear hvg
    go_enter Tryz.func44, Tryz.ntmps44
    go_wp2_with (first
      | (go_at_call 16; have hm0 := hm1; clear hm1 hm0; refine (HCF.out).mono ?_; rintro e w2 ⟨rfl, hg2⟩; have HX2 : Hid (Xt w1 w2) := hg2.xt; clear hg2))
    have HX2d : Hid (Xt w1 w2.drew) := HX2.out.drew
    have HMS : Hid (∀ V, Xt w1 V → V.cell? ⟨B, 0, none⟩ = some (.int .i64 a.1) ∧ V.cell? ⟨B, 1, none⟩ = some (.int .i64 a.2) ∧ V.cell? ⟨pg, 0, none⟩ = some (.int .i64 g.a) ∧ V.cell? ⟨pg, 1, none⟩ = some (.int .i64 g.b) ∧ V.cell? ⟨pg, 2, none⟩ = some (.int .i64 g.c) ∧ V.cell? ⟨pg, 3, none⟩ = some (.int .i64 g.d)) := Lib.hid fun V hV => by
      obtain ⟨b0, b1, _, _⟩ := cells2 (rowX hV HB.out)
      obtain ⟨⟨x0, x1, x2, x3⟩, _⟩ := cells4 (HM.out.xt hV).rg
      exact ⟨b0, b1, x0, x1, x2, x3⟩
    have hlg := HM.out.rg
    have hpgB : pg < B + 1 ∨ B + 1 < pg ∨ pg = B + 1 := by omega
    have HCG := Lib.hid (in_any g.a g.b g.c g.d a.1 a.2 w2.drew)
    rw [show inB g.a g.b g.c g.d a.1 a.2 = vg from HVG.out] at HCG
    have HMT : Hid (∀ V, Xt w1 V → ((V.setCell ⟨B + 1, 0, none⟩ (.int .i64 a.1)).setCell ⟨B + 1, 1, none⟩ (.int .i64 a.2)).cell? ⟨B, 0, none⟩ = some (.int .i64 a.1) ∧ ((V.setCell ⟨B + 1, 0, none⟩ (.int .i64 a.1)).setCell ⟨B + 1, 1, none⟩ (.int .i64 a.2)).cell? ⟨B, 1, none⟩ = some (.int .i64 a.2) ∧ ((V.setCell ⟨B + 1, 0, none⟩ (.int .i64 a.1)).setCell ⟨B + 1, 1, none⟩ (.int .i64 a.2)).cell? ⟨pg, 0, none⟩ = some (.int .i64 g.a) ∧ ((V.setCell ⟨B + 1, 0, none⟩ (.int .i64 a.1)).setCell ⟨B + 1, 1, none⟩ (.int .i64 a.2)).cell? ⟨pg, 1, none⟩ = some (.int .i64 g.b) ∧ ((V.setCell ⟨B + 1, 0, none⟩ (.int .i64 a.1)).setCell ⟨B + 1, 1, none⟩ (.int .i64 a.2)).cell? ⟨pg, 2, none⟩ = some (.int .i64 g.c) ∧ ((V.setCell ⟨B + 1, 0, none⟩ (.int .i64 a.1)).setCell ⟨B + 1, 1, none⟩ (.int .i64 a.2)).cell? ⟨pg, 3, none⟩ = some (.int .i64 g.d)) := Lib.hid fun V hV => by
      obtain ⟨b0, b1, x0, x1, x2, x3⟩ := HMS.out V hV
      have hk : ∀ b o u, b ≠ B + 1 → V.cell? ⟨b, o, none⟩ = some u → ((V.setCell ⟨B + 1, 0, none⟩ (.int .i64 a.1)).setCell ⟨B + 1, 1, none⟩ (.int .i64 a.2)).cell? ⟨b, o, none⟩ = some u := fun b o u hb hu => (World.cell?_setCell_other _ _ _ _ (by simp)).trans ((World.cell?_setCell_other _ _ _ _ (by simp)).trans hu)
      exact ⟨hk _ _ _ (by omega) b0, hk _ _ _ (by omega) b1, hk _ _ _ HPG.out x0, hk _ _ _ HPG.out x1, hk _ _ _ HPG.out x2, hk _ _ _ HPG.out x3⟩
    clear hlg hpgB
    refine wp_region_held_drew (S := fun V => V.cell? ⟨B, 0, none⟩ = some (.int .i64 a.1) ∧ V.cell? ⟨B, 1, none⟩ = some (.int .i64 a.2) ∧ V.cell? ⟨pg, 0, none⟩ = some (.int .i64 g.a) ∧ V.cell? ⟨pg, 1, none⟩ = some (.int .i64 g.b) ∧ V.cell? ⟨pg, 2, none⟩ = some (.int .i64 g.c) ∧ V.cell? ⟨pg, 3, none⟩ = some (.int .i64 g.d)) (by kernel_rfl) (HMS.out _ HX2d.out) (fun hHeld => ?_)
    refine tkH 0 ?_ ?_ ?_
    rotate_left
    · intro V hSw; (try dsimp only at hSw); obtain ⟨u0, u1, u2, u3, u4, u5⟩ := hSw; go_simp; first | done | with_reducible rfl
    try simp only [Act.put, nm]
    refine tkH 1 ?_ ?_ ?_
    rotate_left
    · intro V hSw; (try dsimp only at hSw); obtain ⟨u0, u1, u2, u3, u4, u5⟩ := hSw; go_simp; first | done | with_reducible rfl
    try simp only [Act.put, nm]
    refine tkH 2 ?_ ?_ ?_
    rotate_left
    · intro V hSw; (try dsimp only at hSw); obtain ⟨u0, u1, u2, u3, u4, u5⟩ := hSw; go_simp; first | done | with_reducible rfl
    try simp only [Act.put, nm]
    refine rdH 3 (fun K hK => ?_)
    go_simp
    refine (HCG.out).mono ?_
    rintro e w3 ⟨rfl, hg3⟩
    have HX3 : Hid (Xt w1 w3) := HX2d.out.trans hg3.xt
    obtain ⟨e0', e1', g0', g1'⟩ := cells2 (rowX HX3.out HR.out)
    refine hK.out _ _ (HMS.out _ HX3.out) (fun hHeld2 => ?_)
    clear hK K hg3
    try simp only [Act.put, nm]
    refine tkH 4 ?_ ?_ ?_
    rotate_left
    · intro V hSw; (try dsimp only at hSw); obtain ⟨u0, u1, u2, u3, u4, u5⟩ := hSw; go_simp; first | done | with_reducible rfl
    try simp only [Act.put, nm]
    refine rdH 5 (fun K hK => ?_)
    go_simp
    refine hK.out _ _ (HMT.out _ HX3.out) (fun hHeld3 => ?_)
    clear hK K
    try simp only [Act.put, nm]
    refine tkH 6 ?_ ?_ ?_
    rotate_left
    · intro V hSw; (try dsimp only at hSw); obtain ⟨u0, u1, u2, u3, u4, u5⟩ := hSw; go_simp; first | done | with_reducible rfl
    try simp only [Act.put, nm]
    refine wpAnyH_done (by kernel_rfl) ?_ _
    go_wp2_with fail
    have hrow : ((w3.setCell ⟨B + 1, 0, none⟩ (.int .i64 a.1)).setCell ⟨B + 1, 1, none⟩ (.int .i64 a.2)).heap[B + 1]? = some (.cells #[.int .i64 a.1, .int .i64 a.2] 24 (0, 0)) := setCell_row (setCell_row (rowX HX3.out HR.out) 0 _) 1 _
    have hxe : Xt w ((w3.setCell ⟨B + 1, 0, none⟩ (.int .i64 a.1)).setCell ⟨B + 1, 1, none⟩ (.int .i64 a.2)) := (((HX1.out.trans HX3.out).grownB (setCell_grown _ _ _ _) (fun q hq => by cases hq; rw [hBB.out]; omega))).grownB (setCell_grown _ _ _ _) (fun q hq => by cases hq; rw [hBB.out]; omega)
    (try simp only [Exit.inBlock, Exit.then])
    refine bodyPost_ret (v := .tuple #[.agg #[.int .i64 a.1, .int .i64 a.2], .bool (!vg)]) ?_ rfl ⟨rfl, hxe⟩
    rw [results_cell_tmp rfl]
    show ((asAddr (.pointer (some ⟨B + 1, 0, none⟩))).run _ _).andThen _ = _
    simp only [asAddr, Sem.run_pure, Result.andThen_ok, run_loadVar_row _ _ _ 24 _ _ _ hrow Tryz.underlying24 rfl (by kernel_rfl)]
    rfl
  · simp only [if_true]
    have hb2 : True := trivial
    go_enter Tryz.func44, Tryz.ntmps44
    go_wp2_with (first
      | (go_at_call 16; have hm0 := hm1; clear hm1 hm0; refine (HCF.out).mono ?_; rintro e w2 ⟨rfl, hg2⟩; have HX2 : Hid (Xt w1 w2) := hg2.xt; obtain ⟨b0', b1', _, _⟩ := cells2 (rowX hg2.xt HB.out); obtain ⟨e0, e1, g0, g1⟩ := cells2 (rowX hg2.xt HR.out); have HM2 := Lib.hid (HM.out.xt hg2.xt); have hrm := HM2.out.rm; clear hg2)
      | (go_at_call 43; refine (moved1_any a pc pr cc rr _ HM2.out.rc HM2.out.rr).mono ?_; rintro e w3 ⟨rfl, hx3⟩; have HX3 : Hid (Xt w1 w3) := HX2.out.trans hx3; obtain ⟨e0', e1', g0', g1'⟩ := cells2 (rowX HX3.out HR.out); clear hx3))
    have hrow : ((w3.setCell ⟨B + 1, 0, none⟩ (.int .i64 (movG cc rr a).1)).setCell ⟨B + 1, 1, none⟩ (.int .i64 (movG cc rr a).2)).heap[B + 1]? = some (.cells #[.int .i64 (movG cc rr a).1, .int .i64 (movG cc rr a).2] 24 (0, 0)) := setCell_row (setCell_row (rowX HX3.out HR.out) 0 _) 1 _
    have hxe : Xt w ((w3.setCell ⟨B + 1, 0, none⟩ (.int .i64 (movG cc rr a).1)).setCell ⟨B + 1, 1, none⟩ (.int .i64 (movG cc rr a).2)) := (((HX1.out.trans HX3.out).grownB (setCell_grown _ _ _ _) (fun q hq => by cases hq; rw [hBB.out]; omega))).grownB (setCell_grown _ _ _ _) (fun q hq => by cases hq; rw [hBB.out]; omega)
    (try simp only [Exit.inBlock, Exit.then])
    refine bodyPost_ret (v := .tuple #[.agg #[.int .i64 (movG cc rr a).1, .int .i64 (movG cc rr a).2], .bool true]) ?_ rfl ⟨rfl, hxe⟩
    rw [results_cell_tmp rfl]
    show ((asAddr (.pointer (some ⟨B + 1, 0, none⟩))).run _ _).andThen _ = _
    simp only [asAddr, Sem.run_pure, Result.andThen_ok, run_loadVar_row _ _ _ 24 _ _ _ hrow Tryz.underlying24 rfl (by kernel_rfl)]
    rfl
end Go.Proofs.YtdoeejhdenifpaaGreatDoor
/- move.Move's closures: what becomes of an area (made by mkr3.py). -/
namespace Go.Proofs.YtdoeejhdenifpaaGreatDoor
open Go.RowKit Go.Sort Go.MapKept
attribute [local go_sem] Oper.semAt_some

set_option maxRecDepth 100000 in
set_option maxHeartbeats 4000000 in
theorem mvArea_any (x : ArT) (pf pm pg pc pr : Nat) (f g : ArT) (cc rr : Int) (w : World) (h : MvAt w pf pm pg pc pr f g cc rr) :
    Calls Tryz.prog 45 #[arT x, .pointer (some ⟨pf, 0, none⟩), .pointer (some ⟨pm, 0, none⟩), .pointer (some ⟨pg, 0, none⟩)] w fun e w' => e = .returned (.tuple #[arT (mvA f g cc rr x).1, .bool (mvA f g cc rr x).2]) ∧ Xt w w' := by
  obtain ⟨B, hB⟩ : ∃ B, w.heap.size = B := ⟨_, rfl⟩
  obtain ⟨w0, hw0⟩ : ∃ w0, w.alloc (.cells #[.int .i64 x.a, .int .i64 x.b, .int .i64 x.c, .int .i64 x.d] 26) = w0 := ⟨_, rfl⟩
  have hs0 : w0.heap.size = B + 1 := by rw [← hw0, ← hB]; simp
  obtain ⟨w1, hw1⟩ : ∃ w1, w0.alloc (.cells #[.int .i64 0, .int .i64 0, .int .i64 0, .int .i64 0] 26) = w1 := ⟨_, rfl⟩
  have hx1 : Xt w w1 := by rw [← hw1, ← hw0]; exact ((Xt.refl w).alloc _).alloc _
  have HB : Hid (w1.heap[B]? = some (.cells #[.int .i64 x.a, .int .i64 x.b, .int .i64 x.c, .int .i64 x.d] 26 (0, 0))) := by
    unfold Hid; rw [← hw1]; exact (Below.heap_alloc w0 _ _ (by omega)).trans (by rw [← hw0, ← hB]; exact (MapKept.heap_alloc w _).1)
  have HR : Hid (w1.heap[B + 1]? = some (.cells #[.int .i64 0, .int .i64 0, .int .i64 0, .int .i64 0] 26 (0, 0))) := by
    unfold Hid; rw [← hw1, ← hs0]; exact (MapKept.heap_alloc w0 _).1
  have HPG : Hid (pg ≠ B + 1) := Lib.hid fun e => by
    have := (Array.getElem?_eq_some_iff.1 h.rg).1
    omega
  have HPM : Hid (pm ≠ B + 1) := Lib.hid fun e => by
    have := World.block_lt_of_cell? w _ h.rm
    simp only at this
    omega
  have HM := Lib.hid (h.xt hx1)
  have HX1 := Lib.hid hx1
  have hBB := Lib.hid hB
  have HCF := Lib.hid (within_any x f w1)
  obtain ⟨vf, hvf⟩ : ∃ v, withinA x f = v := ⟨_, rfl⟩
  rw [hvf] at HCF
  obtain ⟨⟨x0, x1, x2, x3⟩, _⟩ := cells4 HM.out.rf
  obtain ⟨⟨b0, b1, b2, b3⟩, _⟩ := cells4 HB.out
  unfold mvA
  rw [hvf]
  clear hx1 h hvf
  have hm1 : True := trivial
  cases vf
  · simp only [Bool.false_eq_true, if_false]
    obtain ⟨vg, hvg⟩ : ∃ v, withinA x g = v := ⟨_, rfl⟩
    rw [hvg]
    have HVG := Lib.hid hvg
    clear hvg
    go_enter Tryz.func45, Tryz.ntmps45
    go_wp2_with (first
      | (go_at_call 46; have hm0 := hm1; clear hm1 hm0; refine (HCF.out).mono ?_; rintro e w2 ⟨rfl, hg2⟩; have HX2 : Hid (Xt w1 w2) := hg2; clear hg2))
    have HX2d : Hid (Xt w1 w2.drew) := HX2.out.drew
    have HMS : Hid (∀ V, Xt w1 V → V.cell? ⟨B, 0, none⟩ = some (.int .i64 x.a) ∧ V.cell? ⟨B, 1, none⟩ = some (.int .i64 x.b) ∧ V.cell? ⟨B, 2, none⟩ = some (.int .i64 x.c) ∧ V.cell? ⟨B, 3, none⟩ = some (.int .i64 x.d) ∧ V.cell? ⟨pg, 0, none⟩ = some (.int .i64 g.a) ∧ V.cell? ⟨pg, 1, none⟩ = some (.int .i64 g.b) ∧ V.cell? ⟨pg, 2, none⟩ = some (.int .i64 g.c) ∧ V.cell? ⟨pg, 3, none⟩ = some (.int .i64 g.d)) := Lib.hid fun V hV => by
      obtain ⟨⟨b0, b1, b2, b3⟩, _⟩ := cells4 (rowX hV HB.out)
      obtain ⟨⟨x0, x1, x2, x3⟩, _⟩ := cells4 (HM.out.xt hV).rg
      exact ⟨b0, b1, b2, b3, x0, x1, x2, x3⟩
    have HCG := Lib.hid (within_any x g w2.drew)
    rw [HVG.out] at HCG
    have HMT : Hid (∀ V, Xt w1 V → ((((V.setCell ⟨B + 1, 0, none⟩ (.int .i64 x.a)).setCell ⟨B + 1, 1, none⟩ (.int .i64 x.b)).setCell ⟨B + 1, 2, none⟩ (.int .i64 x.c)).setCell ⟨B + 1, 3, none⟩ (.int .i64 x.d)).cell? ⟨B, 0, none⟩ = some (.int .i64 x.a) ∧ ((((V.setCell ⟨B + 1, 0, none⟩ (.int .i64 x.a)).setCell ⟨B + 1, 1, none⟩ (.int .i64 x.b)).setCell ⟨B + 1, 2, none⟩ (.int .i64 x.c)).setCell ⟨B + 1, 3, none⟩ (.int .i64 x.d)).cell? ⟨B, 1, none⟩ = some (.int .i64 x.b) ∧ ((((V.setCell ⟨B + 1, 0, none⟩ (.int .i64 x.a)).setCell ⟨B + 1, 1, none⟩ (.int .i64 x.b)).setCell ⟨B + 1, 2, none⟩ (.int .i64 x.c)).setCell ⟨B + 1, 3, none⟩ (.int .i64 x.d)).cell? ⟨B, 2, none⟩ = some (.int .i64 x.c) ∧ ((((V.setCell ⟨B + 1, 0, none⟩ (.int .i64 x.a)).setCell ⟨B + 1, 1, none⟩ (.int .i64 x.b)).setCell ⟨B + 1, 2, none⟩ (.int .i64 x.c)).setCell ⟨B + 1, 3, none⟩ (.int .i64 x.d)).cell? ⟨B, 3, none⟩ = some (.int .i64 x.d) ∧ ((((V.setCell ⟨B + 1, 0, none⟩ (.int .i64 x.a)).setCell ⟨B + 1, 1, none⟩ (.int .i64 x.b)).setCell ⟨B + 1, 2, none⟩ (.int .i64 x.c)).setCell ⟨B + 1, 3, none⟩ (.int .i64 x.d)).cell? ⟨pg, 0, none⟩ = some (.int .i64 g.a) ∧ ((((V.setCell ⟨B + 1, 0, none⟩ (.int .i64 x.a)).setCell ⟨B + 1, 1, none⟩ (.int .i64 x.b)).setCell ⟨B + 1, 2, none⟩ (.int .i64 x.c)).setCell ⟨B + 1, 3, none⟩ (.int .i64 x.d)).cell? ⟨pg, 1, none⟩ = some (.int .i64 g.b) ∧ ((((V.setCell ⟨B + 1, 0, none⟩ (.int .i64 x.a)).setCell ⟨B + 1, 1, none⟩ (.int .i64 x.b)).setCell ⟨B + 1, 2, none⟩ (.int .i64 x.c)).setCell ⟨B + 1, 3, none⟩ (.int .i64 x.d)).cell? ⟨pg, 2, none⟩ = some (.int .i64 g.c) ∧ ((((V.setCell ⟨B + 1, 0, none⟩ (.int .i64 x.a)).setCell ⟨B + 1, 1, none⟩ (.int .i64 x.b)).setCell ⟨B + 1, 2, none⟩ (.int .i64 x.c)).setCell ⟨B + 1, 3, none⟩ (.int .i64 x.d)).cell? ⟨pg, 3, none⟩ = some (.int .i64 g.d)) := Lib.hid fun V hV => by
      obtain ⟨k0, k1, k2, k3, k4, k5, k6, k7⟩ := HMS.out V hV
      have hk : ∀ b o u, b ≠ B + 1 → V.cell? ⟨b, o, none⟩ = some u → ((((V.setCell ⟨B + 1, 0, none⟩ (.int .i64 x.a)).setCell ⟨B + 1, 1, none⟩ (.int .i64 x.b)).setCell ⟨B + 1, 2, none⟩ (.int .i64 x.c)).setCell ⟨B + 1, 3, none⟩ (.int .i64 x.d)).cell? ⟨b, o, none⟩ = some u := fun b o u hb hu => (World.cell?_setCell_other _ _ _ _ (by simp)).trans ((World.cell?_setCell_other _ _ _ _ (by simp)).trans ((World.cell?_setCell_other _ _ _ _ (by simp)).trans ((World.cell?_setCell_other _ _ _ _ (by simp)).trans hu)))
      exact ⟨hk _ _ _ (by omega) k0, hk _ _ _ (by omega) k1, hk _ _ _ (by omega) k2, hk _ _ _ (by omega) k3, hk _ _ _ HPG.out k4, hk _ _ _ HPG.out k5, hk _ _ _ HPG.out k6, hk _ _ _ HPG.out k7⟩
    refine wp_region_held_drew (S := fun V => V.cell? ⟨B, 0, none⟩ = some (.int .i64 x.a) ∧ V.cell? ⟨B, 1, none⟩ = some (.int .i64 x.b) ∧ V.cell? ⟨B, 2, none⟩ = some (.int .i64 x.c) ∧ V.cell? ⟨B, 3, none⟩ = some (.int .i64 x.d) ∧ V.cell? ⟨pg, 0, none⟩ = some (.int .i64 g.a) ∧ V.cell? ⟨pg, 1, none⟩ = some (.int .i64 g.b) ∧ V.cell? ⟨pg, 2, none⟩ = some (.int .i64 g.c) ∧ V.cell? ⟨pg, 3, none⟩ = some (.int .i64 g.d)) (by kernel_rfl) (HMS.out _ HX2d.out) (fun hHeld => ?_)
    refine tkH 0 ?_ ?_ ?_
    rotate_left
    · intro V hSw; (try dsimp only at hSw); obtain ⟨u0, u1, u2, u3, u4, u5, u6, u7⟩ := hSw; go_simp; first | done | with_reducible rfl
    try simp only [Act.put, nm]
    refine tkH 1 ?_ ?_ ?_
    rotate_left
    · intro V hSw; (try dsimp only at hSw); obtain ⟨u0, u1, u2, u3, u4, u5, u6, u7⟩ := hSw; go_simp; first | done | with_reducible rfl
    try simp only [Act.put, nm]
    refine tkH 2 ?_ ?_ ?_
    rotate_left
    · intro V hSw; (try dsimp only at hSw); obtain ⟨u0, u1, u2, u3, u4, u5, u6, u7⟩ := hSw; go_simp; first | done | with_reducible rfl
    try simp only [Act.put, nm]
    refine rdH 3 (fun K hK => ?_)
    go_simp
    refine (HCG.out).mono ?_
    rintro e w3 ⟨rfl, hg3⟩
    have HX3 : Hid (Xt w1 w3) := HX2d.out.trans hg3
    obtain ⟨⟨e0, e1, e2, e3⟩, ⟨g0, g1, g2, g3⟩⟩ := cells4 (rowX HX3.out HR.out)
    refine hK.out _ _ (HMS.out _ HX3.out) (fun hHeld2 => ?_)
    clear hK K hg3
    try simp only [Act.put, nm]
    refine tkH 4 ?_ ?_ ?_
    rotate_left
    · intro V hSw; (try dsimp only at hSw); obtain ⟨u0, u1, u2, u3, u4, u5, u6, u7⟩ := hSw; go_simp; first | done | with_reducible rfl
    try simp only [Act.put, nm]
    refine rdH 5 (fun K hK => ?_)
    go_simp
    refine hK.out _ _ (HMT.out _ HX3.out) (fun hHeld3 => ?_)
    clear hK K
    try simp only [Act.put, nm]
    refine tkH 6 ?_ ?_ ?_
    rotate_left
    · intro V hSw; (try dsimp only at hSw); obtain ⟨u0, u1, u2, u3, u4, u5, u6, u7⟩ := hSw; go_simp; first | done | with_reducible rfl
    try simp only [Act.put, nm]
    refine wpAnyH_done (by kernel_rfl) ?_ _
    go_wp2_with fail
    have hrow : ((((w3.setCell ⟨B + 1, 0, none⟩ (.int .i64 x.a)).setCell ⟨B + 1, 1, none⟩ (.int .i64 x.b)).setCell ⟨B + 1, 2, none⟩ (.int .i64 x.c)).setCell ⟨B + 1, 3, none⟩ (.int .i64 x.d)).heap[B + 1]? = some (.cells #[.int .i64 x.a, .int .i64 x.b, .int .i64 x.c, .int .i64 x.d] 26 (0, 0)) := setCell_row (setCell_row (setCell_row (setCell_row (rowX HX3.out HR.out) 0 _) 1 _) 2 _) 3 _
    have hgr : ∀ {A C : World}, Xt w A → C = A → Xt w C := fun h e => e ▸ h
    have hone : ∀ (A : World) (o : Nat) (u : Value), Xt w A → Xt w (A.setCell ⟨B + 1, o, none⟩ u) := fun A o u h => h.grownB (setCell_grown _ _ _ _) (fun q hq => by cases hq; rw [hBB.out]; omega)
    have hxe : Xt w ((((w3.setCell ⟨B + 1, 0, none⟩ (.int .i64 x.a)).setCell ⟨B + 1, 1, none⟩ (.int .i64 x.b)).setCell ⟨B + 1, 2, none⟩ (.int .i64 x.c)).setCell ⟨B + 1, 3, none⟩ (.int .i64 x.d)) := hone _ _ _ (hone _ _ _ (hone _ _ _ (hone _ _ _ (HX1.out.trans HX3.out))))
    (try simp only [Exit.inBlock, Exit.then])
    refine bodyPost_ret (v := .tuple #[.agg #[.int .i64 x.a, .int .i64 x.b, .int .i64 x.c, .int .i64 x.d], .bool (!vg)]) ?_ rfl ⟨rfl, hxe⟩
    rw [results_cell_tmp rfl]
    show ((asAddr (.pointer (some ⟨B + 1, 0, none⟩))).run _ _).andThen _ = _
    simp only [asAddr, Sem.run_pure, Result.andThen_ok, run_loadVar_row _ _ _ 26 _ _ _ hrow Tryz.underlying26 rfl (by kernel_rfl)]
    rfl
  · simp only [if_true]
    go_enter Tryz.func45, Tryz.ntmps45
    go_wp2_with (first
      | (go_at_call 46; have hm0 := hm1; clear hm1 hm0; refine (HCF.out).mono ?_; rintro e w2 ⟨rfl, hg2⟩; have HX2 : Hid (Xt w1 w2) := hg2; clear hg2))
    have HX2d : Hid (Xt w1 w2.drew) := HX2.out.drew
    have HMS : Hid (∀ V, Xt w1 V → V.cell? ⟨B, 0, none⟩ = some (.int .i64 x.a) ∧ V.cell? ⟨B, 1, none⟩ = some (.int .i64 x.b) ∧ V.cell? ⟨B, 2, none⟩ = some (.int .i64 x.c) ∧ V.cell? ⟨B, 3, none⟩ = some (.int .i64 x.d) ∧ V.cell? ⟨pm, 0, none⟩ = some (.func (.func 43) #[] #[.pointer (some ⟨pc, 0, none⟩), .pointer (some ⟨pr, 0, none⟩)])) := Lib.hid fun V hV => by
      obtain ⟨⟨b0, b1, b2, b3⟩, _⟩ := cells4 (rowX hV HB.out)
      exact ⟨b0, b1, b2, b3, (HM.out.xt hV).rm⟩
    have HMT : Hid (∀ V, Xt w1 V → ((((V.setCell ⟨B + 1, 0, none⟩ (.int .i64 (movG cc rr (x.a, x.b)).1)).setCell ⟨B + 1, 1, none⟩ (.int .i64 (movG cc rr (x.a, x.b)).2)).setCell ⟨B + 1, 2, none⟩ (.int .i64 (movG cc rr (x.c, x.d)).1)).setCell ⟨B + 1, 3, none⟩ (.int .i64 (movG cc rr (x.c, x.d)).2)).cell? ⟨B, 0, none⟩ = some (.int .i64 x.a) ∧ ((((V.setCell ⟨B + 1, 0, none⟩ (.int .i64 (movG cc rr (x.a, x.b)).1)).setCell ⟨B + 1, 1, none⟩ (.int .i64 (movG cc rr (x.a, x.b)).2)).setCell ⟨B + 1, 2, none⟩ (.int .i64 (movG cc rr (x.c, x.d)).1)).setCell ⟨B + 1, 3, none⟩ (.int .i64 (movG cc rr (x.c, x.d)).2)).cell? ⟨B, 1, none⟩ = some (.int .i64 x.b) ∧ ((((V.setCell ⟨B + 1, 0, none⟩ (.int .i64 (movG cc rr (x.a, x.b)).1)).setCell ⟨B + 1, 1, none⟩ (.int .i64 (movG cc rr (x.a, x.b)).2)).setCell ⟨B + 1, 2, none⟩ (.int .i64 (movG cc rr (x.c, x.d)).1)).setCell ⟨B + 1, 3, none⟩ (.int .i64 (movG cc rr (x.c, x.d)).2)).cell? ⟨B, 2, none⟩ = some (.int .i64 x.c) ∧ ((((V.setCell ⟨B + 1, 0, none⟩ (.int .i64 (movG cc rr (x.a, x.b)).1)).setCell ⟨B + 1, 1, none⟩ (.int .i64 (movG cc rr (x.a, x.b)).2)).setCell ⟨B + 1, 2, none⟩ (.int .i64 (movG cc rr (x.c, x.d)).1)).setCell ⟨B + 1, 3, none⟩ (.int .i64 (movG cc rr (x.c, x.d)).2)).cell? ⟨B, 3, none⟩ = some (.int .i64 x.d) ∧ ((((V.setCell ⟨B + 1, 0, none⟩ (.int .i64 (movG cc rr (x.a, x.b)).1)).setCell ⟨B + 1, 1, none⟩ (.int .i64 (movG cc rr (x.a, x.b)).2)).setCell ⟨B + 1, 2, none⟩ (.int .i64 (movG cc rr (x.c, x.d)).1)).setCell ⟨B + 1, 3, none⟩ (.int .i64 (movG cc rr (x.c, x.d)).2)).cell? ⟨pm, 0, none⟩ = some (.func (.func 43) #[] #[.pointer (some ⟨pc, 0, none⟩), .pointer (some ⟨pr, 0, none⟩)])) := Lib.hid fun V hV => by
      obtain ⟨k0, k1, k2, k3, k4⟩ := HMS.out V hV
      have hk : ∀ b o u, b ≠ B + 1 → V.cell? ⟨b, o, none⟩ = some u → ((((V.setCell ⟨B + 1, 0, none⟩ (.int .i64 (movG cc rr (x.a, x.b)).1)).setCell ⟨B + 1, 1, none⟩ (.int .i64 (movG cc rr (x.a, x.b)).2)).setCell ⟨B + 1, 2, none⟩ (.int .i64 (movG cc rr (x.c, x.d)).1)).setCell ⟨B + 1, 3, none⟩ (.int .i64 (movG cc rr (x.c, x.d)).2)).cell? ⟨b, o, none⟩ = some u := fun b o u hb hu => (World.cell?_setCell_other _ _ _ _ (by simp)).trans ((World.cell?_setCell_other _ _ _ _ (by simp)).trans ((World.cell?_setCell_other _ _ _ _ (by simp)).trans ((World.cell?_setCell_other _ _ _ _ (by simp)).trans hu)))
      exact ⟨hk _ _ _ (by omega) k0, hk _ _ _ (by omega) k1, hk _ _ _ (by omega) k2, hk _ _ _ (by omega) k3, hk _ _ _ HPM.out k4⟩
    refine wp_region_held_drew (S := fun V => V.cell? ⟨B, 0, none⟩ = some (.int .i64 x.a) ∧ V.cell? ⟨B, 1, none⟩ = some (.int .i64 x.b) ∧ V.cell? ⟨B, 2, none⟩ = some (.int .i64 x.c) ∧ V.cell? ⟨B, 3, none⟩ = some (.int .i64 x.d) ∧ V.cell? ⟨pm, 0, none⟩ = some (.func (.func 43) #[] #[.pointer (some ⟨pc, 0, none⟩), .pointer (some ⟨pr, 0, none⟩)])) (by kernel_rfl) (HMS.out _ HX2d.out) (fun hHeld => ?_)
    refine tkH 0 ?_ ?_ ?_
    rotate_left
    · intro V hSw; (try dsimp only at hSw); obtain ⟨u0, u1, u2, u3, u4⟩ := hSw; go_simp; first | done | with_reducible rfl
    try simp only [Act.put, nm]
    refine tkH 1 ?_ ?_ ?_
    rotate_left
    · intro V hSw; (try dsimp only at hSw); obtain ⟨u0, u1, u2, u3, u4⟩ := hSw; go_simp; first | done | with_reducible rfl
    try simp only [Act.put, nm]
    refine tkH 2 ?_ ?_ ?_
    rotate_left
    · intro V hSw; (try dsimp only at hSw); obtain ⟨u0, u1, u2, u3, u4⟩ := hSw; go_simp; first | done | with_reducible rfl
    try simp only [Act.put, nm]
    refine tkH 4 ?_ ?_ ?_
    rotate_left
    · intro V hSw; (try dsimp only at hSw); obtain ⟨u0, u1, u2, u3, u4⟩ := hSw; go_simp; first | done | with_reducible rfl
    try simp only [Act.put, nm]
    refine tkH 5 ?_ ?_ ?_
    rotate_left
    · intro V hSw; (try dsimp only at hSw); obtain ⟨u0, u1, u2, u3, u4⟩ := hSw; go_simp; first | done | with_reducible rfl
    try simp only [Act.put, nm]
    refine tkH 6 ?_ ?_ ?_
    rotate_left
    · intro V hSw; (try dsimp only at hSw); obtain ⟨u0, u1, u2, u3, u4⟩ := hSw; go_simp; first | done | with_reducible rfl
    try simp only [Act.put, nm]
    refine rdH 3 (fun K hK => ?_)
    go_simp
    refine (moved1_any (x.a, x.b) pc pr cc rr _ (HM.out.xt HX2d.out).rc (HM.out.xt HX2d.out).rr).mono ?_
    rintro e v3 ⟨rfl, hv3⟩
    have HV3 : Hid (Xt w1 v3) := HX2d.out.trans hv3
    refine hK.out _ _ (HMS.out _ HV3.out) (fun hHeldA => ?_)
    clear hK K hv3
    try simp only [Act.put, nm]
    refine rdH 7 (fun K hK => ?_)
    go_simp
    refine (moved1_any (x.c, x.d) pc pr cc rr _ (HM.out.xt HV3.out).rc (HM.out.xt HV3.out).rr).mono ?_
    rintro e w3 ⟨rfl, hw3⟩
    have HX3 : Hid (Xt w1 w3) := HV3.out.trans hw3
    obtain ⟨⟨e0, e1, e2, e3⟩, ⟨g0, g1, g2, g3⟩⟩ := cells4 (rowX HX3.out HR.out)
    refine hK.out _ _ (HMS.out _ HX3.out) (fun hHeldB => ?_)
    clear hK K hw3
    try simp only [Act.put, nm]
    refine tkH 8 ?_ ?_ ?_
    rotate_left
    · intro V hSw; (try dsimp only at hSw); obtain ⟨u0, u1, u2, u3, u4⟩ := hSw; go_simp; first | done | with_reducible rfl
    try simp only [Act.put, nm]
    refine rdH 9 (fun K hK => ?_)
    go_simp
    refine hK.out _ _ (HMT.out _ HX3.out) (fun hHeld3 => ?_)
    clear hK K
    try simp only [Act.put, nm]
    refine tkH 10 ?_ ?_ ?_
    rotate_left
    · intro V hSw; (try dsimp only at hSw); obtain ⟨u0, u1, u2, u3, u4⟩ := hSw; go_simp; first | done | with_reducible rfl
    try simp only [Act.put, nm]
    refine wpAnyH_done (by kernel_rfl) ?_ _
    go_wp2_with fail
    have hrow : ((((w3.setCell ⟨B + 1, 0, none⟩ (.int .i64 (movG cc rr (x.a, x.b)).1)).setCell ⟨B + 1, 1, none⟩ (.int .i64 (movG cc rr (x.a, x.b)).2)).setCell ⟨B + 1, 2, none⟩ (.int .i64 (movG cc rr (x.c, x.d)).1)).setCell ⟨B + 1, 3, none⟩ (.int .i64 (movG cc rr (x.c, x.d)).2)).heap[B + 1]? = some (.cells #[.int .i64 (movG cc rr (x.a, x.b)).1, .int .i64 (movG cc rr (x.a, x.b)).2, .int .i64 (movG cc rr (x.c, x.d)).1, .int .i64 (movG cc rr (x.c, x.d)).2] 26 (0, 0)) := setCell_row (setCell_row (setCell_row (setCell_row (rowX HX3.out HR.out) 0 _) 1 _) 2 _) 3 _
    have hgr : ∀ {A C : World}, Xt w A → C = A → Xt w C := fun h e => e ▸ h
    have hone : ∀ (A : World) (o : Nat) (u : Value), Xt w A → Xt w (A.setCell ⟨B + 1, o, none⟩ u) := fun A o u h => h.grownB (setCell_grown _ _ _ _) (fun q hq => by cases hq; rw [hBB.out]; omega)
    have hxe : Xt w ((((w3.setCell ⟨B + 1, 0, none⟩ (.int .i64 (movG cc rr (x.a, x.b)).1)).setCell ⟨B + 1, 1, none⟩ (.int .i64 (movG cc rr (x.a, x.b)).2)).setCell ⟨B + 1, 2, none⟩ (.int .i64 (movG cc rr (x.c, x.d)).1)).setCell ⟨B + 1, 3, none⟩ (.int .i64 (movG cc rr (x.c, x.d)).2)) := hone _ _ _ (hone _ _ _ (hone _ _ _ (hone _ _ _ (HX1.out.trans HX3.out))))
    (try simp only [Exit.inBlock, Exit.then])
    refine bodyPost_ret (v := .tuple #[.agg #[.int .i64 (movG cc rr (x.a, x.b)).1, .int .i64 (movG cc rr (x.a, x.b)).2, .int .i64 (movG cc rr (x.c, x.d)).1, .int .i64 (movG cc rr (x.c, x.d)).2], .bool true]) ?_ rfl ⟨rfl, hxe⟩
    rw [results_cell_tmp rfl]
    show ((asAddr (.pointer (some ⟨B + 1, 0, none⟩))).run _ _).andThen _ = _
    simp only [asAddr, Sem.run_pure, Result.andThen_ok, run_loadVar_row _ _ _ 26 _ _ _ hrow Tryz.underlying26 rfl (by kernel_rfl)]
    rfl
end Go.Proofs.YtdoeejhdenifpaaGreatDoor
/- quadrillelaw22's shifted and small; move.there (made by mkr4.py). -/
namespace Go.Proofs.YtdoeejhdenifpaaGreatDoor
open Go.RowKit Go.Sort Go.MapKept
attribute [local go_sem] Oper.semAt_some

set_option maxRecDepth 100000 in
set_option maxHeartbeats 2000000 in
theorem shifted_any (a : Ad) (i j : Int) (w : World) :
    Calls Tryz.prog 11 #[.agg #[.int .i64 a.1, .int .i64 a.2], .int .i64 i, .int .i64 j] w fun e w' => e = .returned (.agg #[.int .i64 (wrap64 (a.1 + i)), .int .i64 (wrap64 (a.2 + j))]) ∧ Xt w w' := by
  obtain ⟨B, hB⟩ : ∃ B, w.heap.size = B := ⟨_, rfl⟩
  obtain ⟨w0, hw0⟩ : ∃ w0, w.alloc (.cells #[.int .i64 a.1, .int .i64 a.2] 24) = w0 := ⟨_, rfl⟩
  have hs0 : w0.heap.size = B + 1 := by rw [← hw0, ← hB]; simp
  obtain ⟨w1, hw1⟩ : ∃ w1, w0.alloc (.cells #[.int .i64 0, .int .i64 0] 24) = w1 := ⟨_, rfl⟩
  have HX1 : Hid (Xt w w1) := by unfold Hid; rw [← hw1, ← hw0]; exact ((Xt.refl w).alloc _).alloc _
  have HR0 : Hid (w1.heap[B]? = some (.cells #[.int .i64 a.1, .int .i64 a.2] 24 (0, 0))) := rowX (w := w0) (by rw [← hw1]; exact (Xt.refl _).alloc _) (by rw [← hw0, ← hB]; exact (MapKept.heap_alloc w _).1)
  have HR1 : Hid (w1.heap[B + 1]? = some (.cells #[.int .i64 0, .int .i64 0] 24 (0, 0))) := by unfold Hid; rw [← hw1, ← hs0]; exact (MapKept.heap_alloc w0 _).1
  obtain ⟨b0, b1, _, _⟩ := cells2 HR0.out
  go_enter Tryz.func11, Tryz.ntmps11
  go_wp2_with (first
    | (go_at_call 14; refine (at_any (wrap64 (a.1 + i), wrap64 (a.2 + j)) _).mono ?_; rintro e w2 ⟨rfl, hg2⟩; have HX2 : Hid (Xt w1 w2) := hg2.xt; obtain ⟨e0, e1, g0, g1⟩ := cells2 (rowX HX2.out HR1.out); clear hg2))
  have hrow : ((w2.setCell ⟨B + 1, 0, none⟩ (.int .i64 (wrap64 (a.1 + i)))).setCell ⟨B + 1, 1, none⟩ (.int .i64 (wrap64 (a.2 + j)))).heap[B + 1]? = some (.cells #[.int .i64 (wrap64 (a.1 + i)), .int .i64 (wrap64 (a.2 + j))] 24 (0, 0)) := setCell_row (setCell_row (rowX HX2.out HR1.out) 0 _) 1 _
  have hone : ∀ (A : World) (o : Nat) (u : Value), Xt w A → Xt w (A.setCell ⟨B + 1, o, none⟩ u) := fun A o u h => h.grownB (setCell_grown _ _ _ _) (fun q hq => by cases hq; rw [hB]; omega)
  have hxe := hone _ 1 (.int .i64 (wrap64 (a.2 + j))) (hone _ 0 (.int .i64 (wrap64 (a.1 + i))) (HX1.out.trans HX2.out))
  (try simp only [Exit.inBlock, Exit.then])
  refine bodyPost_ret (results_cell_row rfl _ _ (B + 1) _ _ _ _ rfl hrow Tryz.underlying24 rfl (by kernel_rfl)) rfl ?_
  exact ⟨rfl, hxe⟩
def lastOf (f : ArT) (g : Ad) : Ad := (wrap64 (wrap64 (g.1 + f.c) - f.a), wrap64 (wrap64 (g.2 + f.d) - f.b))
def thereA (f : ArT) (g : Ad) : ArT := ⟨g.1, g.2, (lastOf f g).1, (lastOf f g).2⟩
set_option maxRecDepth 100000 in
set_option maxHeartbeats 4000000 in
theorem there_any (f : ArT) (g : Ad) (w : World) :
    Calls Tryz.prog 41 #[arT f, .agg #[.int .i64 g.1, .int .i64 g.2]] w fun e w' => e = .returned (.tuple #[arT (thereA f g), .bool (validB g.1 g.2 && validB (lastOf f g).1 (lastOf f g).2)]) ∧ Xt w w' := by
  obtain ⟨B, hB⟩ : ∃ B, w.heap.size = B := ⟨_, rfl⟩
  obtain ⟨w0, hw0⟩ : ∃ w0, w.alloc (.cells #[.int .i64 f.a, .int .i64 f.b, .int .i64 f.c, .int .i64 f.d] 26) = w0 := ⟨_, rfl⟩
  have hs0 : w0.heap.size = B + 1 := by rw [← hw0, ← hB]; simp
  obtain ⟨w1, hw1⟩ : ∃ w1, w0.alloc (.cells #[.int .i64 g.1, .int .i64 g.2] 24) = w1 := ⟨_, rfl⟩
  have hs1 : w1.heap.size = B + 1 + 1 := by rw [← hw1]; simp [hs0]
  obtain ⟨w2, hw2⟩ : ∃ w2, w1.alloc (.cells #[.int .i64 0, .int .i64 0, .int .i64 0, .int .i64 0] 26) = w2 := ⟨_, rfl⟩
  have hs2 : w2.heap.size = B + 1 + 1 + 1 := by rw [← hw2]; simp [hs1]
  have HX2 : Hid (Xt w w2) := by unfold Hid; rw [← hw2, ← hw1, ← hw0]; exact (((Xt.refl w).alloc _).alloc _).alloc _
  have HR0 : Hid (w2.heap[B]? = some (.cells #[.int .i64 f.a, .int .i64 f.b, .int .i64 f.c, .int .i64 f.d] 26 (0, 0))) := rowX (w := w0) (by rw [← hw2, ← hw1]; exact ((Xt.refl _).alloc _).alloc _) (by rw [← hw0, ← hB]; exact (MapKept.heap_alloc w _).1)
  have HR1 : Hid (w2.heap[B + 1]? = some (.cells #[.int .i64 g.1, .int .i64 g.2] 24 (0, 0))) := rowX (w := w1) (by rw [← hw2]; exact (Xt.refl _).alloc _) (by rw [← hw1, ← hs0]; exact (MapKept.heap_alloc w0 _).1)
  have HR2 : Hid (w2.heap[B + 1 + 1]? = some (.cells #[.int .i64 0, .int .i64 0, .int .i64 0, .int .i64 0] 26 (0, 0))) := by unfold Hid; rw [← hw2, ← hs1]; exact (MapKept.heap_alloc w1 _).1
  obtain ⟨⟨x0, x1, x2, x3⟩, _⟩ := cells4 HR0.out
  obtain ⟨y0, y1, _, _⟩ := cells2 HR1.out
  obtain ⟨la, hla⟩ : ∃ la, lastOf f g = la := ⟨_, rfl⟩
  have HLA := Lib.hid hla
  have hl1 : wrap64 (wrap64 (g.1 + f.c) - f.a) = la.1 := by rw [← hla]; rfl
  have hl2 : wrap64 (wrap64 (g.2 + f.d) - f.b) = la.2 := by rw [← hla]; rfl
  obtain ⟨v1, hv1⟩ : ∃ v, validB g.1 g.2 = v := ⟨_, rfl⟩
  obtain ⟨v2, hv2⟩ : ∃ v, validB la.1 la.2 = v := ⟨_, rfl⟩
  have HC1 := Lib.hid (fun V => valid_any g.1 g.2 V)
  rw [hv1] at HC1
  have HC2 := Lib.hid (fun V => valid_any la.1 la.2 V)
  rw [hv2] at HC2
  unfold thereA
  rw [hla, hv1, hv2]
  clear hv1 hv2 hla
  go_enter Tryz.func41, Tryz.ntmps41
  go_upto_region 2 with fail
  simp only [hl1, hl2]
  obtain ⟨wl, hwl⟩ : ∃ wl, w2.alloc (.cells #[.int .i64 la.1, .int .i64 la.2] 24) = wl := ⟨_, rfl⟩
  have HXL : Hid (Xt w2 wl) := by unfold Hid; rw [← hwl]; exact (Xt.refl _).alloc _
  have HRL : Hid (wl.heap[B + 1 + 1 + 1]? = some (.cells #[.int .i64 la.1, .int .i64 la.2] 24 (0, 0))) := by unfold Hid; rw [← hwl, ← hs2]; exact (MapKept.heap_alloc w2 _).1
  simp only [hwl]
  clear hwl
  have HMS : Hid (∀ V, Xt wl V → V.cell? ⟨B + 1, 0, none⟩ = some (.int .i64 g.1) ∧ V.cell? ⟨B + 1, 1, none⟩ = some (.int .i64 g.2) ∧ V.cell? ⟨B + 1 + 1 + 1, 0, none⟩ = some (.int .i64 la.1) ∧ V.cell? ⟨B + 1 + 1 + 1, 1, none⟩ = some (.int .i64 la.2)) := Lib.hid fun V hV => by
    obtain ⟨b0, b1, _, _⟩ := cells2 (rowX (HXL.out.trans hV) HR1.out)
    obtain ⟨x0, x1, _, _⟩ := cells2 (rowX hV HRL.out)
    exact ⟨b0, b1, x0, x1⟩
  have HW0 : Hid (Xt wl wl.drew) := (Xt.refl wl).drew
  have HHH : Hid (∀ (A : World), Xt w A → Xt w ((((A.setCell ⟨B + 1 + 1, 0, none⟩ (.int .i64 g.1)).setCell ⟨B + 1 + 1, 1, none⟩ (.int .i64 g.2)).setCell ⟨B + 1 + 1, 2, none⟩ (.int .i64 la.1)).setCell ⟨B + 1 + 1, 3, none⟩ (.int .i64 la.2))) := Lib.hid fun A hA => by
    have hone : ∀ (A : World) (o : Nat) (u : Value), Xt w A → Xt w (A.setCell ⟨B + 1 + 1, o, none⟩ u) := fun A o u h => h.grownB (setCell_grown _ _ _ _) (fun q hq => by cases hq; rw [hB]; omega)
    exact hone _ _ _ (hone _ _ _ (hone _ _ _ (hone _ _ _ hA)))
  have HMT : Hid (∀ V, Xt wl V → ((((V.setCell ⟨B + 1 + 1, 0, none⟩ (.int .i64 g.1)).setCell ⟨B + 1 + 1, 1, none⟩ (.int .i64 g.2)).setCell ⟨B + 1 + 1, 2, none⟩ (.int .i64 la.1)).setCell ⟨B + 1 + 1, 3, none⟩ (.int .i64 la.2)).cell? ⟨B + 1, 0, none⟩ = some (.int .i64 g.1) ∧ ((((V.setCell ⟨B + 1 + 1, 0, none⟩ (.int .i64 g.1)).setCell ⟨B + 1 + 1, 1, none⟩ (.int .i64 g.2)).setCell ⟨B + 1 + 1, 2, none⟩ (.int .i64 la.1)).setCell ⟨B + 1 + 1, 3, none⟩ (.int .i64 la.2)).cell? ⟨B + 1, 1, none⟩ = some (.int .i64 g.2) ∧ ((((V.setCell ⟨B + 1 + 1, 0, none⟩ (.int .i64 g.1)).setCell ⟨B + 1 + 1, 1, none⟩ (.int .i64 g.2)).setCell ⟨B + 1 + 1, 2, none⟩ (.int .i64 la.1)).setCell ⟨B + 1 + 1, 3, none⟩ (.int .i64 la.2)).cell? ⟨B + 1 + 1 + 1, 0, none⟩ = some (.int .i64 la.1) ∧ ((((V.setCell ⟨B + 1 + 1, 0, none⟩ (.int .i64 g.1)).setCell ⟨B + 1 + 1, 1, none⟩ (.int .i64 g.2)).setCell ⟨B + 1 + 1, 2, none⟩ (.int .i64 la.1)).setCell ⟨B + 1 + 1, 3, none⟩ (.int .i64 la.2)).cell? ⟨B + 1 + 1 + 1, 1, none⟩ = some (.int .i64 la.2)) := Lib.hid fun V hV => by
    obtain ⟨k0, k1, k2, k3⟩ := HMS.out V hV
    have hk : ∀ b o u, b ≠ B + 1 + 1 → V.cell? ⟨b, o, none⟩ = some u → ((((V.setCell ⟨B + 1 + 1, 0, none⟩ (.int .i64 g.1)).setCell ⟨B + 1 + 1, 1, none⟩ (.int .i64 g.2)).setCell ⟨B + 1 + 1, 2, none⟩ (.int .i64 la.1)).setCell ⟨B + 1 + 1, 3, none⟩ (.int .i64 la.2)).cell? ⟨b, o, none⟩ = some u := fun b o u hb hu => (World.cell?_setCell_other _ _ _ _ (by simp)).trans ((World.cell?_setCell_other _ _ _ _ (by simp)).trans ((World.cell?_setCell_other _ _ _ _ (by simp)).trans ((World.cell?_setCell_other _ _ _ _ (by simp)).trans hu)))
    exact ⟨hk _ _ _ (by omega) k0, hk _ _ _ (by omega) k1, hk _ _ _ (by omega) k2, hk _ _ _ (by omega) k3⟩
  refine wp_region_held_drew (S := fun V => V.cell? ⟨B + 1, 0, none⟩ = some (.int .i64 g.1) ∧ V.cell? ⟨B + 1, 1, none⟩ = some (.int .i64 g.2) ∧ V.cell? ⟨B + 1 + 1 + 1, 0, none⟩ = some (.int .i64 la.1) ∧ V.cell? ⟨B + 1 + 1 + 1, 1, none⟩ = some (.int .i64 la.2)) (by kernel_rfl) (HMS.out _ HW0.out) (fun hHeld => ?_)
  refine tkH 0 ?_ ?_ ?_
  rotate_left
  · intro V hSw; (try dsimp only at hSw); obtain ⟨u0, u1, u2, u3⟩ := hSw; go_simp; first | done | with_reducible rfl
  try simp only [Act.put, nm]
  refine tkH 1 ?_ ?_ ?_
  rotate_left
  · intro V hSw; (try dsimp only at hSw); obtain ⟨u0, u1, u2, u3⟩ := hSw; go_simp; first | done | with_reducible rfl
  try simp only [Act.put, nm]
  refine tkH 2 ?_ ?_ ?_
  rotate_left
  · intro V hSw; (try dsimp only at hSw); obtain ⟨u0, u1, u2, u3⟩ := hSw; go_simp; first | done | with_reducible rfl
  try simp only [Act.put, nm]
  refine tkH 3 ?_ ?_ ?_
  rotate_left
  · intro V hSw; (try dsimp only at hSw); obtain ⟨u0, u1, u2, u3⟩ := hSw; go_simp; first | done | with_reducible rfl
  try simp only [Act.put, nm]
  refine rdH 4 (fun K hK => ?_)
  go_simp
  refine (HC1.out _).mono ?_
  rintro e w3 ⟨rfl, hw3⟩
  have HX3 : Hid (Xt wl w3) := (by unfold Hid; rw [hw3]; exact HW0.out.alloc _)
  cases v1
  · refine hK.out _ _ (HMS.out _ HX3.out) (fun hHeld2 => ?_)
    clear hK K hw3
    try simp only [Act.put, nm]
    refine tkH 5 ?_ ?_ ?_
    rotate_left
    · intro V hSw; (try dsimp only at hSw); obtain ⟨u0, u1, u2, u3⟩ := hSw; go_simp; first | done | with_reducible rfl
    try simp only [Act.put, nm]
    refine skH 6 ?_
    try simp only [Act.put, nm]
    refine rdH 7 (fun K hK => ?_)
    go_simp
    refine hK.out _ _ (HMS.out _ HX3.out) (fun hHeld2' => ?_)
    clear hK K
    try simp only [Act.put, nm]
    obtain ⟨⟨e0, e1, e2, e3⟩, ⟨g0, g1, g2, g3⟩⟩ := cells4 (rowX (HXL.out.trans HX3.out) HR2.out)
    refine tkH 8 ?_ ?_ ?_
    rotate_left
    · intro V hSw; (try dsimp only at hSw); obtain ⟨u0, u1, u2, u3⟩ := hSw; go_simp; first | done | with_reducible rfl
    try simp only [Act.put, nm]
    refine rdH 9 (fun K hK => ?_)
    go_simp
    refine hK.out _ _ (HMT.out _ HX3.out) (fun hHeld3 => ?_)
    clear hK K
    try simp only [Act.put, nm]
    refine tkH 10 ?_ ?_ ?_
    rotate_left
    · intro V hSw; (try dsimp only at hSw); obtain ⟨u0, u1, u2, u3⟩ := hSw; go_simp; first | done | with_reducible rfl
    try simp only [Act.put, nm]
    refine wpAnyH_done (by kernel_rfl) ?_ _
    go_wp2_with fail
    have hrow : ((((w3.setCell ⟨B + 1 + 1, 0, none⟩ (.int .i64 g.1)).setCell ⟨B + 1 + 1, 1, none⟩ (.int .i64 g.2)).setCell ⟨B + 1 + 1, 2, none⟩ (.int .i64 la.1)).setCell ⟨B + 1 + 1, 3, none⟩ (.int .i64 la.2)).heap[B + 1 + 1]? = some (.cells #[.int .i64 g.1, .int .i64 g.2, .int .i64 la.1, .int .i64 la.2] 26 (0, 0)) := setCell_row (setCell_row (setCell_row (setCell_row (rowX (HXL.out.trans HX3.out) HR2.out) 0 _) 1 _) 2 _) 3 _
    have hxe := HHH.out w3 ((HX2.out.trans HXL.out).trans HX3.out)
    (try simp only [Exit.inBlock, Exit.then])
    refine bodyPost_ret (v := .tuple #[.agg #[.int .i64 g.1, .int .i64 g.2, .int .i64 la.1, .int .i64 la.2], .bool false]) ?_ rfl ⟨rfl, hxe⟩
    rw [results_cell_tmp rfl]
    show ((asAddr (.pointer (some ⟨B + 1 + 1, 0, none⟩))).run _ _).andThen _ = _
    simp only [asAddr, Sem.run_pure, Result.andThen_ok, run_loadVar_row _ _ _ 26 _ _ _ hrow Tryz.underlying26 rfl (by kernel_rfl)]
    rfl
  · refine hK.out _ _ (HMS.out _ HX3.out) (fun hHeld2 => ?_)
    clear hK K hw3
    try simp only [Act.put, nm]
    refine tkH 5 ?_ ?_ ?_
    rotate_left
    · intro V hSw; (try dsimp only at hSw); obtain ⟨u0, u1, u2, u3⟩ := hSw; go_simp; first | done | with_reducible rfl
    try simp only [Act.put, nm]
    refine tkH 6 ?_ ?_ ?_
    rotate_left
    · intro V hSw; (try dsimp only at hSw); obtain ⟨u0, u1, u2, u3⟩ := hSw; go_simp; first | done | with_reducible rfl
    try simp only [Act.put, nm]
    refine rdH 7 (fun K hK => ?_)
    go_simp
    refine (HC2.out _).mono ?_
    rintro e w4 ⟨rfl, hw4⟩
    have HX3 : Hid (Xt wl w4) := (by unfold Hid; rw [hw4]; exact HX3.out.alloc _)
    refine hK.out _ _ (HMS.out _ HX3.out) (fun hHeld2' => ?_)
    clear hK K hw4
    try simp only [Act.put, nm]
    obtain ⟨⟨e0, e1, e2, e3⟩, ⟨g0, g1, g2, g3⟩⟩ := cells4 (rowX (HXL.out.trans HX3.out) HR2.out)
    refine tkH 8 ?_ ?_ ?_
    rotate_left
    · intro V hSw; (try dsimp only at hSw); obtain ⟨u0, u1, u2, u3⟩ := hSw; go_simp; first | done | with_reducible rfl
    try simp only [Act.put, nm]
    refine rdH 9 (fun K hK => ?_)
    go_simp
    refine hK.out _ _ (HMT.out _ HX3.out) (fun hHeld3 => ?_)
    clear hK K
    try simp only [Act.put, nm]
    refine tkH 10 ?_ ?_ ?_
    rotate_left
    · intro V hSw; (try dsimp only at hSw); obtain ⟨u0, u1, u2, u3⟩ := hSw; go_simp; first | done | with_reducible rfl
    try simp only [Act.put, nm]
    refine wpAnyH_done (by kernel_rfl) ?_ _
    go_wp2_with fail
    have hrow : ((((w4.setCell ⟨B + 1 + 1, 0, none⟩ (.int .i64 g.1)).setCell ⟨B + 1 + 1, 1, none⟩ (.int .i64 g.2)).setCell ⟨B + 1 + 1, 2, none⟩ (.int .i64 la.1)).setCell ⟨B + 1 + 1, 3, none⟩ (.int .i64 la.2)).heap[B + 1 + 1]? = some (.cells #[.int .i64 g.1, .int .i64 g.2, .int .i64 la.1, .int .i64 la.2] 26 (0, 0)) := setCell_row (setCell_row (setCell_row (setCell_row (rowX (HXL.out.trans HX3.out) HR2.out) 0 _) 1 _) 2 _) 3 _
    have hxe := HHH.out w4 ((HX2.out.trans HXL.out).trans HX3.out)
    (try simp only [Exit.inBlock, Exit.then])
    refine bodyPost_ret (v := .tuple #[.agg #[.int .i64 g.1, .int .i64 g.2, .int .i64 la.1, .int .i64 la.2], .bool v2]) ?_ rfl ⟨rfl, hxe⟩
    rw [results_cell_tmp rfl]
    show ((asAddr (.pointer (some ⟨B + 1 + 1, 0, none⟩))).run _ _).andThen _ = _
    simp only [asAddr, Sem.run_pure, Result.andThen_ok, run_loadVar_row _ _ _ 26 _ _ _ hrow Tryz.underlying26 rfl (by kernel_rfl)]
    rfl
end Go.Proofs.YtdoeejhdenifpaaGreatDoor
