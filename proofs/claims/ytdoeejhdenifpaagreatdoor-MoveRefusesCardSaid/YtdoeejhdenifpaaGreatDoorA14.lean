import Derived.Test.YtdoeejhdenifpaaGreatDoorZ1
import Derived.Test.YtdoeejhdenifpaaGreatDoorA11
import Derived.Test.YtdoeejhdenifpaaGreatDoorA12
import Derived.Test.YtdoeejhdenifpaaGreatDoorA5
import Derived.Test.YtdoeejhdenifpaaGreatDoorA10
import Derived.Test.YtdoeejhdenifpaaGreatDoorA13
import Derived.Test.YtdoeejhdenifpaaGreatDoorA8
import Derived.RangeFuncWrites
import Derived.StillTailTactics
import Derived.Test.YtdoeejhdenifpaaGreatDoorA7
import Derived.Test.YtdoeejhdenifpaaGreatDoorW7
import Derived.Lib.Bytealg
import Derived.Lib.Hide
/- In, as a range. -/
namespace Go.Proofs.YtdoeejhdenifpaaGreatDoor
open Go.RowKit Go.Sort Go.Maps Go.Shelf
theorem gin_in (n : Nat) (hn : 2 ≤ n) (p : Option Addr) (x : Ar) (w : World) :
    CallsIn Fence.wide n Tryz.prog 69 #[.pointer p, .agg #[.int .i64 x.1.1, .int .i64 x.1.2, .int .i64 x.2.1, .int .i64 x.2.2]] w fun e w' => e = .returned (.func (.func 116) #[] #[.pointer (some ⟨w.heap.size + 1, 0, none⟩), .pointer (some ⟨w.heap.size + 2, 0, none⟩)]) ∧
     w' = ((w.alloc (.cells #[.int .i64 x.1.1, .int .i64 x.1.2, .int .i64 x.2.1, .int .i64 x.2.2] 26)).alloc (.cells #[.pointer p] 29)).alloc (.cells #[.func (.func 111) #[] #[.pointer (some ⟨w.heap.size, 0, none⟩)]] 99) := by
 have h1 : 1 ≤ n := by omega
 have hf : Fence.wide.fn 74 := trivial
 refine callsIn_of_wp Tryz.func69 rfl trivial ?_ rfl
 simp only [Tryz.ntmps69, List.size_toArray, List.length_cons, List.length_nil, Nat.reduceAdd, Nat.reduceSub, Array.replicate_succ, Array.replicate_zero, List.push_toArray, List.append_toArray, List.nil_append, List.cons_append]
 gi_wp2_with (gi_at_call 74; refine (some_in (n - 1) p _ ⟨_, _, rfl⟩ _).mono ?_; rintro e w' ⟨rfl, rfl⟩)
 go_ret
 exact ⟨by simp, by simp⟩
end Go.Proofs.YtdoeejhdenifpaaGreatDoor
/- grid.Clone; what In wants (made by mkt5.py). -/
namespace Go.Proofs.YtdoeejhdenifpaaGreatDoor
open Go.RowKit Go.Sort Go.Maps Go.Shelf Go.MapKept
set_option maxRecDepth 100000 in
set_option maxHeartbeats 1000000 in
theorem gclone_any (gb mb : Nat) (M : GM) (w : World) (h : GridIs w gb mb M) : Calls Tryz.prog 31 #[.pointer (some ⟨gb, 0, none⟩)] w fun e w' => e = .returned (.pointer (some ⟨w.heap.size + 1, 0, none⟩)) ∧ GridIs w' (w.heap.size + 1) w.heap.size M ∧ Xt w w' := by
 have HG := Lib.hid h
 have hc := h.cell
 obtain ⟨E, ⟨es, clk, h1, h2⟩, hE⟩ := h.map
 have HC := Lib.hid (mclone_any mb es clk w h1)
 clear h h1
 go_enter Tryz.func31, Tryz.ntmps31
 go_wp2_with (first | (go_at_call 72; refine (HC.out).mono ?_; rintro e w' ⟨rfl, rfl⟩))
 go_ret
 have hx : Xt w ((w.alloc (.map es clk)).alloc (.cells #[.map (some w.heap.size)] 102)) := ((Xt.refl _).alloc _).alloc _
 refine ⟨by simp, ⟨?_, ⟨E, ⟨es, clk, ?_, h2⟩, hE⟩, HG.out.sorted, fun x hx' => (HG.out.args x hx').kept hx.cellsIn, HG.out.many⟩, hx⟩
 · have := (MapKept.heap_alloc (w.alloc (.map es clk)) (.cells #[.map (some w.heap.size)] 102)).1
   rw [World.size_alloc] at this
   exact (one_row this).1
 · exact rowX ((Xt.refl _).alloc _) (MapKept.heap_alloc w _).1
set_option maxHeartbeats 1000000 in
theorem in1_any (f : ArT) (b : Nat) (a : Ad) (W : World) (h : W.heap[b]? = some (.cells #[.int .i64 f.a, .int .i64 f.b, .int .i64 f.c, .int .i64 f.d] 26 (0, 0))) :
    Calls Tryz.prog 111 (#[adW a] ++ #[.pointer (some ⟨b, 0, none⟩)]) W fun e W' => e = .returned (.bool (inA f a)) ∧ Gr W W' := by
 obtain ⟨w0, hw0⟩ : ∃ w0, W.alloc (.cells #[.int .i64 a.1, .int .i64 a.2] 24) = w0 := ⟨_, rfl⟩
 have hg0 : Gr W w0 := by rw [← hw0]; exact (Gr.refl _).alloc _
 obtain ⟨⟨a0, a1, a2, a3⟩, _⟩ := cells4 (rowX hg0.xt h)
 obtain ⟨b0, b1, _, _⟩ := cells2 (b := W.heap.size) (w := w0) (by rw [← hw0]; exact (MapKept.heap_alloc W _).1)
 have HI := Lib.hid (in_any f.a f.b f.c f.d a.1 a.2 w0)
 have HG := Lib.hid hg0
 obtain ⟨v, hv⟩ : ∃ v, inA f a = v := ⟨_, rfl⟩
 rw [show inB f.a f.b f.c f.d a.1 a.2 = v from hv] at HI
 rw [hv]
 clear h hg0 hv
 show Calls Tryz.prog 111 #[adW a, .pointer (some ⟨b, 0, none⟩)] W _
 go_enter Tryz.func111, Tryz.ntmps111
 go_wp2_with (first | (go_at_call 16; refine (HI.out).mono ?_; rintro e w1 ⟨rfl, hg1⟩; have HG1 := Lib.hid (HG.out.trans hg1); clear hg1))
 go_ret
 exact ⟨rfl, HG1.out⟩
structure MQ {α : Type} (W0 : World) (go mo : Nat) (F : List α → Option PG) (pre : List α) (W : World) : Prop where
 grown : W0.grownBy W (some mo)
 out : ∃ Mo, GridIs W go mo Mo ∧ F pre = some (er Mo)
theorem MQ.own {α : Type} {W0 : World} {go mo : Nat} {F : List α → Option PG} (hm : mo < W0.heap.size) : OwnFrom W0.heap.size (fun pre W => MQ W0 go mo F pre W) := fun s X Y row hs hg hr => by
 obtain ⟨h1, ⟨Mo, h2, h3⟩⟩ := hs
 exact ⟨grownBy_far h1 hg (fun r e => (hr r e).1), ⟨Mo, h2.kept (cellsIn_walk hg (fun r e => (hr r e).2)) (hg.block mo (by have := h1.size; omega) (fun e => by have := (hr mo e.symm).1; omega)), h3⟩⟩
theorem MQ.start {α : Type} {W0 : World} {go mo : Nat} {M : GM} {F : List α → Option PG} (h : GridIs W0 go mo M) (hF : F [] = some (er M)) : MQ W0 go mo F [] W0 := ⟨⟨rfl, rfl, rfl, Nat.le_refl _, fun _ _ _ => rfl⟩, ⟨M, h, hF⟩⟩
theorem MQ.xt {α : Type} {W0 W W' : World} {go mo : Nat} {F : List α → Option PG} {pre : List α} (h : MQ W0 go mo F pre W) (hx : Xt W W') : MQ W0 go mo F pre W' :=
 ⟨grownBy_far h.grown hx.grownN (fun r e => by cases e), let ⟨Mo, h2, h3⟩ := h.out; ⟨Mo, h2.xt hx, h3⟩⟩
theorem told_in {M : GM} {wb : Ad → Bool} {xs : List TE} (h : toldS M wb xs) : xs.map tpT = (er M).filter fun x => wb x.1 := by
 unfold toldS at h
 rw [show xs.map tpT = xs.map (fun x => (x.1, x.2.1)) from rfl, h]
 unfold er
 rw [List.filter_map]; rfl
def delAll (P : PG) (l : List (Ad × ContT)) : PG := l.foldl (fun P x => delM x.1 P) P
theorem delAll_snoc (P : PG) (l : List (Ad × ContT)) (x : Ad × ContT) : delAll P (l ++ [x]) = delM x.1 (delAll P l) := by simp [delAll]
theorem delAll_eq (P : PG) : ∀ l : List (Ad × ContT), delAll P l = P.filter fun x => !(l.any fun y => decide (x.1 = y.1)) := by
 intro l
 refine snoc_ind (P := fun l => delAll P l = P.filter fun x => !(l.any fun y => decide (x.1 = y.1))) ?_ ?_ l
 · exact (List.filter_eq_self.2 (fun x _ => rfl)).symm
 · intro l x ih
   rw [delAll_snoc, ih]
   unfold delM
   rw [List.filter_filter]
   refine List.filter_congr fun y _ => ?_
   rw [List.any_append]
   simp only [List.any_cons, List.any_nil, Bool.or_false, Bool.not_or]
   rw [Bool.and_comm]
theorem delAll_in (f : ArT) (P : PG) : delAll P (P.filter fun x => inA f x.1) = clearP f P := by
 rw [delAll_eq]
 unfold clearP
 refine List.filter_congr fun x hx => ?_
 congr 1
 cases h : inA f x.1
 · rw [List.any_eq_false]
   intro y hy
   simp only [decide_eq_true_eq]
   intro e
   have := (List.mem_filter.1 hy).2
   rw [← e, h] at this; cases this
 · rw [List.any_eq_true]
   exact ⟨x, List.mem_filter.2 ⟨hx, h⟩, by simp⟩
end Go.Proofs.YtdoeejhdenifpaaGreatDoor
/- move.cleared (made by mkt5.py). -/
namespace Go.Proofs.YtdoeejhdenifpaaGreatDoor
open Go.RowKit Go.Sort Go.Maps Go.Shelf Go.MapKept
attribute [local go_sem] Oper.semAt_some
theorem keeps_area {A : Nat → Bool} {W W' : World} {b : Nat} {cs : Array Value} (hA : A (2 * 26) = true) (h : W.heap[b]? = some (.cells cs 26 (0, 0))) (hk : KeepsT A W W') : W'.heap[b]? = some (.cells cs 26 (0, 0)) :=
 hk.same b _ h (by simp [keptO, hA])
theorem zeroC_valid : gvalidB zeroC = true := by kernel_rfl
theorem zeroC_okk : zeroC.ok := by simp [ContT.ok, zeroC, NodeT.ok, okL, ByteArray.size]
structure MS {α : Type} (W0 : World) (go mo : Nat) (M : GM) (F : List α → Option PG) (pre : List α) (W : World) : Prop where
 grown : W0.grownBy W (some mo)
 out : ∃ Mo, GridIs W go mo Mo ∧ F pre = some (er Mo) ∧ ∀ x ∈ Mo, x ∈ M
theorem MS.own {α : Type} {W0 : World} {go mo : Nat} {M : GM} {F : List α → Option PG} (hm : mo < W0.heap.size) : OwnFrom W0.heap.size (fun pre W => MS W0 go mo M F pre W) := fun s X Y row hs hg hr => by
 obtain ⟨h1, ⟨Mo, h2, h3⟩⟩ := hs
 exact ⟨grownBy_far h1 hg (fun r e => (hr r e).1), ⟨Mo, h2.kept (cellsIn_walk hg (fun r e => (hr r e).2)) (hg.block mo (by have := h1.size; omega) (fun e => by have := (hr mo e.symm).1; omega)), h3⟩⟩
theorem MS.start {α : Type} {W0 : World} {go mo : Nat} {M : GM} {F : List α → Option PG} (h : GridIs W0 go mo M) (hF : F [] = some (er M)) : MS W0 go mo M F [] W0 := ⟨⟨rfl, rfl, rfl, Nat.le_refl _, fun _ _ _ => rfl⟩, ⟨M, h, hF, fun _ h => h⟩⟩
theorem MS.xt {α : Type} {W0 W W' : World} {go mo : Nat} {M : GM} {F : List α → Option PG} {pre : List α} (h : MS W0 go mo M F pre W) (hx : Xt W W') : MS W0 go mo M F pre W' :=
 ⟨grownBy_far h.grown hx.grownN (fun r e => by cases e), let ⟨Mo, h2, h3⟩ := h.out; ⟨Mo, h2.xt hx, h3⟩⟩
theorem put_sub {M : GM} {a : Ad} {x : Option Addr} (hv : validB a.1 a.2 = true) : ∀ y ∈ putTo M a zeroC x, y ∈ M := fun y hy => by
 unfold putTo at hy
 rw [zeroC_valid, hv] at hy
 exact (List.mem_filter.1 (show y ∈ delM a M from hy)).1
theorem put_zero {M : GM} {a : Ad} {x : Option Addr} (hv : validB a.1 a.2 = true) : er (putTo M a zeroC x) = delM a (er M) := by
 rw [er_put]
 unfold putP
 rw [zeroC_valid, hv]
 rfl
set_option maxRecDepth 100000 in
set_option maxHeartbeats 8000000 in
theorem cleared_any (f : ArT) (gb mb : Nat) (M : GM) (w : World) (hG : GridIs w gb mb M) (hT : Tabs w) (hO : GOk (er M)) :
    Calls Tryz.prog 68 #[.pointer (some ⟨gb, 0, none⟩), arT f] w fun e w' => Xt w w' ∧ ∃ go mo Mo, e = .returned (.pointer (some ⟨go, 0, none⟩)) ∧ GridIs w' go mo Mo ∧ er Mo = clearP f (er M) ∧ w.heap.size ≤ mo ∧ w.heap.size ≤ go ∧ ∀ x ∈ Mo, x ∈ M := by
 have HG := Lib.hid hG
 have HT := Lib.hid hT
 have HO := Lib.hid hO
 have hglt := hG.lt
 obtain ⟨B, hB⟩ : ∃ B, w.heap.size = B := ⟨_, rfl⟩
 obtain ⟨w0, hw0⟩ : ∃ w0, w.alloc (.cells #[.int .i64 f.a, .int .i64 f.b, .int .i64 f.c, .int .i64 f.d] 26) = w0 := ⟨_, rfl⟩
 have hs0 : w0.heap.size = B + 1 := by rw [← hw0, ← hB]; simp
 have HX0 : Hid (Xt w w0) := by unfold Hid; rw [← hw0]; exact (Xt.refl _).alloc _
 have HR0 : Hid (w0.heap[B]? = some (.cells #[.int .i64 f.a, .int .i64 f.b, .int .i64 f.c, .int .i64 f.d] 26 (0, 0))) := by unfold Hid; rw [← hw0, ← hB]; exact (MapKept.heap_alloc w _).1
 have HCL := Lib.hid (gclone_any gb mb M w0 (hG.xt HX0.out))
 rw [hs0] at HCL
 clear hG hT hO
 refine (callsIn_wide (n := 25)).1 ?_
 refine callsIn_of_wp_marks Tryz.func68 rfl trivial ?_ rfl
 simp only [Tryz.ntmps68, List.size_toArray, List.length_cons, List.length_nil, Nat.reduceAdd, Nat.reduceSub, Array.replicate_succ, Array.replicate_zero, List.push_toArray, List.append_toArray, List.nil_append, List.cons_append]
 refine wpIn_wide.2 ?_
 refine wp_mono (Q := noPanic (bodyPostM Fence.wide 25 Tryz.prog Tryz.f68 (fun e w' => Xt w w' ∧ ∃ go mo Mo, e = .returned (.pointer (some ⟨go, 0, none⟩)) ∧ GridIs w' go mo Mo ∧ er Mo = clearP f (er M) ∧ w.heap.size ≤ mo ∧ w.heap.size ≤ go ∧ ∀ x ∈ Mo, x ∈ M))) ?_ noPanic_le
 go_wp2_with (first
  | (go_at_call 31; refine (HCL.out).mono ?_; rintro e w1 ⟨rfl, hGc, hx1⟩; obtain ⟨C, hC⟩ : ∃ C, w1.heap.size = C := ⟨_, rfl⟩; obtain ⟨w2, hw2⟩ : ∃ w2, w1.alloc (.cells #[.pointer (some ⟨B + 1 + 1, 0, none⟩)] 29) = w2 := ⟨_, rfl⟩; have HGc := Lib.hid hGc; have HX1 := Lib.hid hx1; have hs2 : w2.heap.size = C + 1 := (by rw [← hw2]; simp [hC]); have HX12 : Hid (Xt w1 w2) := (by unfold Hid; rw [← hw2]; exact (Xt.refl _).alloc _); have HRC : Hid (w2.heap[C]? = some (.cells #[.pointer (some ⟨B + 1 + 1, 0, none⟩)] 29 (0, 0))) := (by unfold Hid; rw [← hw2, ← hC]; exact (MapKept.heap_alloc w1 _).1); obtain ⟨⟨a0, a1, a2, a3⟩, _⟩ := cells4 (rowX (hx1.trans HX12.out) HR0.out); clear hGc hx1)
  | (go_at_call 69; refine ((callsIn_wide (n := 20)).1 (gin_in 20 (by omega) (some ⟨gb, 0, none⟩) ((f.a, f.b), (f.c, f.d)) _)).mono ?_; rintro e w' ⟨rfl, rfl⟩))
 have hCB : B + 1 + 1 < C := by have := HGc.out.lt; omega
 obtain ⟨W0, hW0⟩ : ∃ W0, ((w2.alloc (.cells #[.int .i64 f.a, .int .i64 f.b, .int .i64 f.c, .int .i64 f.d] 26)).alloc (.cells #[.pointer (some ⟨gb, 0, none⟩)] 29)).alloc (.cells #[.func (.func 111) #[] #[.pointer (some ⟨w2.heap.size, 0, none⟩)]] 99) = W0 := ⟨_, rfl⟩
 have hsW : W0.heap.size = C + 4 := by rw [← hW0]; simp [hs2]
 have HX2W : Hid (Xt w2 W0) := by unfold Hid; rw [← hW0]; exact (((Xt.refl w2).alloc _).alloc _).alloc _
 have HRA : Hid (W0.heap[C + 1]? = some (.cells #[.int .i64 f.a, .int .i64 f.b, .int .i64 f.c, .int .i64 f.d] 26 (0, 0))) := by
  unfold Hid; rw [← hW0, ← hs2]
  exact rowX (((Xt.refl _).alloc _).alloc _) (MapKept.heap_alloc w2 _).1
 have rBg : W0.heap[C + 2]? = some (.cells #[.pointer (some ⟨gb, 0, none⟩)] 29 (0, 0)) := by
  rw [← hW0]
  have := rowX ((Xt.refl _).alloc (.cells #[.func (.func 111) #[] #[.pointer (some ⟨w2.heap.size, 0, none⟩)]] 99)) (MapKept.heap_alloc (w2.alloc (.cells #[.int .i64 f.a, .int .i64 f.b, .int .i64 f.c, .int .i64 f.d] 26)) (.cells #[.pointer (some ⟨gb, 0, none⟩)] 29)).1
  simpa [hs2] using this
 have rBw : W0.heap[C + 3]? = some (.cells #[.func (.func 111) #[] #[.pointer (some ⟨C + 1, 0, none⟩)]] 99 (0, 0)) := by
  rw [← hW0]
  have := (MapKept.heap_alloc ((w2.alloc (.cells #[.int .i64 f.a, .int .i64 f.b, .int .i64 f.c, .int .i64 f.d] 26)).alloc (.cells #[.pointer (some ⟨gb, 0, none⟩)] 29)) (.cells #[.func (.func 111) #[] #[.pointer (some ⟨w2.heap.size, 0, none⟩)]] 99)).1
  simpa [hs2] using this
 have HX0W : Hid (Xt w0 W0) := (HX1.out.trans HX12.out).trans HX2W.out
 have HXW : Hid (Xt w W0) := HX0.out.trans HX0W.out
 have HGcW : Hid (GridIs W0 (B + 1 + 1) (B + 1) M) := HGc.out.xt (HX12.out.trans HX2W.out)
 have HRCW := Lib.hid (rowX HX2W.out HRC.out)
 have HcgW : W0.cell? ⟨C + 2, 0, none⟩ = some (.pointer (some ⟨gb, 0, none⟩)) := by simp [World.cell?, rBg]
 simp only [hs2] at hW0
 try simp only [hs2]
 simp only [hW0]
 clear hW0 hs2 hw2 hw0 rBg HCL a0 a1 a2 a3
 have hO2 : Hid (∀ x ∈ er M, validB x.1.1 x.1.2 = true) := Lib.hid fun x hx => (HO.out.each x hx).1
 generalize hA0 : Act.mk _ _ = a0
 refine (wpIn_wide (n := 25)).1 ?_
 refine rangeFunc_told (n := 25) (by omega) (gf := 116) (lb := #[.pointer (some ⟨C + 2, 0, none⟩), .pointer (some ⟨C + 3, 0, none⟩)]) (by subst hA0; rfl) (enters_of Tryz.func116 (by kernel_rfl) rfl)
  (some1_told (fun x => x == 2 * (B + 1) + 1 || x == 2 * 26) 111 #[.pointer (some ⟨C + 1, 0, none⟩)] (enters_of Tryz.func111 (by kernel_rfl) rfl) (fun a => inA f a) w.heap.size w rfl (fun W => W.heap[C + 1]? = some (.cells #[.int .i64 f.a, .int .i64 f.b, .int .i64 f.c, .int .i64 f.d] 26 (0, 0))) (fun _ _ h _ hk => keeps_area (by simp) h hk) (fun a W h => in1_any f (C + 1) a W h) (25 - 1) (by omega) (C + 2) (C + 3) gb mb M HG.out W0 HXW.out HRA.out (by omega) HcgW rBw (fun k hk => by simp; omega))
  (fun h k => ⟨h.1.trans k.1, h.2.trans k.2⟩) (fun W l o o' hl ho hc hw => ⟨belowK_b (w := W0) (by omega) W l o o' hl ho hc hw, KeepsT.of_grown (grownBy_putObj' W l o') (fun j o2 e h2 => by cases e; rw [ho] at h2; cases h2; cases o <;> simp_all [keptO, Obj.isCells, Obj.isWalk])⟩) (Below.refl _ _) (fun _ => rfl)
  (fun pre W => MS W0 (B + 1 + 1) (B + 1) M (fun pre => some (delAll (er M) (pre.map tpT))) pre W)
  (fun c pre W => False)
  (MS.own (by omega))
  (fun c s X Y row hs hg hr => hs)
  (MS.start HGcW.out rfl)
  (fun x a' W => ∃ Bx, W.heap[Bx]? = some (.cells #[.int .i64 x.1.1, .int .i64 x.1.2] 24 (0, 0)) ∧ (x.1, x.2.1) ∈ er M ∧
   a' = { tmps := ((a0.tmps.setIfInBounds 12 (adW x.1)).setIfInBounds 13 (copyCV x.2.1 x.2.2)).setIfInBounds 6 (.pointer (some ⟨Bx, 0, none⟩)), defers := [] })
  (fun x a' _ X Y row hs hg hr => by
   obtain ⟨Bx, h1, h5⟩ := hs
   exact ⟨Bx, rowCells_own h1 hg (fun r e => (hr r e).2), h5⟩)
  ?assign ?body ?done ?stop
 case stop =>
  rintro D c pre W hD hS hf hK
  exact hf.elim
 case done =>
  rintro D xs W hD hS hI hK
  subst hA0
  obtain ⟨hgr, ⟨Mo, hGo, hEo, hsub⟩⟩ := hI
  have HGo := Lib.hid hGo
  have HEo : Hid (er Mo = clearP f (er M)) := by
   unfold Hid
   rw [told_in hS, delAll_in] at hEo
   exact (Option.some.inj hEo).symm
  have rC := (hgr.block C (by omega) (fun e => by have := Option.some.inj e; omega)).trans HRCW.out
  obtain ⟨cC, _⟩ := one_row rC
  have HxW : Hid (Xt w W) := HXW.out.grownB hgr (fun q hq => by cases hq; omega)
  have HK := Lib.hid hK
  clear hGo hEo hS hgr rC hK
  go_wp2_with fail
  refine ⟨by simp, .inl ⟨_, _, rfl, run_takeDeferred HK.out, ?_⟩⟩
  have hxE : Xt w (W.putObj D (.deferred none)) := HxW.out.grownB (grownBy_putObj' W D _) (fun q hq => by cases hq; have := HXW.out.size; omega)
  have hGW : GridIs (W.putObj D (.deferred none)) (B + 1 + 1) (B + 1) Mo :=
   HGo.out.far (P := fun b => b = D) (fun b hb => World.putObj_heap_other hb) (fun b hb o u hu => by subst hb; rw [World.cell?, HK.out] at hu; cases hu) (by omega) (by omega)
  refine ⟨_, results_tmp rfl _ _ _, hxE, B + 1 + 1, B + 1, Mo, rfl, hGW, HEo.out, by omega, by omega, hsub⟩
 case assign =>
  rintro l0 pre x W K hI ⟨V, hIV, ⟨hxV, hsm, nT, hA⟩, hmem⟩ hK
  subst hA0
  obtain ⟨⟨c, d⟩, tc, tp⟩ := x
  have HI := Lib.hid hI
  have HME : Hid (((c, d), tc) ∈ er M) := hmem
  obtain ⟨wA, hwA, hbA, hsA, kA0, kA1⟩ := box1 W c d 24
  have hrA : wA.heap[W.heap.size]? = some (.cells #[.int .i64 c, .int .i64 d] 24 (0, 0)) := by rw [← hwA]; exact World.alloc_heap_new W _
  have HXA : Hid (Xt W wA) := hbA
  have HRA2 := Lib.hid hrA
  obtain ⟨cv, hcv⟩ : ∃ cv, copyCV tc tp = cv := ⟨_, rfl⟩
  simp only [teV, hcv]
  clear hrA hbA kA0 kA1 hI hIV hxV hA hmem hsm
  gi_wp2_with fail
  have hx := HXA.out
  refine hK _ _ (keepsFrom_xt hx _) ⟨hx.mono (by have := HI.out.grown.size; have := HXW.out.size; omega), KeepsT.of_xt hx⟩ (HI.out.xt hx) ⟨W.heap.size, HRA2.out, HME.out, ?_⟩
  simp only [hcv, List.setIfInBounds_toArray, List.set_cons_zero, List.set_cons_succ]
 case body =>
  rintro l0 pre x a' W hl0 ⟨r, hr⟩ hI ⟨Bx, hBx, hmem, rfl⟩ hlt
  subst hA0
  obtain ⟨⟨c, d⟩, tc, tp⟩ := x
  simp only at hBx
  obtain ⟨hgr, ⟨Mo, hGo, hEo, hsub⟩⟩ := hI
  have HGo := Lib.hid hGo
  have HEo := Lib.hid hEo
  have HGr := Lib.hid hgr
  have hgs := hgr.size
  have rC := (hgr.block C (by omega) (fun e => by have := Option.some.inj e; omega)).trans HRCW.out
  obtain ⟨cC, _⟩ := one_row rC
  obtain ⟨x0, x1, _, _⟩ := cells2 hBx
  have HXWW : Hid (Xt w W) := HXW.out.grownB hgr (fun q hq => by have := Option.some.inj hq; omega)
  have HVX : Hid (validB c d = true) := hO2.out _ hmem
  have HP := Lib.hid (gput_any 0 (B + 1 + 1) (B + 1) Mo (c, d) zeroC none 0 W hGo zeroC_okk (HT.out.xt HXWW.out) (by simp [zeroC, smallT, smallL]) ⟨rfl, none, 0, rfl, by simp⟩)
  obtain ⟨cv, hcv⟩ : ∃ cv, copyCV tc tp = cv := ⟨_, rfl⟩
  have hfp : Fence.wide.fn 25 := trivial
  simp only [hcv]
  clear hGo hEo hgr rC hBx hmem hr hlt
  simp only [List.setIfInBounds_toArray, List.set_cons_zero, List.set_cons_succ]
  gi_wp2_with (first
   | (gi_at_call 25; refine (callsIn_round HP.out).mono ?_; rintro e w8 ⟨zz, rfl, hG8, hg8⟩; have HG8 := Lib.hid hG8; have Hg8 := Lib.hid hg8; clear hG8 hg8))
  have hgW := Hg8.out
  refine ⟨⟨hgW.size, fun k o hB hk _ => (hgW.block k (Array.getElem?_eq_some_iff.1 hk).1 (fun e => by have := Option.some.inj e; omega)).trans hk⟩, ⟨⟨hgW.os, hgW.tape, hgW.output, hgW.size, fun k hk => hgW.block k (by omega) (fun e => by have := Option.some.inj e; omega)⟩, KeepsT.of_grown hgW (fun j o e ho => ?_)⟩, ⟨grownBy_two HGr.out hgW, ⟨_, HG8.out, ?_, fun y hy => hsub _ (put_sub HVX.out y hy)⟩⟩⟩
  · obtain ⟨E, hm, _⟩ := HGo.out.map
    obtain ⟨es, clk, h1, _⟩ := hm
    have e1 := Option.some.inj e
    rw [← e1, h1] at ho
    cases ho
    simp [keptO, ← e1]
  · rw [put_zero HVX.out, List.map_append, List.map_cons, List.map_nil, delAll_snoc, Option.some.inj HEo.out]; rfl
end Go.Proofs.YtdoeejhdenifpaaGreatDoor
/- Lists of puts that came in. -/
namespace Go.Proofs.YtdoeejhdenifpaaGreatDoor
open Go.RowKit Go.Sort Go.MapKept Go.Maps Go.Shelf
structure PI where
 a : Ad
 c : ContT
 p : Option Addr
 cap : Nat
def inC1 (x : PI) : List Value := [.int .i64 x.a.1, .int .i64 x.a.2, .int .i64 x.c.kind, .int .i64 x.c.v.kind, .float .f64 x.c.v.x, .string x.c.v.s, .bool x.c.v.b, .int .i64 x.c.v.f, .int .i64 x.c.t.kind, .int .i64 x.c.t.op, .float .f64 x.c.t.x, .string x.c.t.s, .bool x.c.t.b, .int .i64 x.c.t.f, .int .i64 x.c.t.ref.a.1, .int .i64 x.c.t.ref.a.2, .bool x.c.t.ref.cf, .bool x.c.t.ref.rf, .int .i64 x.c.t.to.a.1, .int .i64 x.c.t.to.a.2, .bool x.c.t.to.cf, .bool x.c.t.to.rf, .slice x.p x.c.t.args.length x.cap]
structure PutsIn (w : World) (v : Value) (l : List PI) : Prop where
 sl : SlOf w inC1 23 v l
 args : ∀ x ∈ l, x.c.ok ∧ ∃ n, ArgsIn w n (.slice x.p x.c.t.args.length x.cap) x.c.t.args
theorem SlOf.keptC {α : Type} {w w' : World} {enc : α → List Value} {sz : Nat} {v : Value} {l : List α} (h : SlOf w enc sz v l) (hx : CellsIn w w') : SlOf w' enc sz v l := by
 obtain ⟨a, cap, rfl, h1, h2, h3⟩ := h
 exact ⟨a, cap, rfl, h1, h2, fun hl => let ⟨b, off, e, hc⟩ := h3 hl; ⟨b, off, e, fun j x hx' i u hu => hx _ _ _ (hc j x hx' i u hu)⟩⟩
theorem PutsIn.kept {w w' : World} {v : Value} {l : List PI} (h : PutsIn w v l) (hx : CellsIn w w') : PutsIn w' v l :=
 ⟨h.sl.keptC hx, fun x hx' => let ⟨h1, n, hn⟩ := h.args x hx'; ⟨h1, n, hn.kept hx⟩⟩
theorem PutsIn.xt {w w' : World} {v : Value} {l : List PI} (h : PutsIn w v l) (hx : Xt w w') : PutsIn w' v l := h.kept hx.cellsIn
theorem PutsIn.at {w : World} {a : Option Addr} {m cap i : Nat} {l : List PI} {x : PI} (h : PutsIn w (.slice a m cap) l) (hx : l[i]? = some x) :
    ∃ b off, a = some ⟨b, off, none⟩ ∧ w.cell? ⟨b, off + i * 23, none⟩ = some (.int .i64 x.a.1) ∧ w.cell? ⟨b, off + i * 23 + 1, none⟩ = some (.int .i64 x.a.2) ∧ w.rangeAt b (off + i * 23 + 2) ((inC1 x).drop 2) ∧ x.c.ok ∧ ∃ n, ArgsIn w n (.slice x.p x.c.t.args.length x.cap) x.c.t.args := by
 obtain ⟨a', cap', e, h1, h2, h3⟩ := h.sl
 cases e
 obtain ⟨b, off, rfl, hc⟩ := h3 (by intro e; subst e; simp at hx)
 refine ⟨b, off, rfl, hc i x hx 0 _ rfl, hc i x hx 1 _ rfl, fun j v hv => ?_, h.args x (List.mem_of_getElem? hx)⟩
 rw [List.getElem?_drop] at hv
 have := hc i x hx (2 + j) v hv
 rw [← Nat.add_assoc] at this
 exact this
theorem PutsIn.shape {w : World} {v : Value} {l : List PI} (h : PutsIn w v l) : ∃ a cap, v = .slice a l.length cap ∧ l.length ≤ cap ∧ cap ≤ 9223372036854775807 := by
 obtain ⟨a, cap, e, h1, h2, _⟩ := h.sl
 exact ⟨a, cap, e, h1, h2⟩
abbrev pis (l : List PI) : List (Ad × ContT) := l.map fun x => (x.a, x.c)
theorem allP_take {l : List PI} {i : Nat} {x : PI} (hx : l[i]? = some x) : allP [] (pis (l.take (i + 1))) = putP (allP [] (pis (l.take i))) x.a x.c := by
 unfold pis
 rw [List.take_add_one, hx]
 simp [allP]
theorem pis_ok {l : List PI} {w : World} {v : Value} (h : PutsIn w v l) : ∀ x ∈ pis l, x.2.ok := fun x hx => by
 obtain ⟨y, hy, rfl⟩ := List.mem_map.1 hx
 exact (h.args y hy).1
end Go.Proofs.YtdoeejhdenifpaaGreatDoor
/- quadrillelaw22's made: a grid of puts (made by mkq2.py). -/
namespace Go.Proofs.YtdoeejhdenifpaaGreatDoor
open Go.RowKit Go.Sort Go.Maps Go.Shelf
attribute [local go_sem] Oper.semAt_some
theorem GridIs.cellsInG {w w' : World} {gb mb : Nat} {M : GM} (h : GridIs w gb mb M) (hg : w.grownBy w' (some mb)) : CellsIn w w' := by
 obtain ⟨E, hm, _⟩ := h.map
 exact CellsIn.of_grown hm hg
set_option maxRecDepth 100000 in
set_option maxHeartbeats 4000000 in
theorem made22_any (l : List PI) (lv : Value) (w : World) (hT : Tabs w) (hl : PutsIn w lv l) (hs : ∀ x ∈ l, smallT x.c.t) :
    Calls Tryz.prog 8 #[lv] w fun e w' => ∃ gb mb M, e = .returned (.pointer (some ⟨gb, 0, none⟩)) ∧ GridIs w' gb mb M ∧ er M = allP [] (pis l) ∧ Xt w w' := by
 obtain ⟨la, lc, rfl, hlc, hlc2⟩ := hl.shape
 have HT := Lib.hid hT
 have HL := Lib.hid hl
 have HS := Lib.hid hs
 obtain ⟨ma, hma⟩ : ∃ ma, w.heap.size = ma := ⟨_, rfl⟩
 clear hT hl hs
 go_enter Tryz.func8, Tryz.ntmps8
 go_wp2_with (first
  | (go_at_call 35; refine (gnew_any _).mono ?_; rintro e w1 ⟨rfl, hGA, hg1⟩; have hx1 := hg1.xt; clear hg1))
 simp only [hma] at hGA ⊢
 have hwa : w.heap.size ≤ ma := by omega
 have hG0 := Lib.hid hGA
 have hX0 := Lib.hid hx1
 clear hGA hx1
 go_loopw [4] (fun s wr => ∃ (i : Nat) (M : GM), i ≤ l.length ∧ s = .int .i64 i ∧ Hid (GridIs wr (ma + 1) ma M) ∧ Hid (er M = allP [] (pis (l.take i))) ∧ Hid (Xt w wr)) (fun s _ => l.length - (intOf s).toNat)
 case atStart => exact ⟨0, [], Nat.zero_le _, rfl, hG0, rfl, hX0⟩
 case round =>
  clear hG0 hX0
  obtain ⟨i, M, hi, rfl, HG, HE, HX⟩ := hrel
  by_cases hlt : i < l.length
  · obtain ⟨x, hx⟩ : ∃ x, l[i]? = some x := ⟨l[i], by simp [hlt]⟩
    have hki : (i : Int) < (l.length : Int) := by omega
    obtain ⟨b, off, rfl, d0, d1, hr, hok, n, hin⟩ := (HL.out.xt HX.out).at hx
    have HTK := Lib.hid (allP_take hx)
    have HSM := Lib.hid (HS.out x (List.mem_of_getElem? hx))
    have HR := Lib.hid hr
    have HOK := Lib.hid hok
    have HIN := Lib.hid hin
    clear hx hr hok hin
    have hx5 : Xt wr wr.drew := (Xt.refl wr).drew
    have e0 := (hx5.cellsIn _ _ _ d0)
    have e1 := (hx5.cellsIn _ _ _ d1)
    have HRR := Lib.hid (fun W (h : CellsIn wr.drew W) => (⟨h _ _ _ e0, h _ _ _ e1, fun j v hj => h _ _ _ (hx5.cellsIn _ _ _ (HR.out j v hj))⟩ : W.cell? ⟨b, off + i * 23, none⟩ = some (.int .i64 x.a.1) ∧ W.cell? ⟨b, off + i * 23 + 1, none⟩ = some (.int .i64 x.a.2) ∧ W.rangeAt b (off + i * 23 + 2) ((inC1 x).drop 2)))
    have HP := Lib.hid (gput_any n (ma + 1) ma M x.a x.c x.p x.cap wr.drew (HG.out.xt hx5) HOK.out (HT.out.xt (HX.out.trans hx5)) HSM.out (HIN.out.xt hx5))
    have HX6 := Lib.hid (HX.out.trans hx5)
    have HCI := Lib.hid (fun W (h : wr.drew.grownBy W (some ma)) => (HG.out.xt hx5).cellsInG h)
    clear hx5
    go_wp2_with fail
    refine wp_region_held_drew (S := fun W => W.cell? ⟨b, off + i * 23, none⟩ = some (.int .i64 x.a.1) ∧ W.cell? ⟨b, off + i * 23 + 1, none⟩ = some (.int .i64 x.a.2) ∧ W.rangeAt b (off + i * 23 + 2) ((inC1 x).drop 2)) (by kernel_rfl) (HRR.out _ (CellsIn.refl _)) (fun hHeld => ?_)
    refine tkH 0 ?_ ?_ ?_
    rotate_left
    · intro w hSw; (try dsimp only at hSw); obtain ⟨k0, k1, kr⟩ := hSw; clear kr; go_simp; first | done | with_reducible rfl
    try simp only [Act.put, nm]
    refine tkH 1 ?_ ?_ ?_
    rotate_left
    · intro w hSw; (try dsimp only at hSw); obtain ⟨k0, k1, kr⟩ := hSw; clear kr; go_simp; first | done | with_reducible rfl
    try simp only [Act.put, nm]
    refine tkH 2 ?_ ?_ ?_
    rotate_left
    · intro w hSw; (try dsimp only at hSw); obtain ⟨k0, k1, kr⟩ := hSw; clear kr; go_simp; first | done | with_reducible rfl
    try simp only [Act.put, nm]
    refine tkH 3 ?_ ?_ ?_
    rotate_left
    · intro w hSw; (try dsimp only at hSw); obtain ⟨k0, k1, kr⟩ := hSw; clear kr; go_simp; first | done | with_reducible rfl
    try simp only [Act.put, nm]
    refine tkH 4 ?_ ?_ ?_
    rotate_left
    · intro w hSw; (try dsimp only at hSw); obtain ⟨k0, k1, kr⟩ := hSw; clear kr; go_simp; first | done | with_reducible rfl
    try simp only [Act.put, nm]
    refine tkH 5 ?_ ?_ ?_
    rotate_left
    · intro w hSw; (try dsimp only at hSw); obtain ⟨k0, k1, kr⟩ := hSw; clear kr; go_simp; first | done | with_reducible rfl
    try simp only [Act.put, nm]
    refine tkH 6 ?_ ?_ ?_
    rotate_left
    · intro w hSw; (try dsimp only at hSw); obtain ⟨k0, k1, kr⟩ := hSw; clear kr; go_simp; first | done | with_reducible rfl
    try simp only [Act.put, nm]
    refine tkH 7 ?_ ?_ ?_
    rotate_left
    · intro w hSw; (try dsimp only at hSw); obtain ⟨k0, k1, kr⟩ := hSw; clear kr; go_simp; first | done | with_reducible rfl
    try simp only [Act.put, nm]
    refine tkH 8 ?_ ?_ ?_
    rotate_left
    · intro w hSw; (try dsimp only at hSw); obtain ⟨k0, k1, kr⟩ := hSw; clear kr; go_simp; first | done | with_reducible rfl
    try simp only [Act.put, nm]
    refine tkH 9 ?_ ?_ ?_
    rotate_left
    · intro w hSw; (try dsimp only at hSw); obtain ⟨k0, k1, kr⟩ := hSw; clear kr; go_simp; first | done | with_reducible rfl
    try simp only [Act.put, nm]
    refine tkH 10 (.agg ((inC1 x).drop 2).toArray) ?_ ?_
    · intro w hSw; exact exec_load_mid 51 _ (by rfl) b (off + i * 23 + 2) (by rfl) ((inC1 x).drop 2) _ hSw.2.2 Tryz.underlying51 rfl (by kernel_rfl)
    try simp only [Act.put, nm]
    refine rdH 11 (fun K hK => ?_)
    go_simp
    refine (HP.out).mono ?_
    rintro e w6 ⟨z, rfl, hG6, hg6⟩
    refine hK.out _ _ (HRR.out _ (HCI.out _ hg6)) (fun hHeld2 => ?_)
    clear hK K
    try simp only [Act.put, nm]
    refine wpAnyH_done (by kernel_rfl) ?_ _
    have HG6 := Lib.hid hG6
    have Hg6 := Lib.hid hg6
    clear hG6 hg6 d0 d1 e0 e1 hHeld hHeld2
    go_wp2_with fail
    go_roundw
    case rel => exact ⟨i + 1, putTo M x.a x.c z, by omega, by go_num, HG6.out, by unfold Hid; rw [er_put, HE.out, HTK.out], HX6.out.grownB Hg6.out (fun m hm => by cases hm; omega)⟩
    case measure => simp [intOf]; omega
  · obtain rfl : i = l.length := by omega
    clear hi hlt
    go_wp2_with fail
    go_ret
    exact ⟨ma + 1, ma, M, rfl, HG.out, by rw [HE.out, List.take_length], HX.out⟩
end Go.Proofs.YtdoeejhdenifpaaGreatDoor
/- Two values are the same: value.Same answers as their keys do. -/
namespace Go.Proofs.YtdoeejhdenifpaaGreatDoor
open Go.RowKit Go.Sort
theorem compare_0 : ∀ (a b : List UInt8), Lib.compareBytes a b = 0 ↔ a = b
 | [], [] => by simp [Lib.compareBytes]
 | [], _ :: _ => by simp [Lib.compareBytes]
 | _ :: _, [] => by simp [Lib.compareBytes]
 | x :: a, y :: b => by
  unfold Lib.compareBytes
  by_cases h1 : x < y
  · simp only [h1, if_true]
    refine ⟨fun h => by simp at h, fun h => ?_⟩
    cases h; exact absurd h1 (UInt8.lt_irrefl _)
  · by_cases h2 : y < x
    · simp only [h1, h2, if_false, if_true]
      refine ⟨fun h => by simp at h, fun h => ?_⟩
      cases h; exact absurd h2 (UInt8.lt_irrefl _)
    · have h3 : x = y := by
       rw [UInt8.not_lt] at h1 h2
       exact UInt8.le_antisymm h2 h1
      subst h3
      simp only [h1, if_false, compare_0 a b, List.cons.injEq, true_and]
set_option maxRecDepth 100000 in
theorem bytesCompare_any (a b : ByteArray) (w : World) : Calls Tryz.prog 157 #[.string a, .string b] w fun e w' => e = .returned (.int .i64 (Lib.compareBytes a.data.toList b.data.toList)) ∧ w = w' := by
 go_enter Tryz.func157, Tryz.ntmps157
 go_wp2
 rw [run_callFunc_extern Tryz.func170 (by kernel_rfl) (by kernel_rfl) (by kernel_rfl) (e := Extern.BytealgCompare.compare) (by kernel_rfl), Lib.run_compareString]
 simp only [Result.andThen]
 rw [Oper.upon_value]
 go_wp2
 go_ret
 exact ⟨rfl, rfl⟩
theorem sCompare_any (a b : ByteArray) (w : World) : Calls Tryz.prog 125 #[.string a, .string b] w fun e w' => e = .returned (.int .i64 (Lib.compareBytes a.data.toList b.data.toList)) ∧ w = w' := by
 have HC := Lib.hid (bytesCompare_any a b w)
 go_enter Tryz.func125, Tryz.ntmps125
 go_wp2_with (refine (HC.out).mono ?_; rintro e w' ⟨rfl, rfl⟩)
 go_ret
 exact ⟨rfl, rfl⟩
def oneB (b : Bool) : Int := if b then 1 else 0
theorem vone_any (b : Bool) (w : World) : Calls Tryz.prog 126 #[.bool b] w fun e w' => e = .returned (.int .i64 (oneB b)) ∧ w = w' := by
 cases b <;> (go_enter Tryz.func126, Tryz.ntmps126; go_wp2; go_ret; exact ⟨rfl, rfl⟩)
def placeX (x : Nat) : Int := if ordX x x != some .eq then 9223372036854775807 else if signX x = true then wrap64 (wrap64 (-(wrap64 (absX x))) - 1) else wrap64 (absX x)
set_option maxHeartbeats 1000000 in
theorem place_any (x : Nat) (w : World) : Calls Tryz.prog 156 #[.float .f64 x] w fun e w' => e = .returned (.int .i64 (placeX x)) ∧ w = w' := by
 have HC := Lib.hid (Abs_any x w)
 have HS := Lib.hid (Signbit_any x w)
 generalize hn : placeX x = ans
 have HA := Lib.hid hn
 unfold placeX ordX at HA
 generalize absX x = ax at HC HA
 clear hn
 go_enter Tryz.func156, Tryz.ntmps156
 go_wp2_with (first | (go_at_call 168; refine (HC.out).mono ?_; rintro e w' ⟨rfl, rfl⟩) | (go_at_call 169; refine (HS.out).mono ?_; rintro e w' ⟨rfl, rfl⟩))
 all_goals (go_ret; refine ⟨?_, rfl⟩; rw [← HA.out]; simp [*]; done)
def pordX (a b : Nat) : Int := cmpI (placeX a) (placeX b)
theorem pOrder_any (a b : Nat) (w : World) : Calls Tryz.prog 124 #[.float .f64 a, .float .f64 b] w fun e w' => e = .returned (.int .i64 (pordX a b)) ∧ w = w' := by
 have HC := Lib.hid (place_any a w)
 have HS := Lib.hid (place_any b w)
 generalize hn : pordX a b = ans
 have HA := Lib.hid hn
 unfold pordX cmpI at HA
 generalize placeX a = pa at HC HA
 generalize placeX b = pb at HS HA
 clear hn
 go_enter Tryz.func124, Tryz.ntmps124
 go_wp2_with (first | (refine (HC.out).mono ?_; clear HC; rintro e w' ⟨rfl, rfl⟩) | (refine (HS.out).mono ?_; clear HS; rintro e w' ⟨rfl, rfl⟩))
 all_goals (go_ret; refine ⟨?_, rfl⟩; rw [← HA.out])
 all_goals (first | (have hq1 : pa < pb := by omega
                     rw [if_pos hq1]; rfl) | (have hq1 : ¬ pa < pb := by omega
                                              have hq2 : pb < pa := by omega
                                              rw [if_neg hq1, if_pos hq2]; rfl) | (have hq1 : ¬ pa < pb := by omega
                                                                                   have hq2 : ¬ pb < pa := by omega
                                                                                   rw [if_neg hq1, if_neg hq2]; rfl))
def restO (a b : ValT) : Int :=
 if (a.kind == 1) = true then pordX a.x b.x else if (a.kind == 2) = true then Lib.compareBytes a.s.data.toList b.s.data.toList
 else if (a.kind == 3) = true then cmpI (oneB a.b) (oneB b.b) else if (a.kind == 4) = true then cmpI a.f b.f else 0
def orderV (a b : ValT) : Int := if (cmpI a.kind b.kind == 0) = true then restO a b else cmpI a.kind b.kind
set_option maxRecDepth 100000 in
set_option maxHeartbeats 4000000 in
theorem vOrder_any (a b : ValT) (w : World) : Calls Tryz.prog 82 #[valV a, valV b] w fun e w' => e = .returned (.int .i64 (orderV a b)) ∧ Gr w w' := by
 obtain ⟨w0, hw0, hg0, hs0, c0, c1, c2, c3, c4⟩ := boxV w a 44
 obtain ⟨w1, hw1, hg1, hs1, d0, d1, d2, d3, d4⟩ := boxV w0 b 44
 rw [hs0] at d0 d1 d2 d3 d4
 have cc := fun o => (hg1.xt.cells).1 w.heap.size o (by omega)
 have k0 := (cc 0).trans c0
 have k1 := (cc 1).trans c1
 have k2 := (cc 2).trans c2
 have k3 := (cc 3).trans c3
 have k4 := (cc 4).trans c4
 clear c0 c1 c2 c3 c4 cc hs1
 have HG := Lib.hid (hg0.trans hg1)
 clear hg0 hg1
 have HK := Lib.hid (fun w => compare_any a.kind b.kind w)
 have HF := Lib.hid (fun w => compare_any a.f b.f w)
 have HO := Lib.hid (fun w => compare_any (oneB a.b) (oneB b.b) w)
 have HP := Lib.hid (fun w => pOrder_any a.x b.x w)
 have HS := Lib.hid (fun w => sCompare_any a.s b.s w)
 have H1 := Lib.hid (fun w => vone_any a.b w)
 have H2 := Lib.hid (fun w => vone_any b.b w)
 generalize hn : orderV a b = ans
 have HA := Lib.hid hn
 unfold orderV restO at HA
 clear hn
 generalize cmpI a.kind b.kind = ck at HK HA
 generalize cmpI a.f b.f = cf at HF HA
 generalize cmpI (oneB a.b) (oneB b.b) = co at HO HA
 generalize pordX a.x b.x = po at HP HA
 generalize Lib.compareBytes a.s.data.toList b.s.data.toList = so at HS HA
 generalize oneB a.b = oa at HO H1
 generalize oneB b.b = ob at HO H2
 cases hck : ck == 0
 · go_enter Tryz.func82, Tryz.ntmps82
   go_wp2_with (go_at_call 123; refine (HK.out _).mono ?_; rintro e w' ⟨rfl, rfl⟩)
   go_ret
   exact ⟨by rw [← HA.out]; simp [hck], HG.out⟩
 cases h1 : a.kind == 1
 rotate_left
 · go_enter Tryz.func82, Tryz.ntmps82
   go_wp2_with (first | (go_at_call 123; refine (HK.out _).mono ?_; rintro e w' ⟨rfl, rfl⟩) | (go_at_call 124; refine (HP.out _).mono ?_; rintro e w' ⟨rfl, rfl⟩))
   go_ret
   exact ⟨by rw [← HA.out]; simp [hck, h1], HG.out⟩
 cases h2 : a.kind == 2
 rotate_left
 · go_enter Tryz.func82, Tryz.ntmps82
   go_wp2_with (first | (go_at_call 123; refine (HK.out _).mono ?_; rintro e w' ⟨rfl, rfl⟩) | (go_at_call 125; refine (HS.out _).mono ?_; rintro e w' ⟨rfl, rfl⟩))
   go_ret
   exact ⟨by rw [← HA.out]; simp [hck, h1, h2], HG.out⟩
 cases h3 : a.kind == 3
 rotate_left
 · go_enter Tryz.func82, Tryz.ntmps82
   go_wp2_with (first | (go_at_call 123; refine (HK.out _).mono ?_; clear HK; rintro e w' ⟨rfl, rfl⟩))
   go_quiet (first
    | ((go_at_call 126; exact Calls.quiet_of_same ((H1.out _).mono fun _ _ h => ⟨h.1, h.2.symm⟩)))
    | ((go_at_call 126; exact Calls.quiet_of_same ((H2.out _).mono fun _ _ h => ⟨h.1, h.2.symm⟩)))
    | ((go_at_call 123; exact Calls.quiet_of_same ((HO.out _).mono fun _ _ h => ⟨h.1, h.2.symm⟩))))
   go_wp2_with fail
   go_ret
   exact ⟨by rw [← HA.out]; simp [hck, h1, h2, h3], HG.out.drewN _⟩
 cases h4 : a.kind == 4
 · go_enter Tryz.func82, Tryz.ntmps82
   go_wp2_with (first | (go_at_call 123; refine (HK.out _).mono ?_; clear HK; rintro e w' ⟨rfl, rfl⟩))
   go_ret
   exact ⟨by rw [← HA.out]; simp [hck, h1, h2, h3, h4], HG.out⟩
 · go_enter Tryz.func82, Tryz.ntmps82
   go_wp2_with (first | (go_at_call 123; refine (HK.out _).mono ?_; clear HK; rintro e w' ⟨rfl, rfl⟩) | (go_at_call 123; refine (HF.out _).mono ?_; clear HF; rintro e w' ⟨rfl, rfl⟩))
   go_ret
   exact ⟨by rw [← HA.out]; simp [hck, h1, h2, h3, h4], HG.out⟩
inductive KeyV where
 | n (p : Int) | s (l : List UInt8) | b (b : Bool) | f (f : Int) | o
def keyV (v : ValT) : Int × KeyV := (v.kind, if (v.kind == 1) = true then .n (placeX v.x) else if (v.kind == 2) = true then .s v.s.data.toList else if (v.kind == 3) = true then .b v.b else if (v.kind == 4) = true then .f v.f else .o)
theorem cmpI_0 (a b : Int) : cmpI a b = 0 ↔ a = b := by
 unfold cmpI
 split <;> (try split) <;> omega
theorem order_key (a b : ValT) : orderV a b = 0 ↔ keyV a = keyV b := by
 unfold orderV restO keyV
 cases hc : cmpI a.kind b.kind == 0
 · have h : ¬ a.kind = b.kind := by rw [← cmpI_0]; simpa using hc
   simp only [Bool.false_eq_true, if_false]
   refine ⟨fun h2 => absurd ((cmpI_0 _ _).1 h2) h, fun h2 => absurd (congrArg Prod.fst h2) h⟩
 · have h : a.kind = b.kind := by rw [← cmpI_0]; simpa using hc
   rw [h]
   simp only [if_true]
   by_cases h1 : (b.kind == 1) = true
   · simp only [h1, if_true]; unfold pordX; rw [cmpI_0]; simp
   · simp only [h1, Bool.false_eq_true, if_false]
     by_cases h2 : (b.kind == 2) = true
     · simp only [h2, if_true]; rw [compare_0]; simp
     · simp only [h2, Bool.false_eq_true, if_false]
       by_cases h3 : (b.kind == 3) = true
       · simp only [h3, if_true]; rw [cmpI_0]; cases a.b <;> cases b.b <;> simp [oneB]
       · simp only [h3, Bool.false_eq_true, if_false]
         by_cases h4 : (b.kind == 4) = true
         · simp only [h4, if_true]; rw [cmpI_0]; simp
         · simp [h4]
noncomputable def sameVB (a b : ValT) : Bool := @decide (keyV a = keyV b) (Classical.propDecidable _)
theorem vSame_any (a b : ValT) (w : World) : Calls Tryz.prog 50 #[valV a, valV b] w fun e w' => e = .returned (.bool (sameVB a b)) ∧ Gr w w' := by
 obtain ⟨w0, hw0, hg0, hs0, c0, c1, c2, c3, c4⟩ := boxV w a 44
 obtain ⟨w1, hw1, hg1, hs1, d0, d1, d2, d3, d4⟩ := boxV w0 b 44
 rw [hs0] at d0 d1 d2 d3 d4
 have cc := fun o => (hg1.xt.cells).1 w.heap.size o (by omega)
 have k0 := (cc 0).trans c0
 have k1 := (cc 1).trans c1
 have k2 := (cc 2).trans c2
 have k3 := (cc 3).trans c3
 have k4 := (cc 4).trans c4
 clear c0 c1 c2 c3 c4 cc hs1
 have HG := Lib.hid (hg0.trans hg1)
 clear hg0 hg1
 have HC := Lib.hid (vOrder_any a b w1)
 have HK := Lib.hid (order_key a b)
 generalize orderV a b = ov at HC HK
 go_enter Tryz.func50, Tryz.ntmps50
 go_wp2_with (refine (HC.out).mono ?_; rintro e w2 ⟨rfl, hg2⟩; have HG2 := Lib.hid hg2; clear hg2)
 go_ret
 refine ⟨?_, HG.out.trans HG2.out⟩
 have hk := HK.out
 unfold sameVB
 by_cases h : ov = 0
 · have h2 := hk.1 h
   simp [h, h2]
 · have h2 : ¬ keyV a = keyV b := fun e => h (hk.2 e)
   simp [h, h2]
end Go.Proofs.YtdoeejhdenifpaaGreatDoor
