import Derived.Test.YtideclfpbpjebaaGreatDoorRows
import Derived.Test.YtideclfpbpjebaaGreatDoorCards
import Derived.Test.YtideclfpbpjebaaGreatDoorTie
import Derived.OpenShut
import Derived.Lib.LaidIn
import Derived.Lib.LaidU8T
import Derived.Deep.DeepHandedRow
import Derived.Deep.DeepWitnessRowRef
import Derived.SizedLaws
import Derived.SevenTiedAt
import Derived.Test.YtideclfpbpjebaaGreatDoorB36
import Derived.Test.YtideclfpbpjebaaGreatDoorB28
import Derived.Deep.RegionHeld3
namespace Go.Proofs.YtideclfpbpjebaaGreatDoor
section
open Go.ChangeShapes Go.WideShapes Go.ChangeAt Go.RowKit Go.Joins Go.Deep Go.Shelf

/-- The witness: the two tables laid. -/
noncomputable def laidWorld (os : Os) : World :=
  let w0 := World.holding Tryz.prog os ⟨#[], #[], []⟩
  let put (h : Array Obj) (g : Nat) (cs : Array Value) : Array Obj := h.modify g fun
    | .cells _ t frozen => .cells cs t frozen
    | o => o
  let h1 := put w0.heap 1 (Lib.firstTab.map fun z => Value.int .u8 z).toArray
  let h2 := put h1 2 ((List.range 16).flatMap fun i => [Value.int .u8 (Lib.accLo i), Value.int .u8 (Lib.accHi i)]).toArray
  { w0 with heap := h2 }
theorem acc_is : (Rows.laid_unicode_utf8_acceptRanges : DataW Unit) = Lib.acceptData := by kernel_rfl
theorem fst_is : (Rows.laid_unicode_utf8_first : DataW Unit) = Lib.firstData := by kernel_rfl
abbrev laidL : List (String × DataW Unit) := [("unicode/utf8.acceptRanges", Rows.laid_unicode_utf8_acceptRanges), ("unicode/utf8.first", Rows.laid_unicode_utf8_first)]
theorem laid_met (os : Os) (args : Array Value) : laidMet Tryz.prog laidL ((laidWorld os).forCall (fun _ _ => 0) ⟨#[], args, []⟩).memory :=
  (LaidIn.of_run (l := [("unicode/utf8.acceptRanges", Rows.laid_unicode_utf8_acceptRanges), ("unicode/utf8.first", Rows.laid_unicode_utf8_first)]) [2, 1] 8 (by kernel_rfl) (by kernel_rfl) (by kernel_rfl) (by kernel_rfl)).met
theorem tabs_of {W : World} (hL : laidMetH Tryz.prog laidL W) : Tabs W := by
  have h1 := Lib.laidMet.reads hL (.head _)
  have h2 := Lib.laidMet.reads hL (.tail _ (.head _))
  rw [acc_is] at h1
  rw [fst_is] at h2
  exact utf8Tabs_of_readsT (U8Types.of196 Tryz.valid8) ⟨by kernel_rfl, by kernel_rfl, by kernel_rfl, by kernel_rfl, by kernel_rfl, by kernel_rfl, by kernel_rfl⟩ h2 h1
theorem laid_metH (os : Os) (args : Array Value) : laidMetH Tryz.prog laidL ((laidWorld os).forCall (fun _ _ => 0) ⟨#[], args, []⟩).memory :=
  laidMetH_of_parts (laid_met os args) (by kernel_rfl)
end
section
open Go.RowKit Go.Sort Go.Maps Go.Shelf

/-- The world behind In: the area's box, then some's two. -/
theorem gin_in (n : Nat) (hn : 2 ≤ n) (p : Option Addr) (x : Ar) (w : World) :
    CallsIn Fence.wide n Tryz.prog 25 #[.pointer p, .agg #[.int .i64 x.1.1, .int .i64 x.1.2, .int .i64 x.2.1, .int .i64 x.2.2]] w fun e w' => e = .returned (.func (.func 59) #[] #[.pointer (some ⟨w.heap.size + 1, 0, none⟩), .pointer (some ⟨w.heap.size + 2, 0, none⟩)]) ∧
      w' = ((w.alloc (.cells #[.int .i64 x.1.1, .int .i64 x.1.2, .int .i64 x.2.1, .int .i64 x.2.2] 48)).alloc (.cells #[.pointer p] 25)).alloc (.cells #[.func (.func 47) #[] #[.pointer (some ⟨w.heap.size, 0, none⟩)]] 86) := by
  have h1 : 1 ≤ n := by omega
  have hf : Fence.wide.fn 34 := trivial
  refine callsIn_of_wp Tryz.func25 rfl trivial ?_ rfl
  simp only [Tryz.ntmps25, List.size_toArray, List.length_cons, List.length_nil, Nat.reduceAdd, Nat.reduceSub, Array.replicate_succ, Array.replicate_zero, List.push_toArray, List.append_toArray, List.nil_append, List.cons_append]
  gi_wp2_with (gi_at_call 34; refine (some_in (n - 1) p _ ⟨_, _, rfl⟩ _).mono ?_; rintro e w' ⟨rfl, rfl⟩)
  go_ret
  exact ⟨by simp, by simp⟩
end
section
open Go.RowKit Go.Sort Go.Maps Go.Shelf Go.MapKept
attribute [local go_sem] Oper.semAt_some

abbrev bstep (b : Ar) (k : Ad) : Ar := ((min b.1.1 k.1, min b.1.2 k.2), (max b.2.1 k.1, max b.2.2 k.2))
def bndD : List Ad → Ar
  | [] => ((0, 0), (0, 0))
  | a :: r => r.foldl bstep (a, a)
theorem bndD_snoc {l : List Ad} (h : l ≠ []) (k : Ad) : bndD (l ++ [k]) = bstep (bndD l) k := by
  cases l with
  | nil => exact absurd rfl h
  | cons a r => simp [bndD]
theorem bnd_same {l : List Ad} (h : l ≠ []) (hv : ∀ a ∈ l, validB a.1 a.2 = true) : boundsL l = bndD l := by
  cases l with
  | nil => exact absurd rfl h
  | cons a r =>
    have ha := hv a (by simp)
    have hb : 1 ≤ a.1 ∧ a.1 ≤ 256 ∧ 1 ≤ a.2 ∧ a.2 ≤ 4096 := by
      simp only [validB, Bool.and_eq_true, decide_eq_true_eq] at ha
      omega
    unfold boundsL bndD
    rw [List.foldl_cons]
    congr 1
    have e1 : min 256 a.1 = a.1 := by omega
    have e2 : min 4096 a.2 = a.2 := by omega
    have e3 : max 0 a.1 = a.1 := by omega
    have e4 : max 0 a.2 = a.2 := by omega
    show ((min 256 a.1, min 4096 a.2), (max 0 a.1, max 0 a.2)) = (a, a)
    rw [e1, e2, e3, e4]
set_option maxRecDepth 100000 in
set_option maxHeartbeats 400000 in
theorem dbounds_nil (rb : Nat) (w : World) (h : DG w rb []) : Calls Tryz.prog 23 #[.pointer (some ⟨rb, 0, none⟩)] w fun e w' => e = .returned (.tuple #[arV ((0, 0), (0, 0)), .bool false]) ∧ Xt w w' := by
  obtain ⟨v, hc, hP⟩ := h.cell
  obtain ⟨la, lc, rfl, hlc, hlc2⟩ := hP.shape
  obtain ⟨w1, hw1⟩ : ∃ w1, w.alloc (.cells #[.int .i64 0, .int .i64 0, .int .i64 0, .int .i64 0] 48) = w1 := ⟨_, rfl⟩
  have hx1 : Hid (Xt w w1) := by rw [← hw1]; exact (Xt.refl w).alloc _
  have hr1 : w1.heap[w.heap.size]? = some (.cells #[.int .i64 0, .int .i64 0, .int .i64 0, .int .i64 0] 48 (0, 0)) := by rw [← hw1]; exact (MapKept.heap_alloc w _).1
  obtain ⟨w2, hw2⟩ : ∃ w2, w1.setRow w.heap.size #[.int .i64 0, .int .i64 0, .int .i64 0, .int .i64 0] = w2 := ⟨_, rfl⟩
  have hr2 : w2.heap[w.heap.size]? = some (.cells #[.int .i64 0, .int .i64 0, .int .i64 0, .int .i64 0] 48 (0, 0)) := by rw [← hw2]; exact setRow_heap w1 _ _ _ _ _ hr1
  have HX : Hid (Xt w w2) := by rw [← hw2]; exact hx1.out.grownB (setRow_grown _ _ _) (fun m hm => by cases hm; exact Nat.le_refl _)
  have kc := hx1.out.cellsIn _ _ _ hc
  have HR1 := Lib.hid hr1
  have HR2 := Lib.hid hr2
  have HW2 := Lib.hid hw2
  clear hr1 hr2 hw2 h hc hP
  simp only [List.length_nil] at kc
  go_enter Tryz.func23, Tryz.ntmps23
  go_wp2_with (first
    | (refine wpList_store_row (P := Tryz.prog) rfl 48 _ _ rfl w.heap.size #[.int .i64 0, .int .i64 0, .int .i64 0, .int .i64 0] rfl rfl 48 _ HR1.out (by kernel_rfl) rfl (by simp [Value.oneCell']) ?_; rw [HW2.out]))
  (try simp only [Exit.inBlock, Exit.then])
  refine bodyPost_ret (v := .tuple #[arV ((0, 0), (0, 0)), .bool false]) ?_ rfl ⟨rfl, HX.out⟩
  rw [results_cell_tmp rfl]
  show ((asAddr (.pointer (some ⟨w.heap.size, 0, none⟩))).run _ _).andThen _ = _
  simp only [asAddr, Sem.run_pure, Result.andThen_ok, run_loadVar_row _ _ _ 48 _ _ _ HR2.out Tryz.underlying48 rfl (by kernel_rfl)]
  rfl
set_option maxRecDepth 100000 in
set_option maxHeartbeats 1000000 in
theorem dbounds_any (rb : Nat) (l : List PI) (w : World) (h : DG w rb l) (hne : l ≠ []) : Calls Tryz.prog 23 #[.pointer (some ⟨rb, 0, none⟩)] w fun e w' => e = .returned (.tuple #[arV (bndD (l.map (·.a))), .bool true]) ∧ Xt w w' := by
  obtain ⟨v, hc, hP⟩ := h.cell
  obtain ⟨la, lc, rfl, hlc, hlc2⟩ := hP.shape
  have hpos : 0 < l.length := List.length_pos_iff.2 hne
  have hlen : ((l.length : Int) == 0) = false := by simp; exact hne
  have hm := h.many
  obtain ⟨B, hB⟩ : ∃ B, w.heap.size = B := ⟨_, rfl⟩
  obtain ⟨w0, hw0⟩ : ∃ w0, w.alloc (.cells #[.int .i64 0, .int .i64 0, .int .i64 0, .int .i64 0] 48) = w0 := ⟨_, rfl⟩
  have HX0 : Hid (Xt w w0) := by unfold Hid; rw [← hw0]; exact (Xt.refl _).alloc _
  have HR0 : Hid (w0.heap[B]? = some (.cells #[.int .i64 0, .int .i64 0, .int .i64 0, .int .i64 0] 48 (0, 0))) := by unfold Hid; rw [← hw0, ← hB]; exact (MapKept.heap_alloc w _).1
  have hs0 : w0.heap.size = B + 1 := by rw [← hw0, ← hB]; simp
  have HP := Lib.hid (hP.xt HX0.out)
  have kc := HX0.out.cellsIn _ _ _ hc
  obtain ⟨x0, hx0⟩ : ∃ x, l[0]? = some x := ⟨l[0], List.getElem?_eq_getElem hpos⟩
  obtain ⟨b, off, rfl, q0, q1, _, _, _, _⟩ := HP.out.at hx0
  rw [Nat.zero_mul, Nat.add_zero] at q0 q1
  have hl0 : (0 : Int) < (l.length : Int) := by omega
  have HC := Lib.hid kc
  have HF : Hid (∀ V, Xt w0 V → V.cell? ⟨rb, 0, none⟩ = some (.slice (some ⟨b, off, none⟩) l.length lc) ∧ V.cell? ⟨b, off, none⟩ = some (.int .i64 x0.a.1) ∧ V.cell? ⟨b, off + 1, none⟩ = some (.int .i64 x0.a.2)) := Lib.hid fun V hV => ⟨hV.cellsIn _ _ _ kc, hV.cellsIn _ _ _ q0, hV.cellsIn _ _ _ q1⟩
  obtain ⟨w1, hw1⟩ : ∃ w1, (w0.alloc (.cells #[.int .i64 0, .int .i64 0, .int .i64 0, .int .i64 0] 48)).drew = w1 := ⟨_, rfl⟩
  have hx1 : Xt w0 w1 := by rw [← hw1]; exact ((Xt.refl w0).alloc _).drew
  have hr1 : w1.heap[B + 1]? = some (.cells #[.int .i64 0, .int .i64 0, .int .i64 0, .int .i64 0] 48 (0, 0)) := by rw [← hw1, ← hs0]; exact (MapKept.heap_alloc w0 _).1
  obtain ⟨w2, hw2⟩ : ∃ w2, w1.setRow (B + 1) #[.int .i64 x0.a.1, .int .i64 x0.a.2, .int .i64 x0.a.1, .int .i64 x0.a.2] = w2 := ⟨_, rfl⟩
  have HR2 : Hid (w2.heap[B + 1]? = some (.cells #[.int .i64 x0.a.1, .int .i64 x0.a.2, .int .i64 x0.a.1, .int .i64 x0.a.2] 48 (0, 0))) := by unfold Hid; rw [← hw2]; exact setRow_heap w1 _ _ _ _ _ hr1
  have HX2 : Hid (Xt w0 w2) := by unfold Hid; rw [← hw2]; exact hx1.grownB (setRow_grown _ _ _) (fun m hm => by cases hm; omega)
  have HX1 := Lib.hid hx1
  have HR1 := Lib.hid hr1
  have HW2 := Lib.hid hw2
  have HW1 := Lib.hid hw1
  have HB0 : Hid (bndD ((l.take 1).map (·.a)) = (x0.a, x0.a)) := Lib.hid (by
    have : l.take 1 = [x0] := by
      cases l with
      | nil => exact absurd rfl hne
      | cons y r => simp at hx0; simp [hx0]
    rw [this]; rfl)
  clear h hc hP hx1 hr1 hw1 hw2 hx0 q0 q1
  go_enter Tryz.func23, Tryz.ntmps23
  go_upto_region 3 with fail
  refine rg (fun V => Xt w0 V) (Xt.refl w0).drew fun hHeld => ?_
  refine tk HF.out 0 ?_
  refine tk HF.out 1 ?_
  refine tk HF.out 2 ?_
  refine tk HF.out 3 ?_
  refine tk HF.out 4 ?_
  refine tk HF.out 5 ?_
  refine tk HF.out 6 ?_
  refine tk HF.out 7 ?_
  refine tk HF.out 8 ?_
  refine tk HF.out 9 ?_
  refine tk HF.out 10 ?_
  refine tk HF.out 11 ?_
  refine tk HF.out 12 ?_
  refine tk HF.out 13 ?_
  refine tk HF.out 14 ?_
  refine rdH 15 fun K hK => ?_
  go_simp
  have hw1 := HW1.out
  simp only [hw1]
  refine ko hK HX1.out fun hHe => ?_
  clear hK K hw1
  refine rdH 16 fun K hK => ?_
  rw [if_pos (by rfl)]
  refine wp_store_row 48 _ _ rfl (B + 1) #[.int .i64 x0.a.1, .int .i64 x0.a.2, .int .i64 x0.a.1, .int .i64 x0.a.2] rfl rfl 48 _ HR1.out (by kernel_rfl) rfl (by simp [Value.oneCell']) ?_
  rw [HW2.out]
  refine ko hK HX2.out fun hHe2 => ?_
  clear hK K hHe2 hHe hHeld
  refine wpAnyH_done (by kernel_rfl) ?_ _
  have hk2 := (HF.out w2 HX2.out).1
  go_wp2_with fail
  go_loopw [5] (fun s5 wr => ∃ (i : Nat) (z : Ar), 1 ≤ i ∧ i ≤ l.length ∧ s5 = .int .i64 i ∧ Hid (bndD ((l.take i).map (·.a)) = z) ∧ Hid (wr.heap[B + 1]? = some (.cells #[.int .i64 z.1.1, .int .i64 z.1.2, .int .i64 z.2.1, .int .i64 z.2.2] 48 (0, 0))) ∧ Hid (Xt w0 wr)) (fun s5 _ => l.length - (intOf s5).toNat)
  case atStart => exact ⟨1, (x0.a, x0.a), Nat.le_refl _, hpos, rfl, HB0, HR2, HX2⟩
  case round =>
    obtain ⟨i, ⟨⟨z1, z2⟩, z3, z4⟩, hi1, hi, rfl, HZ, HR, HX⟩ := hrel
    have k0 := (HF.out wr HX.out).1
    obtain ⟨⟨c0, c1, c2, c3⟩, f0, f1, f2, f3⟩ := cells4 HR.out
    by_cases hlt : i < l.length
    · have hki : (i : Int) < (l.length : Int) := by omega
      obtain ⟨x, hx⟩ : ∃ x, l[i]? = some x := ⟨l[i], List.getElem?_eq_getElem hlt⟩
      obtain ⟨b', off', e, q0, q1, _, _, _, _⟩ := (HP.out.xt HX.out).at hx
      cases e
      have HXX := Lib.hid hx
      have hb1 : B + 1 < wr.heap.size := (Array.getElem?_eq_some_iff.1 HR.out).1
      obtain ⟨wA, hwA⟩ : ∃ wA, wr.alloc (.cells #[.int .i64 x.a.1, .int .i64 x.a.2] 36) = wA := ⟨_, rfl⟩
      have HXA : Hid (Xt wr wA) := by unfold Hid; rw [← hwA]; exact (Xt.refl _).alloc _
      have HRA := Lib.hid (rowX HXA.out HR.out)
      have hra : wA.heap[wr.heap.size]? = some (.cells #[.int .i64 x.a.1, .int .i64 x.a.2] 36 (0, 0)) := by rw [← hwA]; exact (MapKept.heap_alloc wr _).1
      obtain ⟨⟨a0, a1, a2, a3⟩, g0, g1, g2, g3⟩ := cells4 HRA.out
      obtain ⟨y0, y1, _, _⟩ := cells2 hra
      clear hra hx
      have hne2 : B + 1 ≠ wr.heap.size := by omega
      go_wp2_with fail
      go_roundw
      case rel =>
        have r4 := setCell_row (setCell_row (setCell_row (setCell_row HRA.out 0 (.int .i64 (min z1 x.a.1))) 1 (.int .i64 (min z2 x.a.2))) 2 (.int .i64 (max z3 x.a.1))) 3 (.int .i64 (max z4 x.a.2))
        simp only [List.setIfInBounds_toArray, List.set_cons_zero, List.set_cons_succ] at r4
        have hg4 := grown_set (grown_set (grown_set (grown_set (World.grownBy.refl wA (some (B + 1))) 0 (.int .i64 (min z1 x.a.1))) 1 (.int .i64 (min z2 x.a.2))) 2 (.int .i64 (max z3 x.a.1))) 3 (.int .i64 (max z4 x.a.2))
        refine ⟨i + 1, ((min z1 x.a.1, min z2 x.a.2), (max z3 x.a.1, max z4 x.a.2)), by omega, by omega, by go_num, ?_, r4, (HX.out.trans HXA.out).grownB hg4 (fun q hq => by cases hq; omega)⟩
        unfold Hid
        rw [List.take_add_one, HXX.out, List.map_append, Option.toList_some, List.map_cons, List.map_nil, bndD_snoc (fun e => by have h := congrArg List.length e; rw [List.length_map, List.length_take] at h; simp only [List.length_nil] at h; omega), HZ.out]
      case measure => simp [intOf]; omega
    · have hki : ¬ (i : Int) < (l.length : Int) := by omega
      obtain rfl : i = l.length := by omega
      have hr0 := rowX HX.out HR0.out
      obtain ⟨wE, hwE⟩ : ∃ wE, wr.setRow B #[.int .i64 z1, .int .i64 z2, .int .i64 z3, .int .i64 z4] = wE := ⟨_, rfl⟩
      have hrE : wE.heap[B]? = some (.cells #[.int .i64 z1, .int .i64 z2, .int .i64 z3, .int .i64 z4] 48 (0, 0)) := by rw [← hwE]; exact setRow_heap wr _ _ _ _ _ hr0
      have HXE : Hid (Xt w wE) := by unfold Hid; rw [← hwE]; exact (HX0.out.trans HX.out).grownB (setRow_grown _ _ _) (fun m hm => by cases hm; omega)
      have HR0' := Lib.hid hr0
      have HRE := Lib.hid hrE
      have HWE := Lib.hid hwE
      clear hr0 hrE hwE
      go_wp2_with (first
        | (refine wpList_store_row (P := Tryz.prog) rfl 48 _ _ rfl B #[.int .i64 z1, .int .i64 z2, .int .i64 z3, .int .i64 z4] rfl rfl 48 _ HR0'.out (by kernel_rfl) rfl (by simp [Value.oneCell']) ?_; rw [HWE.out]))
      (try simp only [Exit.inBlock, Exit.then])
      refine bodyPost_ret (v := .tuple #[arV ((z1, z2), (z3, z4)), .bool true]) ?_ rfl ⟨by have := HZ.out; rw [List.take_length] at this; rw [this], HXE.out⟩
      rw [results_cell_tmp rfl]
      show ((asAddr (.pointer (some ⟨B, 0, none⟩))).run _ _).andThen _ = _
      simp only [asAddr, Sem.run_pure, Result.andThen_ok, run_loadVar_row _ _ _ 48 _ _ _ HRE.out Tryz.underlying48 rfl (by kernel_rfl)]
      rfl
end
section
open Go.RowKit Go.Sort

/-! ### awake -/
theorem Xt.via {w a b : World} {mb : Nat} (h : Xt w a) (k : a.grownBy b (some mb)) (hm : w.heap.size ≤ mb) : Xt w b := h.grownB k (fun m e => by cases e; exact hm)
theorem noArgs (w : World) : ArgsIn w 0 (.slice none 0 0) [] := ⟨rfl, none, 0, rfl, by omega⟩
theorem zero_small : smallT zeroC.t := by simp [zeroC, smallT, smallL]
theorem aw1 : putCode [] (1, 1) (numC 4619567317775286272) = 0 := by kernel_rfl
abbrev awM (x : Option Addr) : GM := [((1, 1), (copyC (numC 4619567317775286272), x))]
theorem aw1' (x : Option Addr) : putTo [] (1, 1) (numC 4619567317775286272) x = awM x := by
  simp only [putTo, seven_ok, Bool.true_eq_false, if_false, show validB (1, 1).1 (1, 1).2 = true by kernel_rfl, show ((numC 4619567317775286272).kind == 0) = false by kernel_rfl, show fullB [] (1, 1) = false by kernel_rfl, Bool.false_eq_true]
  rfl
theorem aw2 (x : Option Addr) : putCode (awM x) (257, 1) (numC 4619567317775286272) = 20 := by
  simp only [putCode, seven_ok, Bool.true_eq_false, if_false, show validB (257, 1).1 (257, 1).2 = false by kernel_rfl, if_true]
theorem aw2' (x y : Option Addr) : putTo (awM x) (257, 1) (numC 4619567317775286272) y = awM x := by
  simp only [putTo, seven_ok, Bool.true_eq_false, if_false, show validB (257, 1).1 (257, 1).2 = false by kernel_rfl, if_true]
theorem aw3 (x : Option Addr) : putCode (awM x) (2, 2) ⟨3, zeroC.v, zeroC.t⟩ = 1 := by simp only [putCode, three_no, if_true]
theorem aw3' (x y : Option Addr) : putTo (awM x) (2, 2) ⟨3, zeroC.v, zeroC.t⟩ y = awM x := by simp only [putTo, three_no, if_true]
theorem aw4 (x : Option Addr) : (lkM (1, 1) (awM x)).getD (zeroC, none) = (copyC (numC 4619567317775286272), x) := rfl
theorem numC_ok {x : Nat} (h : x < 18446744073709551616) : (numC x).ok := by simp [ContT.ok, numC, zeroC, NodeT.ok, okL, ByteArray.size, h]
theorem three_ok : (ContT.mk 3 zeroC.v zeroC.t).ok := by simp [ContT.ok, zeroC, NodeT.ok, okL, ByteArray.size]
theorem seven_cells (a' : Option Addr) : ∃ cs : Array Value, copyCV (copyC (numC 4619567317775286272)) a' = .agg cs ∧ cs.size = 21 ∧ cs.all (·.oneCell') = true ∧ cs[2]? = some (.float .f64 4619567317775286272) := by
  refine ⟨_, copyCV_eq _ _, rfl, by simp [Value.oneCell'], ?_⟩
  show some (Value.float .f64 (oneX (oneX 4619567317775286272))) = _
  rw [one_seven, one_seven]
set_option maxRecDepth 100000 in
set_option maxHeartbeats 4000000 in
theorem awake_any (w : World) (hT : Tabs w) : Calls Tryz.prog 4 #[] w fun e w' => e = .returned (.bool true) ∧ Xt w w' := by
  have HT := Lib.hid hT
  clear hT
  go_enter Tryz.func4, Tryz.ntmps4
  go_wp2_with fail
  refine (gnew_any _).mono ?_
  rintro e w1 ⟨rfl, hG, hg1⟩
  have hx1 := hg1.xt
  generalize hgb : w.heap.size + 1 = gb at hG ⊢
  generalize hmb : w.heap.size = mb at hG
  have hwm : w.heap.size ≤ mb := by omega
  clear hg1
  go_wp2_with fail
  refine (cell_any (1, 1) _).mono ?_
  rintro e w2 ⟨rfl, hg2⟩
  have hx2 := hx1.trans hg2.xt
  have hG2 := hG.xt hg2.xt
  clear hx1 hG hg2
  go_wp2_with fail
  refine (number_any _ _).mono ?_
  rintro e w3 ⟨rfl, hg3⟩
  have hx3 := hx2.trans hg3
  have hG3 := hG2.xt hg3
  clear hx2 hG2 hg3
  go_wp2_with fail
  refine (gput_any 0 gb mb [] (1, 1) (numC 4619567317775286272) none 0 w3 hG3 (numC_ok (by decide)) (HT.out.xt hx3) zero_small (noArgs _)).mono ?_
  rintro e w4 ⟨x, rfl, hG4, hg4⟩
  rw [aw1' x] at hG4
  rw [aw1]
  have hx4 := hx3.via hg4 hwm
  clear hx3 hG3 hg4
  go_wp2_with fail
  refine (cell_any (257, 1) _).mono ?_
  rintro e w5 ⟨rfl, hg5⟩
  have hx5 := hx4.trans hg5.xt
  have hG5 := hG4.xt hg5.xt
  clear hx4 hG4 hg5
  go_wp2_with fail
  refine (number_any _ _).mono ?_
  rintro e w6 ⟨rfl, hg6⟩
  have hx6 := hx5.trans hg6
  have hG6 := hG5.xt hg6
  clear hx5 hG5 hg6
  go_wp2_with fail
  refine (gput_any 0 gb mb (awM x) (257, 1) (numC 4619567317775286272) none 0 w6 hG6 (numC_ok (by decide)) (HT.out.xt hx6) zero_small (noArgs _)).mono ?_
  rintro e w7 ⟨y, rfl, hG7, hg7⟩
  rw [aw2' x y] at hG7
  rw [aw2]
  have hx7 := hx6.via hg7 hwm
  clear hx6 hG6 hg7
  go_wp2_with fail
  refine (cell_any (2, 2) _).mono ?_
  rintro e w8 ⟨rfl, hg8⟩
  have hx8 := hx7.trans hg8.xt
  have hG8 := hG7.xt hg8.xt
  clear hx7 hG7 hg8
  go_wp2_with fail
  refine (gput_any 0 gb mb (awM x) (2, 2) ⟨3, zeroC.v, zeroC.t⟩ none 0 w8 hG8 three_ok (HT.out.xt hx8) zero_small (noArgs _)).mono ?_
  rintro e w9 ⟨z, rfl, hG9, hg9⟩
  rw [aw3' x z] at hG9
  rw [aw3]
  have hx9 := hx8.via hg9 hwm
  clear hx8 hG8 hg9
  go_wp2_with fail
  refine (cell_any (1, 1) _).mono ?_
  rintro e wa ⟨rfl, hga⟩
  have hxa := hx9.trans hga.xt
  have hGa := hG9.xt hga.xt
  clear hx9 hG9 hga
  go_wp2_with fail
  refine (gget_any gb mb (awM x) (1, 1) wa hGa).mono ?_
  rw [aw4]
  rintro e wb ⟨n, a', rfl, hA, hgb'⟩
  obtain ⟨cs, hcv, hcs, hone, h2⟩ := seven_cells a'
  rw [hcv]
  have hxb := hxa.trans hgb'
  have hGb := hGa.xt hgb'
  clear hxa hGa hgb' hA hcv
  obtain ⟨wz, hwz⟩ : ∃ wz, wb.alloc (.cells #[.int .i64 0, .int .i64 0, .float .f64 0, .string ⟨#[]⟩, .bool false, .int .i64 0, .int .i64 0, .int .i64 0, .float .f64 0, .string ⟨#[]⟩, .bool false, .int .i64 0, .int .i64 0, .int .i64 0, .bool false, .bool false, .int .i64 0, .int .i64 0, .bool false, .bool false, .slice none 0 0] 46) = wz := ⟨_, rfl⟩
  have hrz : wz.heap[wb.heap.size]? = some (.cells #[.int .i64 0, .int .i64 0, .float .f64 0, .string ⟨#[]⟩, .bool false, .int .i64 0, .int .i64 0, .int .i64 0, .float .f64 0, .string ⟨#[]⟩, .bool false, .int .i64 0, .int .i64 0, .int .i64 0, .bool false, .bool false, .int .i64 0, .int .i64 0, .bool false, .bool false, .slice none 0 0] 46 (0, 0)) := by rw [← hwz]; exact (MapKept.heap_alloc wb _).1
  obtain ⟨wc, hwc⟩ : ∃ wc, wz.setRow wb.heap.size cs = wc := ⟨_, rfl⟩
  have hxwc : Xt wb wc := by rw [← hwc, ← hwz]; exact ((Xt.refl wb).alloc _).grownB (setRow_grown _ _ _) (fun m hm => by cases hm; exact Nat.le_refl _)
  have d2 : wc.cell? ⟨wb.heap.size, 2, none⟩ = some (.float .f64 4619567317775286272) := by
    have := setRow_heap wz wb.heap.size _ cs _ _ hrz
    rw [hwc] at this
    simp [World.cell?, this, h2]
  have HRZ := Lib.hid hrz
  have HWC := Lib.hid hwc
  have HON := Lib.hid hone
  have HCS := Lib.hid hcs
  have hxc := hxb.trans hxwc
  have hGc := hGb.xt hxwc
  clear hxb hGb hxwc hrz hwc hone hcs h2
  go_wp2_with (refine wpList_store_row (P := Tryz.prog) rfl 46 _ _ rfl wb.heap.size cs rfl rfl 46 _ HRZ.out (by rw [HCS.out]; kernel_rfl) (by rw [HCS.out]; rfl) HON.out ?_; rw [HWC.out])
  refine (bounds_any gb mb (awM x) wc hGc (by simp)).mono ?_
  rintro e wd ⟨rfl, hxd'⟩
  rw [show boundsL ((awM x).map (·.1)) = ((1, 1), (1, 1)) from rfl]
  have hxd := hxc.trans hxd'
  have hGd := hGc.xt hxd'
  have f2 := hxd'.cellsIn _ _ _ d2
  clear hxc hGc hxd' d2
  go_wp2_with fail
  -- REGION 9
  obtain ⟨ws, hws⟩ : ∃ ws, wd.alloc (.cells #[.int .i64 1, .int .i64 1, .int .i64 1, .int .i64 1] 48) = ws := ⟨_, rfl⟩
  have hxs : Xt wd ws.drew := by rw [← hws]; exact ((Xt.refl wd).alloc _).drew
  have hSs : ws.drew.cell? ⟨wb.heap.size, 2, none⟩ = some (.float .f64 4619567317775286272) ∧ ws.drew.cell? ⟨wd.heap.size, 0, none⟩ = some (.int .i64 1) ∧ ws.drew.cell? ⟨wd.heap.size, 1, none⟩ = some (.int .i64 1) ∧ ws.drew.cell? ⟨wd.heap.size, 2, none⟩ = some (.int .i64 1) ∧ ws.drew.cell? ⟨wd.heap.size, 3, none⟩ = some (.int .i64 1) ∧ GridIs ws.drew gb mb (awM x) := by
    refine ⟨hxs.cellsIn _ _ _ f2, ?_, ?_, ?_, ?_, hGd.xt hxs⟩ <;> (show ws.cell? _ = _; rw [← hws, World.cell?_alloc_new]; rfl)
  have hxe := hxd.trans hxs
  have HGD := Lib.hid hGd
  rw [hws]
  clear hws hxd hGd f2 hxs
  refine wp_region_held_drew (S := fun w' => w'.cell? ⟨wb.heap.size, 2, none⟩ = some (.float .f64 4619567317775286272) ∧ w'.cell? ⟨wd.heap.size, 0, none⟩ = some (.int .i64 1) ∧ w'.cell? ⟨wd.heap.size, 1, none⟩ = some (.int .i64 1) ∧ w'.cell? ⟨wd.heap.size, 2, none⟩ = some (.int .i64 1) ∧ w'.cell? ⟨wd.heap.size, 3, none⟩ = some (.int .i64 1) ∧ GridIs w' gb mb (awM x)) (by kernel_rfl) hSs (fun hHeld => ?_)
  refine wpAnyH_take (i := 0) (oi := _) (v := ?_) rfl (by kernel_rfl) (by kernel_rfl) (by kernel_rfl) (fun _ _ _ h => h) (Or.inl ⟨by rfl, ?_⟩) (by assumption) ?_
  rotate_left
  · intro w hSw; (try dsimp only at hSw); clear hSw; go_simp; first | done | with_reducible rfl
  try simp only [Act.put, List.getElem_toArray, List.getElem_cons_zero, List.setIfInBounds_toArray, List.set_cons_zero, List.set_cons_succ]
  refine wpAnyH_take (i := 1) (oi := _) (v := ?_) rfl (by kernel_rfl) (by kernel_rfl) (by kernel_rfl) (fun _ _ _ h => h) (Or.inl ⟨by rfl, ?_⟩) (by assumption) ?_
  rotate_left
  · intro w hSw; (try dsimp only at hSw); clear hSw; go_simp; first | done | with_reducible rfl
  try simp only [Act.put, List.getElem_toArray, List.getElem_cons_zero, List.getElem_cons_succ, List.setIfInBounds_toArray, List.set_cons_zero, List.set_cons_succ]
  refine wpAnyH_take (i := 2) (oi := _) (v := ?_) rfl (by kernel_rfl) (by kernel_rfl) (by kernel_rfl) (fun _ _ _ h => h) (Or.inl ⟨by rfl, ?_⟩) (by assumption) ?_
  rotate_left
  · intro w hSw; (try dsimp only at hSw); clear hSw; go_simp; first | done | with_reducible rfl
  try simp only [Act.put, List.getElem_toArray, List.getElem_cons_zero, List.getElem_cons_succ, List.setIfInBounds_toArray, List.set_cons_zero, List.set_cons_succ]
  refine wpAnyH_take (i := 3) (oi := _) (v := ?_) rfl (by kernel_rfl) (by kernel_rfl) (by kernel_rfl) (fun _ _ _ h => h) (Or.inl ⟨by rfl, ?_⟩) (by assumption) ?_
  rotate_left
  · intro w hSw; (try dsimp only at hSw); clear hSw; go_simp; first | done | with_reducible rfl
  try simp only [Act.put, List.getElem_toArray, List.getElem_cons_zero, List.getElem_cons_succ, List.setIfInBounds_toArray, List.set_cons_zero, List.set_cons_succ]
  refine wpAnyH_take (i := 4) (oi := _) (v := ?_) rfl (by kernel_rfl) (by kernel_rfl) (by kernel_rfl) (fun _ _ _ h => h) (Or.inl ⟨by rfl, ?_⟩) (by assumption) ?_
  rotate_left
  · intro w hSw; (try dsimp only at hSw); clear hSw; go_simp; first | done | with_reducible rfl
  try simp only [Act.put, List.getElem_toArray, List.getElem_cons_zero, List.getElem_cons_succ, List.setIfInBounds_toArray, List.set_cons_zero, List.set_cons_succ]
  refine wpAnyH_take (i := 5) (oi := _) (v := ?_) rfl (by kernel_rfl) (by kernel_rfl) (by kernel_rfl) (fun _ _ _ h => h) (Or.inl ⟨by rfl, ?_⟩) (by assumption) ?_
  rotate_left
  · intro w hSw; (try dsimp only at hSw); clear hSw; go_simp; first | done | with_reducible rfl
  try simp only [Act.put, List.getElem_toArray, List.getElem_cons_zero, List.getElem_cons_succ, List.setIfInBounds_toArray, List.set_cons_zero, List.set_cons_succ]
  refine wpAnyH_take (i := 6) (oi := _) (v := ?_) rfl (by kernel_rfl) (by kernel_rfl) (by kernel_rfl) (fun _ _ _ h => h) (Or.inl ⟨by rfl, ?_⟩) (by assumption) ?_
  rotate_left
  · intro w hSw; (try dsimp only at hSw); clear hSw; go_simp; first | done | with_reducible rfl
  try simp only [Act.put, List.getElem_toArray, List.getElem_cons_zero, List.getElem_cons_succ, List.setIfInBounds_toArray, List.set_cons_zero, List.set_cons_succ]
  refine wpAnyH_take (i := 7) (oi := _) (v := ?_) rfl (by kernel_rfl) (by kernel_rfl) (by kernel_rfl) (fun _ _ _ h => h) (Or.inl ⟨by rfl, ?_⟩) (by assumption) ?_
  rotate_left
  · intro w hSw; (try dsimp only at hSw); clear hSw; go_simp; first | done | with_reducible rfl
  try simp only [Act.put, List.getElem_toArray, List.getElem_cons_zero, List.getElem_cons_succ, List.setIfInBounds_toArray, List.set_cons_zero, List.set_cons_succ]
  refine wpAnyH_take (i := 8) (oi := _) (v := ?_) rfl (by kernel_rfl) (by kernel_rfl) (by kernel_rfl) (fun _ _ _ h => h) (Or.inl ⟨by rfl, ?_⟩) (by assumption) ?_
  rotate_left
  · intro w hSw; (try dsimp only at hSw); clear hSw; go_simp; first | done | with_reducible rfl
  try simp only [Act.put, List.getElem_toArray, List.getElem_cons_zero, List.getElem_cons_succ, List.setIfInBounds_toArray, List.set_cons_zero, List.set_cons_succ]
  refine wpAnyH_take (i := 9) (oi := _) (v := ?_) rfl (by kernel_rfl) (by kernel_rfl) (by kernel_rfl) (fun _ _ _ h => h) (Or.inl ⟨by rfl, ?_⟩) (by assumption) ?_
  rotate_left
  · intro w hSw; (try dsimp only at hSw); clear hSw; go_simp; first | done | with_reducible rfl
  try simp only [Act.put, List.getElem_toArray, List.getElem_cons_zero, List.getElem_cons_succ, List.setIfInBounds_toArray, List.set_cons_zero, List.set_cons_succ]
  refine wpAnyH_take (i := 10) (oi := _) (v := ?_) rfl (by kernel_rfl) (by kernel_rfl) (by kernel_rfl) (fun _ _ _ h => h) (Or.inl ⟨by rfl, ?_⟩) (by assumption) ?_
  rotate_left
  · intro w hSw; (try dsimp only at hSw); clear hSw; go_simp; first | done | with_reducible rfl
  try simp only [Act.put, List.getElem_toArray, List.getElem_cons_zero, List.getElem_cons_succ, List.setIfInBounds_toArray, List.set_cons_zero, List.set_cons_succ]
  refine wpAnyH_take (i := 11) (oi := _) (v := ?_) rfl (by kernel_rfl) (by kernel_rfl) (by kernel_rfl) (fun _ _ _ h => h) (Or.inl ⟨by rfl, ?_⟩) (by assumption) ?_
  rotate_left
  · intro w hSw; (try dsimp only at hSw); clear hSw; go_simp; first | done | with_reducible rfl
  try simp only [Act.put, List.getElem_toArray, List.getElem_cons_zero, List.getElem_cons_succ, List.setIfInBounds_toArray, List.set_cons_zero, List.set_cons_succ]
  refine wpAnyH_ready (rs := [12]) (by kernel_rfl) (by simp) ?_
  refine AllReadyH.cons (o := _) rfl (fun K hK => ?_) AllReadyH.nil
  go_simp
  refine (glen_any gb mb (awM x) _ hHeld.2.2.2.2.2).mono ?_
  rintro e w' ⟨rfl, rfl⟩
  refine hK.out _ _ hHeld (fun hHeld2 => ?_)
  clear hK K hHeld2
  try simp only [Act.put, List.getElem_toArray, List.getElem_cons_zero, List.getElem_cons_succ, List.setIfInBounds_toArray, List.set_cons_zero, List.set_cons_succ]
  refine wpAnyH_take (i := 13) (oi := _) (v := ?_) rfl (by kernel_rfl) (by kernel_rfl) (by kernel_rfl) (fun _ _ _ h => h) (Or.inl ⟨by rfl, ?_⟩) (by assumption) ?_
  rotate_left
  · intro w hSw; (try dsimp only at hSw); clear hSw; go_simp; first | done | with_reducible rfl
  try simp only [Act.put, List.getElem_toArray, List.getElem_cons_zero, List.getElem_cons_succ, List.setIfInBounds_toArray, List.set_cons_zero, List.set_cons_succ]
  refine wpAnyH_take (i := 14) (oi := _) (v := ?_) rfl (by kernel_rfl) (by kernel_rfl) (by kernel_rfl) (fun _ _ _ h => h) (Or.inl ⟨by rfl, ?_⟩) (by assumption) ?_
  rotate_left
  · intro w hSw; (try dsimp only at hSw); clear hSw; go_simp; first | done | with_reducible rfl
  try simp only [Act.put, List.getElem_toArray, List.getElem_cons_zero, List.getElem_cons_succ, List.setIfInBounds_toArray, List.set_cons_zero, List.set_cons_succ]
  refine wpAnyH_take (i := 15) (oi := _) (v := ?_) rfl (by kernel_rfl) (by kernel_rfl) (by kernel_rfl) (fun _ _ _ h => h) (Or.inl ⟨by rfl, ?_⟩) (by assumption) ?_
  rotate_left
  · intro w hSw; (try dsimp only at hSw); clear hSw; go_simp; first | done | with_reducible rfl
  try simp only [Act.put, List.getElem_toArray, List.getElem_cons_zero, List.getElem_cons_succ, List.setIfInBounds_toArray, List.set_cons_zero, List.set_cons_succ]
  refine wpAnyH_take (i := 16) (oi := _) (v := ?_) rfl (by kernel_rfl) (by kernel_rfl) (by kernel_rfl) (fun _ _ _ h => h) (Or.inl ⟨by rfl, ?_⟩) (by assumption) ?_
  rotate_left
  · intro w hSw; (try dsimp only at hSw); clear hSw; go_simp; first | done | with_reducible rfl
  try simp only [Act.put, List.getElem_toArray, List.getElem_cons_zero, List.getElem_cons_succ, List.setIfInBounds_toArray, List.set_cons_zero, List.set_cons_succ]
  refine wpAnyH_take (i := 17) (oi := _) (v := ?_) rfl (by kernel_rfl) (by kernel_rfl) (by kernel_rfl) (fun _ _ _ h => h) (Or.inl ⟨by rfl, ?_⟩) (by assumption) ?_
  rotate_left
  · intro w hSw; (try dsimp only at hSw); clear hSw; go_simp; first | done | with_reducible rfl
  try simp only [Act.put, List.getElem_toArray, List.getElem_cons_zero, List.getElem_cons_succ, List.setIfInBounds_toArray, List.set_cons_zero, List.set_cons_succ]
  refine wpAnyH_take (i := 18) (oi := _) (v := ?_) rfl (by kernel_rfl) (by kernel_rfl) (by kernel_rfl) (fun _ _ _ h => h) (Or.inl ⟨by rfl, ?_⟩) (by assumption) ?_
  rotate_left
  · intro w hSw; (try dsimp only at hSw); obtain ⟨s0, s1, s2, s3, s4, s5⟩ := hSw; clear s5; go_simp; first | done | with_reducible rfl
  try simp only [Act.put, List.getElem_toArray, List.getElem_cons_zero, List.getElem_cons_succ, List.setIfInBounds_toArray, List.set_cons_zero, List.set_cons_succ]
  refine wpAnyH_take (i := 19) (oi := _) (v := ?_) rfl (by kernel_rfl) (by kernel_rfl) (by kernel_rfl) (fun _ _ _ h => h) (Or.inl ⟨by rfl, ?_⟩) (by assumption) ?_
  rotate_left
  · intro w hSw; (try dsimp only at hSw); clear hSw; go_simp; first | done | with_reducible rfl
  try simp only [Act.put, List.getElem_toArray, List.getElem_cons_zero, List.getElem_cons_succ, List.setIfInBounds_toArray, List.set_cons_zero, List.set_cons_succ]
  refine wpAnyH_take (i := 20) (oi := _) (v := ?_) rfl (by kernel_rfl) (by kernel_rfl) (by kernel_rfl) (fun _ _ _ h => h) (Or.inl ⟨by rfl, ?_⟩) (by assumption) ?_
  rotate_left
  · intro w hSw; (try dsimp only at hSw); clear hSw; go_simp; first | done | with_reducible rfl
  try simp only [Act.put, List.getElem_toArray, List.getElem_cons_zero, List.getElem_cons_succ, List.setIfInBounds_toArray, List.set_cons_zero, List.set_cons_succ]
  refine wpAnyH_take (i := 21) (oi := _) (v := ?_) rfl (by kernel_rfl) (by kernel_rfl) (by kernel_rfl) (fun _ _ _ h => h) (Or.inl ⟨by rfl, ?_⟩) (by assumption) ?_
  rotate_left
  · intro w hSw; (try dsimp only at hSw); clear hSw; go_simp; first | done | with_reducible rfl
  try simp only [Act.put, List.getElem_toArray, List.getElem_cons_zero, List.getElem_cons_succ, List.setIfInBounds_toArray, List.set_cons_zero, List.set_cons_succ]
  refine wpAnyH_take (i := 22) (oi := _) (v := ?_) rfl (by kernel_rfl) (by kernel_rfl) (by kernel_rfl) (fun _ _ _ h => h) (Or.inl ⟨by rfl, ?_⟩) (by assumption) ?_
  rotate_left
  · intro w hSw; (try dsimp only at hSw); clear hSw; go_simp; first | done | with_reducible rfl
  try simp only [Act.put, List.getElem_toArray, List.getElem_cons_zero, List.getElem_cons_succ, List.setIfInBounds_toArray, List.set_cons_zero, List.set_cons_succ]
  refine wpAnyH_take (i := 23) (oi := _) (v := ?_) rfl (by kernel_rfl) (by kernel_rfl) (by kernel_rfl) (fun _ _ _ h => h) (Or.inl ⟨by rfl, ?_⟩) (by assumption) ?_
  rotate_left
  · intro w hSw; (try dsimp only at hSw); clear hSw; go_simp; first | done | with_reducible rfl
  try simp only [Act.put, List.getElem_toArray, List.getElem_cons_zero, List.getElem_cons_succ, List.setIfInBounds_toArray, List.set_cons_zero, List.set_cons_succ]
  refine wpAnyH_take (i := 24) (oi := _) (v := ?_) rfl (by kernel_rfl) (by kernel_rfl) (by kernel_rfl) (fun _ _ _ h => h) (Or.inl ⟨by rfl, ?_⟩) (by assumption) ?_
  rotate_left
  · intro w hSw; (try dsimp only at hSw); clear hSw; go_simp; first | done | with_reducible rfl
  try simp only [Act.put, List.getElem_toArray, List.getElem_cons_zero, List.getElem_cons_succ, List.setIfInBounds_toArray, List.set_cons_zero, List.set_cons_succ]
  refine wpAnyH_take (i := 25) (oi := _) (v := ?_) rfl (by kernel_rfl) (by kernel_rfl) (by kernel_rfl) (fun _ _ _ h => h) (Or.inl ⟨by rfl, ?_⟩) (by assumption) ?_
  rotate_left
  · intro w hSw; (try dsimp only at hSw); obtain ⟨s0, s1, s2, s3, s4, s5⟩ := hSw; clear s5; go_simp; first | done | with_reducible rfl
  try simp only [Act.put, List.getElem_toArray, List.getElem_cons_zero, List.getElem_cons_succ, List.setIfInBounds_toArray, List.set_cons_zero, List.set_cons_succ]
  refine wpAnyH_ready (rs := [26]) (by kernel_rfl) (by simp) ?_
  refine AllReadyH.cons (o := _) rfl (fun K hK => ?_) AllReadyH.nil
  go_simp
  refine (cell_any (1, 1) _).mono ?_
  rintro e wf ⟨rfl, hgwf⟩
  have hxwf := hgwf.xt
  refine hK.out _ _ ⟨hxwf.cellsIn _ _ _ hHeld.1, hxwf.cellsIn _ _ _ hHeld.2.1, hxwf.cellsIn _ _ _ hHeld.2.2.1, hxwf.cellsIn _ _ _ hHeld.2.2.2.1, hxwf.cellsIn _ _ _ hHeld.2.2.2.2.1, hHeld.2.2.2.2.2.xt hxwf⟩ (fun hHeld3 => ?_)
  clear hK K
  try simp only [Act.put, List.getElem_toArray, List.getElem_cons_zero, List.getElem_cons_succ, List.setIfInBounds_toArray, List.set_cons_zero, List.set_cons_succ]
  refine wpAnyH_ready (rs := [27]) (by kernel_rfl) (by simp) ?_
  refine AllReadyH.cons (o := _) rfl (fun K hK => ?_) AllReadyH.nil
  go_simp
  refine (cell_any (1, 1) _).mono ?_
  rintro e wg ⟨rfl, hgwg⟩
  have hxwg := hgwg.xt
  refine hK.out _ _ ⟨hxwg.cellsIn _ _ _ hHeld3.1, hxwg.cellsIn _ _ _ hHeld3.2.1, hxwg.cellsIn _ _ _ hHeld3.2.2.1, hxwg.cellsIn _ _ _ hHeld3.2.2.2.1, hxwg.cellsIn _ _ _ hHeld3.2.2.2.2.1, hHeld3.2.2.2.2.2.xt hxwg⟩ (fun hHeld4 => ?_)
  clear hK K
  try simp only [Act.put, List.getElem_toArray, List.getElem_cons_zero, List.getElem_cons_succ, List.setIfInBounds_toArray, List.set_cons_zero, List.set_cons_succ]
  refine wpAnyH_take (i := 28) (oi := _) (v := ?_) rfl (by kernel_rfl) (by kernel_rfl) (by kernel_rfl) (fun _ _ _ h => h) (Or.inl ⟨by rfl, ?_⟩) (by assumption) ?_
  rotate_left
  · intro w hSw; (try dsimp only at hSw); clear hSw; go_simp; first | done | with_reducible rfl
  try simp only [Act.put, List.getElem_toArray, List.getElem_cons_zero, List.getElem_cons_succ, List.setIfInBounds_toArray, List.set_cons_zero, List.set_cons_succ]
  refine wpAnyH_take (i := 29) (oi := _) (v := ?_) rfl (by kernel_rfl) (by kernel_rfl) (by kernel_rfl) (fun _ _ _ h => h) (Or.inl ⟨by rfl, ?_⟩) (by assumption) ?_
  rotate_left
  · intro w hSw; (try dsimp only at hSw); clear hSw; go_simp; first | done | with_reducible rfl
  try simp only [Act.put, List.getElem_toArray, List.getElem_cons_zero, List.getElem_cons_succ, List.setIfInBounds_toArray, List.set_cons_zero, List.set_cons_succ]
  refine wpAnyH_take (i := 30) (oi := _) (v := ?_) rfl (by kernel_rfl) (by kernel_rfl) (by kernel_rfl) (fun _ _ _ h => h) (Or.inl ⟨by rfl, ?_⟩) (by assumption) ?_
  rotate_left
  · intro w hSw; (try dsimp only at hSw); clear hSw; go_simp; first | done | with_reducible rfl
  try simp only [Act.put, List.getElem_toArray, List.getElem_cons_zero, List.getElem_cons_succ, List.setIfInBounds_toArray, List.set_cons_zero, List.set_cons_succ]
  refine wpAnyH_take (i := 31) (oi := _) (v := ?_) rfl (by kernel_rfl) (by kernel_rfl) (by kernel_rfl) (fun _ _ _ h => h) (Or.inl ⟨by rfl, ?_⟩) (by assumption) ?_
  rotate_left
  · intro w hSw; (try dsimp only at hSw); clear hSw; go_simp; first | done | with_reducible rfl
  try simp only [Act.put, List.getElem_toArray, List.getElem_cons_zero, List.getElem_cons_succ, List.setIfInBounds_toArray, List.set_cons_zero]
  refine wpAnyH_done (by kernel_rfl) ?_ _
  go_wp2_with fail
  go_ret
  exact ⟨rfl, (hxe.trans hxwf).trans hxwg⟩

set_option maxRecDepth 100000 in
set_option maxHeartbeats 2000000 in
theorem heavy_any (n : Nat) (c : ContT) (a : Option Addr) (cap : Nat) (w : World) (hin : ArgsIn w n (.slice a c.t.args.length cap) c.t.args) :
    Calls Tryz.prog 6 #[contV c a c.t.args.length cap] w fun e w' => e = .returned (.bool (heavyB c)) ∧ Gr w w' := by
  obtain ⟨w0, hw0, hg0, hs0, hC⟩ := boxC w c a c.t.args.length cap 46
  have HG0 := Lib.hid hg0
  have HW := Lib.hid (weight_any n c.t a cap 1048576 w0 (by omega) (by omega) (hin.xt hg0.xt))
  obtain ⟨c0, c1, c2, c3, c4, c5, c6, c7, c8, c9, c10, c11, c12, c13, c14, c15, c16, c17, c18, c19, c20⟩ :=  hC
  simp only [Nat.zero_add] at c0 c1 c2 c3 c4 c5 c6 c7 c8 c9 c10 c11 c12 c13 c14 c15 c16 c17 c18 c19 c20
  unfold heavyB
  generalize weightT c.t 1048576 = wt at HW ⊢
  clear hg0 hin
  go_enter Tryz.func6, Tryz.ntmps6
  go_wp2_with fail
  refine (HW.out).mono ?_
  rintro e w1 ⟨rfl, hg1⟩
  have HG1 := Lib.hid hg1
  clear hg1
  go_wp2_with fail
  go_ret
  exact ⟨rfl, HG0.out.trans HG1.out⟩
end
section
open Go.ChangeShapes Go.WideShapes Go.ChangeAt Go.RowKit Go.Joins Go.Deep Go.Shelf

section
variable {H : Type} {enc : TypeId × Value → H} {W : World} {base : Nat} {spare : Nat → Bool} {held : Bool}
/-- The same, with what the elements weigh. -/
theorem open_listW {α : Type} {p : α → Prop} {encA : α → List Value} {sz : Nat} {t e : TypeId} {n : Nat} {v : Value} {x : DataW H × List MemPlace} (ht : Tryz.prog.underlying t = some (.slice e)) (hc : Tryz.prog.cellsOf e = sz) (hpos : 0 < sz) (hk : ∀ x, (encA x).length = sz)
    (he : ∀ m cs y, DataW.trod enc Tryz.prog W base spare held m e cs = some y → (∀ q ∈ y.1.weights Tryz.prog e, q ≤ reachBytes) → ∃ a : α, cs = encA a ∧ p a) (h : DataW.trod enc Tryz.prog W base spare held n t [v] = some x) (hz : ∀ q ∈ x.1.weights Tryz.prog t, q ≤ reachBytes) : ∃ l, SlOf W encA sz v l ∧ ∀ x ∈ l, p x := by
  rcases DataW.trod_slice ht h with ⟨h0, _⟩ | ⟨a, len, cap, elems, rest, m, hq, hcs, hx, hb, hlc, hcap, hle, hel, _, _⟩
  · cases h0
    exact ⟨[], SlOf.nil _ _ _ _ _ (by omega), fun x hx => by cases hx⟩
  · cases hcs
    rw [hc] at hel
    rw [hx] at hz
    have each : ∀ i, i < len → ∃ u : α, (∀ (j : Nat) (c : Value), (encA u)[j]? = some c → W.cell? (a.add (i * sz + j)) = some c) ∧ p u := by
      intro i hil
      have hi := hel i hil
      rw [List.getElem?_eq_getElem (by omega)] at hi
      obtain ⟨cs', h1, h2⟩ := Option.bind_eq_some_iff.1 hi
      obtain ⟨u, rfl, hp⟩ := he _ _ _ h2 (fun z hq => hz z (by
        simp only [DataW.weights, ht, List.mem_cons, List.mem_append]
        exact Or.inr (Or.inl (weights_all_mem (List.mem_map.2 ⟨_, List.getElem_mem (by omega), rfl⟩) hq))))
      obtain ⟨_, hlen, hcell⟩ := World.cells?_some h1
      refine ⟨u, fun j c hj => ?_, hp⟩
      have hjs : j < sz := by have := (List.getElem?_eq_some_iff.1 hj).1; rw [hk] at this; exact this
      rw [← add_add, hcell j hjs, hj]
    obtain ⟨l, hl1, hl2⟩ := list_of len each
    refine ⟨l, ⟨some a, cap, by rw [hl1], by omega, by unfold maxLen at hcap; omega, fun hne => ?_⟩, fun x hx => ?_⟩
    · obtain ⟨b, o, spot⟩ := a
      obtain ⟨y, hy⟩ : ∃ y, l[0]? = some y := by
        cases l with
        | nil => exact absurd rfl hne
        | cons y _ => exact ⟨y, rfl⟩
      have hy0 : ∃ c, (encA y)[0]? = some c := ⟨(encA y)[0]'(by rw [hk]; exact hpos), List.getElem?_eq_getElem (by rw [hk]; exact hpos)⟩
      obtain ⟨c, hc0⟩ := hy0
      have hspot : spot = none := by simpa [Addr.add] using World.cell?_spot ((hl2 0 y hy).1 0 c hc0)
      subst hspot
      refine ⟨b, o, rfl, fun k x hx i u hu => ?_⟩
      have := (hl2 k x hx).1 i u hu
      rw [Addr.add_lit] at this
      rwa [← Nat.add_assoc] at this
    · obtain ⟨i, hi⟩ := List.getElem?_of_mem hx
      exact (hl2 i x hi).2
end
end
end Go.Proofs.YtideclfpbpjebaaGreatDoor
